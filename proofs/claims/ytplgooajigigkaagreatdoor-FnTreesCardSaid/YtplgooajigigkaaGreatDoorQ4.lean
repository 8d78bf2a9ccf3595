/- 4 -/
import Derived.Test.YtplgooajigigkaaGreatDoorQ3
namespace Go.Proofs.YtplgooajigigkaaGreatDoor.aZ
variable {g x:Gm} {a b:List Nat} {D E F:cZ} {i j k:Nat}
def born(g:Gm):Nat:=
 max (g.l.attach.foldr (λx m=>max (born x.1+1) m) 0) (g.r.attach.foldr (λx m=>max (born x.1+1) m) 0)
termination_by sizeOf g
decreasing_by
 .exact Gm.jc x.2
 .exact Gm.jb x.2
theorem yt{α:Type}(f:α->Nat)(l:List α)(n:Nat):l.foldr (λx m=>max (f x+1) m) 0<=n↔∀x,x∈l->f x<n:=by
 induction l with
 |nil=>simp
 |cons a l ih=>simp only[List.foldr_cons,Nat.max_le,dZ,ih];constructor
               .rintro⟨h1,h2⟩ x (rfl|h)
                .omega
                .exact h2 x h
               .intro h;exact⟨h a (.inl rfl),λx hx=>h x (.inr hx)⟩
theorem qF(g:Gm)(n:Nat):born g<=n↔(∀x,x∈g.l->born x<n)/\(∀x,x∈g.r->born x<n):=by
 rw[born,Nat.max_le,yt (λx:{x // x∈g.l}=>born x.1),yt (λx:{x // x∈g.r}=>born x.1)];constructor
 .rintro⟨h1,h2⟩;exact⟨λx hx=>h1 ⟨x,hx⟩ (by simp),λx hx=>h2 ⟨x,hx⟩ (by simp)⟩
 .rintro⟨h1,h2⟩;exact⟨λx _=>h1 x.1 x.2,λx _=>h2 x.1 x.2⟩
theorem FV(h:x∈g.l):born x<born g:=((qF g _).1 (ax _)).1 x h
theorem FU(h:x∈g.r):born x<born g:=((qF g _).1 (ax _)).2 x h
theorem kT{a b:Gm}(h:Same a b):born a=born b:=by
 have h':=h;rw[same_iff]at h';obtain⟨h1,h2,h3,h4⟩:=h';apply Nat.le_antisymm
 .rw[qF]
  refine⟨λx hx=>?_,λx hx=>?_⟩
  .obtain⟨y,hy,s⟩:=h1 x hx;rw[kT s];exact FV hy
  .obtain⟨y,hy,s⟩:=h3 x hx;rw[kT s];exact FU hy
 .rw[qF]
  refine⟨λy hy=>?_,λy hy=>?_⟩
  .obtain⟨x,hx,s⟩:=h2 y hy;rw[<-kT s];exact FV hx
  .obtain⟨x,hx,s⟩:=h4 y hy;rw[<-kT s];exact FU hx
termination_by sizeOf a+sizeOf b
decreasing_by
 .have:=Gm.jc hx;have:=Gm.jc hy;omega
 .have:=Gm.jb hx;have:=Gm.jb hy;omega
 .have:=Gm.jc hx;have:=Gm.jc hy;omega
 .have:=Gm.jb hx;have:=Gm.jb hy;omega
def cl:List Nat->List Nat->Int
 |[],[]=>0
 |[],_ :: _=>-1
 |_ :: _,[]=>1
 |a :: l,b :: m=>if a<b then -1 else if b<a then 1 else cl l m
theorem XV(a:List Nat):cl a a=0:=by induction a with
 |nil=>rfl
 |cons x a ih=>simp[cl,ih]
theorem TY(a b:List Nat):cl b a=- cl a b:=by
 induction a generalizing b with
 |nil=>cases b <;> simp[cl]
 |cons x a ih=>
  cases b with
  |nil=>simp[cl]
  |cons y b=>
   simp only[cl];by_cases h1:x<y
   .rw[if_neg (by omega),if_pos h1,if_pos h1];rfl
   .by_cases h2:y<x
    .rw[if_pos h2,if_neg h1,if_pos h2]
    .rw[if_neg h2,if_neg h1,if_neg h1,if_neg h2];exact ih b
theorem AP(h:cl a b=0):a=b:=by
 induction a generalizing b with
 |nil=>cases b with
  |nil=>rfl
  |cons y b=>simp[cl]at h
 |cons x a ih=>
  cases b with
  |nil=>simp[cl]at h
  |cons y b=>
   simp only[cl]at h;split at h
   .omega
   .split at h
    .omega
    .rw[ih h,show x=y by omega]
theorem Jo{c:List Nat}(h:cl a b<0)(k:cl b c<0):cl a c<0:=by
 induction a generalizing b c with
 |nil=>
  cases b with
  |nil=>simp[cl]at h
  |cons y b=>
   cases c with
   |nil=>simp[cl]at k
   |cons z c=>simp[cl]
 |cons x a ih=>
  cases b with
  |nil=>simp[cl]at h
  |cons y b=>
   cases c with
   |nil=>simp[cl]at k
   |cons z c=>
    simp only[cl]at h k ⊢;split at h <;> split at k <;> try(split at h <;> try omega)<;> try(split at k <;> try omega)
    all_goals first
     |(rw[if_pos (by omega)];omega)
     |(rename_i h1 h2;rw[if_neg (by omega),if_neg (by omega)];exact ih h k)
     |(split at k <;> first|omega|(rw[if_pos (by omega)];omega)|(rw[if_neg (by omega),if_neg (by omega)];exact ih h k))
def nc(a b:Nd):Int:=if cl a.1 b.1≠0 then cl a.1 b.1 else cl a.2 b.2
theorem AA(a:Nd):nc a a=0:=by simp[nc,XV]
theorem xQ{a b:Nd}(h:nc a b=0):a=b:=by
 unfold nc at h;split at h
 .contradiction
 .rename_i h1;exact Prod.ext (AP (by simpa using h1)) (AP h)
theorem yZ(a b:Nd):nc b a=- nc a b:=by
 unfold nc;rw[TY a.1 b.1,TY a.2 b.2];by_cases h:cl a.1 b.1=0
 .simp[h]
 .rw[if_pos (by omega),if_pos h]
theorem qY{a b c:Nd}(h:nc a b<0)(k:nc b c<0):nc a c<0:=by
 unfold nc at *;by_cases h1:cl a.1 b.1=0
 .have e:=AP h1
  rw[if_neg (by simpa using h1)]at h;rw[e];by_cases h2:cl b.1 c.1=0
  .rw[if_neg (by simpa using h2)]at k ⊢;exact Jo h k
  .rw[if_pos h2]at k ⊢;exact k
 .rw[if_pos h1]at h
  by_cases h2:cl b.1 c.1=0
  .have e:=AP h2
   rw[<-e,if_pos h1];exact h
  .rw[if_pos h2]at k
   have:=Jo h k;rw[if_pos (by omega)];exact this
def Ahead(D:cZ)(i j:Nat):Prop:=
 born (vl D i)<born (vl D j)\/born (vl D i)=born (vl D j)/\nc (D.getD i ([],[])) (D.getD j ([],[]))<0
inductive Reach(D:cZ)(i:Nat):Nat->Prop
 |here:Reach D i i
 |left {j k:Nat} {nd:Nd} (h:Reach D i j) (hd:D[j]?=some nd) (hk:k∈nd.1):Reach D i k
 |right {j k:Nat} {nd:Nd} (h:Reach D i j) (hd:D[j]?=some nd) (hk:k∈nd.2):Reach D i k
theorem mH(h:WF D):∀i,born (vl D i)<=i:=by
 intro i
 induction i using Nat.strongRecOn with
 |_ i ih=>
  cases hd:D[i]? with
  |none=>rw[EG hd,qF];simp[Gm.l,Gm.r]
  |some nd=>
   obtain⟨h1,h2⟩:=h i nd hd;rw[qF,oN h hd,oK h hd];refine⟨λx hx=>?_,λx hx=>?_⟩
   .obtain⟨k,hk,rfl⟩:=ay.1 hx;have:=ih k (h1 k hk);have:=h1 k hk;omega
   .obtain⟨k,hk,rfl⟩:=ay.1 hx;have:=ih k (h2 k hk);have:=h2 k hk;omega
structure eD(F:cZ):Prop where
 good:Good F
 ne:F≠[]
 sorted:∀i j,i<j->j<F.length->Ahead F i j
 reach:∀i,i<F.length->Reach F (F.length-1) i
def eQ(F:cZ):Gm:=vl F (F.length-1)
theorem mf(h:WF D)(hr:Reach D i j):j<=i:=by
 induction hr with
 |here=>omega
 |left _ hd hk ih=>have:=(h _ _ hd).1 _ hk;omega
 |right _ hd hk ih=>have:=(h _ _ hd).2 _ hk;omega
theorem rT(hD:Good D)(hE:Good E){a:Nat}(ha:a<E.length)(s:Same (vl D i) (vl E a))(hr:Reach D i j):
 ∃b,b<E.length/\Reach E a b/\Same (vl D j) (vl E b):=by
 induction hr with
 |here=>exact⟨a,ha,.here,s⟩
 |left hr hd hk ih=>
  obtain⟨b,hb,rb,sb⟩:=ih;have db:E[b]?=some E[b]:=ae hb;rw[same_iff,oN hD.wf hd,oN hE.wf db]at sb;obtain⟨y,hy,t⟩:=sb.1 _ (bD hk);obtain⟨m,hm,rfl⟩:=ay.1 hy;exact⟨m,by have:=(hE.wf b _ db).1 m hm;omega,.left rb db hm,t⟩
 |right hr hd hk ih=>
  obtain⟨b,hb,rb,sb⟩:=ih;have db:E[b]?=some E[b]:=ae hb;rw[same_iff,oK hD.wf hd,oK hE.wf db]at sb;obtain⟨y,hy,t⟩:=sb.2.2.1 _ (bD hk);obtain⟨m,hm,rfl⟩:=ay.1 hy;exact⟨m,by have:=(hE.wf b _ db).2 m hm;omega,.right rb db hm,t⟩
theorem EF(hD:WF D)(hE:WF E)(h:D.take k=E.take k):∀i,i<k->i<D.length->vl D i=vl E i:=by
 intro i
 induction i using Nat.strongRecOn with
 |_ i ih=>
  intro hik hi;have hd:D[i]?=some D[i]:=ae hi;have he:E[i]?=some D[i]:=by
   have:=congrArg (λl=>l[i]?) h;simp only[kK,if_pos hik]at this;rw[<-this];exact hd
  obtain⟨h1,h2⟩:=hD i _ hd;rw[mK hD hd,mK hE he];congr 1
  .exact bE λm hm=>ih m (h1 m hm) (by have:=h1 m hm;omega) (by have:=h1 m hm;omega)
  .exact bE λm hm=>ih m (h2 m hm) (by have:=h2 m hm;omega) (by have:=h2 m hm;omega)
theorem Mi(hF:eD F)(h:i<=j)(hj:j<F.length):born (vl F i)<=born (vl F j):=by
 rcases fe i j with h1|h1
 .rcases hF.sorted i j h1 hj with h2|h2 <;> omega
 .rw[show i=j by omega];exact ax _
theorem mD(h:i<D.length):D.getD i ([],[])=D[i]:=by simp[List.getD,h]
theorem Az(hF:eD F)(hE:eD E)(hs:Same (eQ F) (eQ E))(hk:F.take k=E.take k)(hn:k<F.length):
 ∃j,∃hj:j<E.length,k<=j/\Same (vl F k) (vl E j)/\E[j]=F[k]:=by
 have nF:0<F.length:=by omega
 have nE:0<E.length:=lT.2 hE.ne;obtain⟨j,hj,_,sj⟩:=rT hF.good hE.good (by omega:E.length-1<E.length) hs (hF.reach k hn);have hkj:k<=j:=by
  rcases fe j k with h|h
  .have e:=EF hF.good.wf hE.good.wf hk j h (by omega)
   rw[<-e]at sj;have:=ma hF.good k j hn (by omega) sj;omega
  .exact h
 refine⟨j,hj,hkj,sj,?_⟩;have dF:F[k]?=some F[k]:=ae hn;have dE:E[j]?=some E[j]:=ae hj;have bj:=kT sj;have low:∀o,o<E.length->born (vl E o)<born (vl E j)->o<k:=by
  intro o ho hb;obtain⟨m,hm,_,sm⟩:=rT hE.good hF.good (by omega:F.length-1<F.length) (iF hs) (hE.reach o ho);have bm:=kT sm;have hmk:m<k:=by
   rcases fe m k with h|h
   .exact h
   .have:=Mi hF h hm;omega
  have e:=EF hF.good.wf hE.good.wf hk m hmk hm;rw[e]at sm;have hmE:m<E.length:=by
   have:=congrArg List.length hk;simp at this;omega
  have:=ma hE.good o m ho hmE sm;omega
 have wF:=hF.good.wf k _ dF;have wE:=hE.good.wf j _ dE;have s':=sj;rw[same_iff,oN hF.good.wf dF,oN hE.good.wf dE,oK hF.good.wf dF,oK hE.good.wf dE]at s';obtain⟨s1,s2,s3,s4⟩:=s';have key:∀x y,x<k->x<F.length->y<E.length->born (vl E y)<born (vl E j)->Same (vl F x) (vl E y)->x=y:=by
  intro x y hx hxF hy hb t;have hyk:=low y hy hb;have hyF:y<F.length:=by omega
  rw[<-EF hF.good.wf hE.good.wf hk y hyk hyF]at t;exact ma hF.good x y hxF hyF t
 have bl:∀y,y∈(E[j]).1->born (vl E y)<born (vl E j):=λy hy=>FV (by rw[oN hE.good.wf dE];exact bD hy)
 have br:∀y,y∈(E[j]).2->born (vl E y)<born (vl E j):=λy hy=>FU (by rw[oK hE.good.wf dE];exact bD hy)
 refine Prod.ext ?_ ?_
 .refine tC (hE.good.yL _ (aj hj)).1 (hF.good.yL _ (aj hn)).1 λy=>⟨λhy=>?_,λhx=>?_⟩
  .obtain⟨x,hx,t⟩:=s2 _ (bD hy)
   obtain⟨x,hx2,rfl⟩:=ay.1 hx;have:=wF.1 x hx2;have:=wE.1 y hy;rw[<-key x y (by omega) (by omega) (by omega) (bl y hy) t];exact hx2
  .obtain⟨z,hz,t⟩:=s1 _ (bD hx)
   obtain⟨z,hz2,rfl⟩:=ay.1 hz;have:=wF.1 y hx;have:=wE.1 z hz2;rw[key y z (by omega) (by omega) (by omega) (bl z hz2) t];exact hz2
 .refine tC (hE.good.yL _ (aj hj)).2 (hF.good.yL _ (aj hn)).2 λy=>⟨λhy=>?_,λhx=>?_⟩
  .obtain⟨x,hx,t⟩:=s4 _ (bD hy)
   obtain⟨x,hx2,rfl⟩:=ay.1 hx;have:=wF.2 x hx2;have:=wE.2 y hy;rw[<-key x y (by omega) (by omega) (by omega) (br y hy) t];exact hx2
  .obtain⟨z,hz,t⟩:=s3 _ (bD hx)
   obtain⟨z,hz2,rfl⟩:=ay.1 hz;have:=wF.2 y hx;have:=wE.2 z hz2;rw[key y z (by omega) (by omega) (by omega) (br z hz2) t];exact hz2
theorem step_eq(hF:eD F)(hE:eD E)(hs:Same (eQ F) (eQ E))(hk:F.take k=E.take k)(hn:k<F.length)(hm:k<E.length):F[k]=E[k]:=by
 obtain⟨j,hj,hkj,sj,ej⟩:=Az hF hE hs hk hn;obtain⟨i,hi,hki,si,ei⟩:=Az hE hF (iF hs) hk.symm hm;rcases Nat.eq_or_lt_of_le hkj with h|h
 .subst h;exact ej.symm
 .rcases Nat.eq_or_lt_of_le hki with h'|h'
  .subst h';exact ei
  .have b1:=kT sj
   have b2:=kT si;have a1:=hE.sorted k j h hj;have a2:=hF.sorted k i h' hi;unfold Ahead at a1 a2;rw[mD hm,mD hj,ej]at a1;rw[mD hn,mD hi,ei]at a2;rcases a1 with a1|⟨a1,c1⟩
   .rcases a2 with a2|⟨a2,c2⟩ <;> omega
   .rcases a2 with a2|⟨a2,c2⟩
    .omega
    .have:=yZ F[k] E[k]
     omega
theorem zW(hF:eD F)(hE:eD E)(hs:Same (eQ F) (eQ E)):F=E:=by
 have main:∀k,k<=F.length->k<=E.length/\F.take k=E.take k:=by
  intro k
  induction k with
  |zero=>intro _;exact⟨az _,by simp⟩
  |succ k ih=>
   intro hk;obtain⟨h1,h2⟩:=ih (by omega);obtain⟨j,hj,hkj,_,_⟩:=Az hF hE hs h2 (by omega);refine⟨by omega,?_⟩;rw[aW (by omega),aW (by omega),h2,step_eq hF hE hs h2 (by omega) (by omega)]
 obtain⟨h1,h2⟩:=main F.length (ax _);rcases Nat.eq_or_lt_of_le h1 with h|h
 .rw[cO,h,cO]at h2;exact h2
 .obtain⟨j,hj,hkj,_,_⟩:=Az hE hF (iF hs) h2.symm h
  omega
end Go.Proofs.YtplgooajigigkaaGreatDoor.aZ
namespace Go.Proofs.YtplgooajigigkaaGreatDoor.aZ
variable {g h k x:Gm}
theorem DJ(SL:Gm->Prop)
 (cover:∀l,l∈g.l->∃i,SL i/\Ge i l)
 (step:∀i,SL i->(∃x,x∈h.l/\Ge x i)\/(∃k,k∈i.r/\Ge g k/\∀x,x∈k.l->SL x))
 (QS:∀r,r∈h.r->¬Ge g r):Ge h g:=by
 have main:∀n i,sizeOf i<n->SL i->¬Ge i h:=by
  intro n
  induction n with
  |zero=>intro i h0;omega
  |succ n ih=>
   intro i hn hi hg;rcases step i hi with⟨x,hx,k⟩|⟨k,hk,hgk,hc⟩
   .exact ku hx (bZ _ _ _ k hg)
   .refine((dY i h).1 hg).1 k hk ?_
    rw[dY];refine⟨λr hr c=>QS r hr (bZ _ _ _ hgk c),λx hx c=>?_⟩;have h1:=Gm.jb hk;have h2:=Gm.jc hx;exact ih x (by omega) (hc x hx) c
 rw[dY];refine⟨QS,λl hl c=>?_⟩;obtain⟨i,hi,k⟩:=cover l hl;exact main _ i (Nat.lt_succ_self _) hi (bZ _ _ _ k c)
theorem DI(SR:Gm->Prop)
 (cover:∀r,r∈g.r->∃i,SR i/\Ge r i)
 (step:∀i,SR i->(∃x,x∈h.r/\Ge i x)\/(∃k,k∈i.l/\Ge k g/\∀x,x∈k.r->SR x))
 (QT:∀l,l∈h.l->¬Ge l g):Ge g h:=by
 have main:∀n i,sizeOf i<n->SR i->¬Ge h i:=by
  intro n
  induction n with
  |zero=>intro i h0;omega
  |succ n ih=>
   intro i hn hi hg;rcases step i hi with⟨x,hx,k⟩|⟨k,hk,hgk,hc⟩
   .exact lG hx (bZ _ _ _ hg k)
   .refine((dY h i).1 hg).2 k hk ?_
    rw[dY];refine⟨λx hx c=>?_,λl hl c=>QT l hl (bZ _ _ _ c hgk)⟩;have h1:=Gm.jc hk;have h2:=Gm.jb hx;exact ih x (by omega) (hc x hx) c
 rw[dY];refine⟨λr hr c=>?_,QT⟩;obtain⟨i,hi,k⟩:=cover r hr;exact main _ i (Nat.lt_succ_self _) hi (bZ _ _ _ c k)
theorem MN(hk:Ge g k)(hx:x∈k.l):¬Ge x g:=λc=>ku hx (bZ _ _ _ c hk)
theorem MM(hk:Ge k g)(hx:x∈k.r):¬Ge g x:=λc=>lG hx (bZ _ _ _ hk c)
theorem stays{α:Type}(ge:α->α->Prop)(refl:∀a,ge a a)(trans:∀a b c,ge a b->ge b c->ge a c)
 (l:List α) (X8:∀a b,a∈l->b∈l->ge a b->ge b a->a=b):
 ∀a,a∈l->∃b,b∈l/\ge b a/\∀c,c∈l->ge c b->c=b:=by
 classical
 have main:∀n a,a∈l->(l.filter (λc=>decide (ge c a))).length<=n->∃b,b∈l/\ge b a/\∀c,c∈l->ge c b->c=b:=by
  intro n
  induction n with
  |zero=>
   intro a ha hn;have:a∈l.filter (λc=>decide (ge c a)):=(by simp[ha,refl]);have:=List.length_pos_of_mem this;omega
  |succ n ih=>
   intro a ha hn;by_cases h:∃c,c∈l/\ge c a/\c≠a
   .obtain⟨c,hc,hca,hne⟩:=h
    have hlt:(l.filter (λd=>decide (ge d c))).length<(l.filter (λd=>decide (ge d a))).length:=by
     have e:l.filter (λd=>decide (ge d c))=(l.filter (λd=>decide (ge d a))).filter (λd=>decide (ge d c)):=by
      rw[List.filter_filter];refine nH λd _=>?_
      by_cases h1:ge d c
      .simp[h1,trans _ _ _ h1 hca]
      .simp[h1]
     rw[e];have hm:a∈l.filter (λd=>decide (ge d a)):=(by simp[ha,refl]);have hna:¬ge a c:=λk=>hne (X8 c a hc ha hca k)
     refine Nat.lt_of_le_of_ne (List.length_filter_le _ _) λe2=>?_
     have:=(List.filter_eq_self.1 (List.filter_sublist.eq_of_length e2)) a hm;simp[hna]at this
    obtain⟨b,hb,hbc,hmax⟩:=ih c hc (by omega);exact⟨b,hb,trans _ _ _ hbc hca,hmax⟩
   .exact⟨a,ha,refl a,λc hc hca=>kF λhne=>h ⟨c,hc,hca,hne⟩⟩
 intro a ha;exact main _ a ha (ax _)
end Go.Proofs.YtplgooajigigkaaGreatDoor.aZ
namespace Go.Proofs.YtplgooajigigkaaGreatDoor
open aZ (cZ Gm Canon eU eD eQ Same plus)
def mP(F:cZ):Bool:=decide (1<=F.length/\F.length<=120/\∀i (h:i<F.length),(F[i]).1.length<=24/\(F[i]).2.length<=24)
end Go.Proofs.YtplgooajigigkaaGreatDoor
namespace Go.Proofs.YtplgooajigigkaaGreatDoor.aZ
variable {D:cZ}
theorem Jy{i j k:Nat}(h1:Ahead D i j)(h2:Ahead D j k):Ahead D i k:=by
 unfold Ahead at *;rcases h1 with h1|⟨h1,c1⟩
 .rcases h2 with h2|⟨h2,_⟩
  .exact .inl (by omega)
  .exact .inl (by omega)
 .rcases h2 with h2|⟨h2,c2⟩
  .exact .inl (by omega)
  .exact .inr ⟨by omega,qY c1 c2⟩
theorem O4(hne:D≠[])(wf:WF D)(yL:∀nd,nd∈D->Asc nd.1/\Asc nd.2)(hs:∀i,i+1<D.length->Ahead D i (i+1))(hr:∀i,i<D.length->Reach D (D.length-1) i):eD D:=by
 have sorted:∀i j,i<j->j<D.length->Ahead D i j:=by
  intro i j
  induction j with
  |zero=>intro h;omega
  |succ j ih=>
   intro h hj;by_cases e:i=j
   .subst e;exact hs i hj
   .exact Jy (ih (by omega) (by omega)) (hs j hj)
 refine⟨⟨wf,yL,?_⟩,hne,sorted,hr⟩;rw[List.nodup_iff_pairwise_ne,bP];intro i j hi hj hij e;have di:=ae hi;have dj:=ae hj;have s:=sorted i j hij hj;have ev:vl D i=vl D j:=by rw[mK wf di,mK wf dj,e]
 unfold Ahead at s;rw[ev,mD hi,mD hj,e,AA]at s;omega
theorem KU(hne:D≠[])(wf:WF D)(yL:∀nd,nd∈D->Asc nd.1/\Asc nd.2):eD D↔(∀i,i+1<D.length->Ahead D i (i+1))/\∀i,i<D.length->Reach D (D.length-1) i:=
 ⟨λh=>⟨λi hi=>h.sorted i (i+1) (by omega) hi,h.reach⟩,λ⟨h1,h2⟩=>O4 hne wf yL h1 h2⟩
end Go.Proofs.YtplgooajigigkaaGreatDoor.aZ
namespace Go.Proofs.YtplgooajigigkaaGreatDoor
open aZ (cZ Nd Gm Canon eU eD eQ Same plus vl N0 nf ad9)
variable {E:cZ} {i:Nat}
theorem Ky(g:aZ.Good E)(hi:i<E.length):((vl E i).l.Pairwise λx y=>¬Same x y)/\((vl E i).r.Pairwise λx y=>¬Same x y):=by
 have d:=ae hi;obtain⟨w1,w2⟩:=g.wf i _ d;obtain⟨a1,a2⟩:=g.yL _ (aj hi);rw[aZ.oN g.wf d,aZ.oK g.wf d,gP,gP];refine⟨fu (λ{x y} hx hy h s=>?_) a1,fu (λ{x y} hx hy h s=>?_) a2⟩
 .have:=w1 x hx;have:=w1 y hy
  have:=aZ.ma g x y (by omega) (by omega) s;omega
 .have:=w2 x hx;have:=w2 y hy
  have:=aZ.ma g x y (by omega) (by omega) s;omega
theorem Rp(g:aZ.Good E)(hi:i<E.length):(vl E i).l.length=(E[i]).1.length/\(vl E i).r.length=(E[i]).2.length:=by
 have d:=ae hi;rw[aZ.oN g.wf d,aZ.oK g.wf d,bH,bH];exact⟨rfl,rfl⟩
