/- 2 -/
import Derived.Test.YtplgooajigigkaaGreatDoorQ1
namespace Go.Proofs.YtplgooajigigkaaGreatDoor.aZ
structure ad9(N:Gm->Prop):Prop where
 same:∀g h,Same g h->N g->N h
 canon:∀g,N g->Canon g
 left:∀g x,N g->x∈g.l->N x/\Ge g x
 right:∀g x,N g->x∈g.r->N x/\Ge x g
theorem xh{a b:Gm}(s:Same a b)(h:Canon a):Canon b:=by
 obtain⟨s1,s2,s3,s4⟩:=(same_iff _ _).1 s;have t:=h.tight;refine .mk _ ⟨λx y hx hy g=>?_,λx y hx hy g=>?_,λx hx y hy g=>?_,λx hx y hy g=>?_⟩ (λx hx=>?_) (λx hx=>?_)
 .obtain⟨u,hu,e⟩:=s2 x hx
  obtain⟨v,hv,f⟩:=s2 y hy;exact fE (iF e) (fE (t.1 u v hu hv (bZ _ _ _ e.eqv.1 (bZ _ _ _ g f.eqv.2))) f)
 .obtain⟨u,hu,e⟩:=s4 x hx
  obtain⟨v,hv,f⟩:=s4 y hy;exact fE (iF e) (fE (t.2.1 u v hu hv (bZ _ _ _ e.eqv.1 (bZ _ _ _ g f.eqv.2))) f)
 .obtain⟨u,hu,e⟩:=s2 x hx
  obtain⟨v,hv,f⟩:=((same_iff _ _).1 e).2.2.2 y hy;exact t.2.2.1 u hu v hv (bZ _ _ _ s.eqv.1 (bZ _ _ _ g f.eqv.2))
 .obtain⟨u,hu,e⟩:=s4 x hx
  obtain⟨v,hv,f⟩:=((same_iff _ _).1 e).2.1 y hy;exact t.2.2.2 u hu v hv (bZ _ _ _ f.eqv.1 (bZ _ _ _ g s.eqv.2))
 .obtain⟨u,hu,e⟩:=s2 x hx
  exact xh e (h.l hu)
 .obtain⟨u,hu,e⟩:=s4 x hx
  exact xh e (h.r hu)
termination_by sizeOf a
decreasing_by
 .exact Gm.jc hu
 .exact Gm.jb hu
section
variable {N:Gm->Prop} [DecidablePred N] {T U:Gm}
end
theorem iT(a b c:Gm):Same (plus (plus a b) c) (plus a (plus b c)):=by
 rw[same_iff];refine⟨λx hx=>?_,λx hx=>?_,λx hx=>?_,λx hx=>?_⟩
 .rcases iq.1 hx with⟨y,hy,rfl⟩|⟨y,hy,rfl⟩
  .rcases iq.1 hy with⟨z,hz,rfl⟩|⟨z,hz,rfl⟩
   .exact⟨_,iq.2 (.inl ⟨z,hz,rfl⟩),iT z b c⟩
   .exact⟨_,iq.2 (.inr ⟨_,iq.2 (.inl ⟨z,hz,rfl⟩),rfl⟩),iT a z c⟩
  .exact⟨_,iq.2 (.inr ⟨_,iq.2 (.inr ⟨y,hy,rfl⟩),rfl⟩),iT a b y⟩
 .rcases iq.1 hx with⟨y,hy,rfl⟩|⟨y,hy,rfl⟩
  .exact⟨_,iq.2 (.inl ⟨_,iq.2 (.inl ⟨y,hy,rfl⟩),rfl⟩),iT y b c⟩
  .rcases iq.1 hy with⟨z,hz,rfl⟩|⟨z,hz,rfl⟩
   .exact⟨_,iq.2 (.inl ⟨_,iq.2 (.inr ⟨z,hz,rfl⟩),rfl⟩),iT a z c⟩
   .exact⟨_,iq.2 (.inr ⟨z,hz,rfl⟩),iT a b z⟩
 .rcases il.1 hx with⟨y,hy,rfl⟩|⟨y,hy,rfl⟩
  .rcases il.1 hy with⟨z,hz,rfl⟩|⟨z,hz,rfl⟩
   .exact⟨_,il.2 (.inl ⟨z,hz,rfl⟩),iT z b c⟩
   .exact⟨_,il.2 (.inr ⟨_,il.2 (.inl ⟨z,hz,rfl⟩),rfl⟩),iT a z c⟩
  .exact⟨_,il.2 (.inr ⟨_,il.2 (.inr ⟨y,hy,rfl⟩),rfl⟩),iT a b y⟩
 .rcases il.1 hx with⟨y,hy,rfl⟩|⟨y,hy,rfl⟩
  .exact⟨_,il.2 (.inl ⟨_,il.2 (.inl ⟨y,hy,rfl⟩),rfl⟩),iT y b c⟩
  .rcases il.1 hy with⟨z,hz,rfl⟩|⟨z,hz,rfl⟩
   .exact⟨_,il.2 (.inl ⟨_,il.2 (.inr ⟨z,hz,rfl⟩),rfl⟩),iT a z c⟩
   .exact⟨_,il.2 (.inr ⟨z,hz,rfl⟩),iT a b z⟩
termination_by sizeOf a+sizeOf b+sizeOf c
decreasing_by
 all_goals first
  |(have:=Gm.jc hz;omega)
  |(have:=Gm.jc hy;omega)
  |(have:=Gm.jb hz;omega)
  |(have:=Gm.jb hy;omega)
section
variable {N:Gm->Prop} [DecidablePred N] {T U:Gm}
end
end Go.Proofs.YtplgooajigigkaaGreatDoor.aZ
namespace Go.Proofs.YtplgooajigigkaaGreatDoor.aZ
variable {g x a b:Gm}
def on:Gm->Gm
 |g=>.mk (jX :: g.l.attach.map λx=>on x.1) (g.r.attach.map λx=>on x.1)
termination_by g=>sizeOf g
decreasing_by
 .exact Gm.jc x.2
 .exact Gm.jb x.2
theorem YD(g:Gm):on g=.mk (jX :: g.l.map on) (g.r.map on):=by rw[on];simp
theorem wS:x∈(on g).l↔x=jX\/∃y,y∈g.l/\on y=x:=by rw[YD];simp[Gm.l]
theorem Br:x∈(on g).r↔∃y,y∈g.r/\on y=x:=by rw[YD];simp[Gm.r]
theorem Qq:¬x∈jX.l:=by simp[jX,Gm.l]
theorem Zp:¬x∈jX.r:=by simp[jX,Gm.r]
theorem ZA(g:Gm):¬Ge jX (on g):=λh=>ku (wS.2 (.inl rfl)) h
theorem DV(a b:Gm):Ge (on a) (on b)↔Ge a b:=by
 rw[dY (on a),dY a];refine and_congr ⟨λh r hr k=>?_,λh r hr k=>?_⟩ ⟨λh l hl k=>?_,λh l hl k=>?_⟩
 .exact h _ (Br.2 ⟨r,hr,rfl⟩) ((DV b r).2 k)
 .obtain⟨y,hy,rfl⟩:=Br.1 hr
  exact h y hy ((DV b y).1 k)
 .exact h _ (wS.2 (.inr ⟨l,hl,rfl⟩)) ((DV l a).2 k)
 .rcases wS.1 hl with rfl|⟨y,hy,rfl⟩
  .exact ZA a k
  .exact h y hy ((DV y a).1 k)
termination_by sizeOf a+sizeOf b
decreasing_by
 .have:=Gm.jb hr;omega
 .have:=Gm.jb hy;omega
 .have:=Gm.jc hl;omega
 .have:=Gm.jc hy;omega
theorem Rv(h:eU a b):eU (on a) (on b):=⟨(DV _ _).2 h.1,(DV _ _).2 h.2⟩
theorem Cj(h1:∀x,x∈a.l->∃y,y∈b.l/\Ge y x)(h2:∀y,y∈b.l->∃x,x∈a.l/\Ge x y)(h3:∀x,x∈a.r->∃y,y∈b.r/\Ge x y)(h4:∀y,y∈b.r->∃x,x∈a.r/\Ge y x):eU a b:=by
 constructor
 .rw[dY]
  refine⟨λr hr k=>?_,λl hl k=>?_⟩
  .obtain⟨y,hy,g⟩:=h3 r hr
   exact lG hy (bZ _ _ _ k g)
  .obtain⟨x,hx,g⟩:=h2 l hl
   exact ku hx (bZ _ _ _ g k)
 .rw[dY]
  refine⟨λr hr k=>?_,λl hl k=>?_⟩
  .obtain⟨x,hx,g⟩:=h4 r hr
   exact lG hx (bZ _ _ _ k g)
  .obtain⟨y,hy,g⟩:=h1 l hl
   exact ku hy (bZ _ _ _ g k)
theorem YB(n:Nat):eU (on (nn n)) (nn (n+1)):=by
 induction n with
 |zero=>
  refine Cj (λx hx=>?_) (λy hy=>?_) (λx hx=>?_) (λy hy=>?_)
  .rcases wS.1 hx with rfl|⟨y,hy,rfl⟩
   .exact⟨nn 0,by simp[Bw],j6 _⟩
   .simp[Bw]at hy
  .simp[Bw]at hy;subst hy;exact⟨jX,wS.2 (.inl rfl),j6 _⟩
  .obtain⟨y,hy,rfl⟩:=Br.1 hx;simp[KC]at hy
  .simp[KC]at hy
 |succ n ih=>
  refine Cj (λx hx=>?_) (λy hy=>?_) (λx hx=>?_) (λy hy=>?_)
  .rcases wS.1 hx with rfl|⟨y,hy,rfl⟩
   .exact⟨nn (n+1),by simp[Bw],(dY _ _).2 ⟨λr hr=>by simp[KC]at hr,λl hl=>absurd hl Qq⟩⟩
   .simp[Bw]at hy;subst hy;exact⟨nn (n+1),by simp[Bw],ih.2⟩
  .simp[Bw]at hy;subst hy;exact⟨on (nn n),wS.2 (.inr ⟨nn n,by simp[Bw],rfl⟩),ih.1⟩
  .obtain⟨y,hy,rfl⟩:=Br.1 hx;simp[KC]at hy
  .simp[KC]at hy
theorem MX:∀m:Nat,eU (on (nm m)) (nf m 1)
 | 0=>YB 0
 |m+1=>by
  have e:nf (m+1) 1=.mk [nf (m+1) (1-1)] [nf (m+1) (1+1)]:=lH (by omega);have e0:nf (m+1) (1-1)=jX:=by
   have:∀q,nf q 0=jX:=λq=>by
    induction q with
    |zero=>rfl
    |succ q ih=>rw[show(0:Int)=2*0 by omega,eO];exact ih
   exact this _
  have e1:nf (m+1) (1+1)=nf m 1:=eO m 1;rw[e,e0,e1];refine Cj (λx hx=>?_) (λy hy=>?_) (λx hx=>?_) (λy hy=>?_)
  .rcases wS.1 hx with rfl|⟨y,hy,rfl⟩
   .exact⟨jX,by simp[Gm.l],j6 _⟩
   .simp[ZE]at hy
  .simp[Gm.l]at hy;subst hy;exact⟨jX,wS.2 (.inl rfl),j6 _⟩
  .obtain⟨y,hy,rfl⟩:=Br.1 hx
   simp[Ww]at hy;subst hy;exact⟨nf m 1,by simp[Gm.r],(MX m).1⟩
  .simp[Gm.r]at hy;subst hy
   exact⟨on (nm m),Br.2 ⟨nm m,by simp[Ww],rfl⟩,(MX m).2⟩
theorem Rt(k:Int){m:Nat}(h:-(m:Int)<=k)(h1:m=0\/k<=1-m):eU (on (nf 0 k)) (nf m (k+(m+1))):=by
 show eU (on (nw k)) _;by_cases m0:m=0
 .subst m0
  have e:nw k=nn k.toNat:=by unfold nw;rw[if_pos (by omega)]
  rw[e];have:=YB k.toNat;have e2:nf 0 (k+((0:Nat)+1))=nn (k.toNat+1):=by
   show nw (k+((0:Nat)+1))=_;unfold nw;rw[if_pos (show 0<=k+((0:Nat)+1) by omega)];congr 1;omega
  rw[e2];exact this
 .replace h1:k<=1-(m:Int):=h1.resolve_left m0
  by_cases e:k=-(m:Int)
  .subst e
   rw[show -(m:Int)+(m+1)=1 by omega];have e2:nw (-(m:Int))=nm m:=by
    unfold nw;by_cases z:m=0
    .subst z;rfl
    .rw[if_neg (by omega)];congr 1;omega
   rw[e2];exact MX m
  .have hk:k=1-(m:Int):=by omega
   subst hk;obtain⟨q,rfl⟩:∃q,m=q+1:=⟨m-1,by omega⟩;rw[show(1-((q+1:Nat):Int))+(((q+1:Nat):Int)+1)=2*1 by omega,eO];have e2:nw (1-((q+1:Nat):Int))=nm q:=by
    by_cases z:q=0
    .subst z;rfl
    .unfold nw;rw[if_neg (show ¬ 0<=1-((q+1:Nat):Int) by omega)];congr 1;omega
   rw[e2];exact MX q
theorem YC:∀(p:Nat) (k:Int) (m:Nat),-(m:Int)*2 ^ p<=k->(m=0\/k<=(1-(m:Int))*2 ^ p)->eU (on (nf p k)) (nf (p+m) (k+(m+1)*2 ^ p))
 | 0,k,m,h,h1=>by
  have:=Rt k (m:=m) (by simpa using h) (by simpa using h1)
  simpa using this
 |p+1,k,m,h,h1=>by
  have e2:(2:Int) ^ (p+1)=2*2 ^ p:=by rw[Int.pow_succ];omega
  have hm:-(m:Int)*2 ^ (p+1)=2*(-(m:Int)*2 ^ p):=by rw[e2,Int.mul_left_comm]
  have hm1:(1-(m:Int))*2 ^ (p+1)=2*((1-(m:Int))*2 ^ p):=by rw[e2,Int.mul_left_comm]
  have hm2:((m:Int)+1)*2 ^ (p+1)=2*(((m:Int)+1)*2 ^ p):=by rw[e2,Int.mul_left_comm]
  rw[hm]at h;rw[hm1]at h1;rw[hm2,show p+1+m=p+m+1 by omega];have E:∀j:Int,-(m:Int)*2 ^ p<=j->(m=0\/j<=(1-(m:Int))*2 ^ p)->eU (on (nf (p+1) (2*j))) (nf (p+m+1) (2*j+2*(((m:Int)+1)*2 ^ p))):=λj a b=>by
   rw[eO,<-Int.mul_add,eO];exact YC p j m a b
  by_cases ev:k % 2=0
  .have:=E (k / 2) (by omega) (by omega)
   rwa [show 2*(k / 2)=k by omega]at this
  .have E1:=E ((k-1) / 2) (by omega) (by omega)
   have E2:=E ((k+1) / 2) (by omega) (by omega);rw[show 2*((k-1) / 2)=k-1 by omega]at E1;rw[show 2*((k+1) / 2)=k+1 by omega]at E2;generalize hc:2*(((m:Int)+1)*2 ^ p)=c at *;have e3:nf (p+1) k=.mk [nf (p+1) (k-1)] [nf (p+1) (k+1)]:=lH ev;have e4:nf (p+m+1) (k+c)=.mk [nf (p+m+1) (k+c-1)] [nf (p+m+1) (k+c+1)]:=lH (by omega);rw[show k-1+c=k+c-1 by omega]at E1;rw[show k+1+c=k+c+1 by omega]at E2;have z0:∀q,nf q 0=jX:=λq=>by
    induction q with
    |zero=>rfl
    |succ q ih=>rw[show(0:Int)=2*0 by omega,eO];exact ih
   have hz:Ge (nf (p+m+1) (k+c-1)) jX:=by
    rw[<-z0 (p+m+1),kI];have:0<=(2:Int) ^ p:=Int.le_of_lt (Int.pow_pos (by omega));have h5:((m:Int)+1)*2 ^ p=(m:Int)*2 ^ p+2 ^ p:=(by rw[Int.add_mul,Int.one_mul]);have h6:-(m:Int)*2 ^ p=-((m:Int)*2 ^ p):=Int.neg_mul _ _;omega
   rw[e3,e4];refine Cj (λx hx=>?_) (λy hy=>?_) (λx hx=>?_) (λy hy=>?_)
   .rcases wS.1 hx with rfl|⟨y,hy,rfl⟩
    .exact⟨_,by simp[Gm.l],hz⟩
    .simp[Gm.l]at hy;subst hy;exact⟨_,by simp[Gm.l],E1.2⟩
   .simp[Gm.l]at hy;subst hy;exact⟨_,wS.2 (.inr ⟨nf (p+1) (k-1),by simp[Gm.l],rfl⟩),E1.1⟩
   .obtain⟨y,hy,rfl⟩:=Br.1 hx
    simp[Gm.r]at hy;subst hy;exact⟨_,by simp[Gm.r],E2.1⟩
   .simp[Gm.r]at hy;subst hy;exact⟨_,Br.2 ⟨nf (p+1) (k+1),by simp[Gm.r],rfl⟩,E2.2⟩
end Go.Proofs.YtplgooajigigkaaGreatDoor.aZ
namespace Go.Proofs.YtplgooajigigkaaGreatDoor.aZ
def mF:List Gm->Gm
 |[]=>jX
 |g :: L=>plus g (mF L)
theorem J3:∀{L:List Gm} {x:Gm},x∈(mF L).l↔∃A g B y,L=A++g :: B/\y∈g.l/\x=mF (A++y :: B)
 |[],x=>by
  constructor
  .intro h;exact absurd h Qq
  .rintro⟨A,g,B,y,e,_⟩;cases A <;> simp at e
 |g :: L,x=>by
  show x∈(plus g (mF L)).l↔_;rw[iq];constructor
  .rintro(⟨y,hy,rfl⟩|⟨z,hz,rfl⟩)
   .exact⟨[],g,L,y,rfl,hy,rfl⟩
   .obtain⟨A,g',B,y,rfl,hy,rfl⟩:=J3.1 hz
    exact⟨g :: A,g',B,y,rfl,hy,rfl⟩
  .rintro⟨A,g',B,y,e,hy,rfl⟩
   cases A with
   |nil=>simp at e;obtain⟨rfl,rfl⟩:=e;exact .inl ⟨y,hy,rfl⟩
   |cons a A=>simp at e;obtain⟨rfl,rfl⟩:=e;exact .inr ⟨mF (A++y :: B),J3.2 ⟨A,g',B,y,rfl,hy,rfl⟩,rfl⟩
theorem J2:∀{L:List Gm} {x:Gm},x∈(mF L).r↔∃A g B y,L=A++g :: B/\y∈g.r/\x=mF (A++y :: B)
 |[],x=>by
  constructor
  .intro h;exact absurd h Zp
  .rintro⟨A,g,B,y,e,_⟩;cases A <;> simp at e
 |g :: L,x=>by
  show x∈(plus g (mF L)).r↔_;rw[il];constructor
  .rintro(⟨y,hy,rfl⟩|⟨z,hz,rfl⟩)
   .exact⟨[],g,L,y,rfl,hy,rfl⟩
   .obtain⟨A,g',B,y,rfl,hy,rfl⟩:=J2.1 hz
    exact⟨g :: A,g',B,y,rfl,hy,rfl⟩
  .rintro⟨A,g',B,y,e,hy,rfl⟩
   cases A with
   |nil=>simp at e;obtain⟨rfl,rfl⟩:=e;exact .inl ⟨y,hy,rfl⟩
   |cons a A=>simp at e;obtain⟨rfl,rfl⟩:=e;exact .inr ⟨mF (A++y :: B),J2.2 ⟨A,g',B,y,rfl,hy,rfl⟩,rfl⟩
theorem GD{α:Type}{f g:α->Gm}:∀{L:List α},(∀x,x∈L->eU (f x) (g x))->eU (mF (L.map f)) (mF (L.map g))
 |[],_=>eU.refl _
 |a :: L,h=>pX (h a (by simp)) (GD λx hx=>h x (List.mem_cons_of_mem _ hx))
theorem uq(B:List Gm):∀A:List Gm,eU (mF (A++B)) (plus (mF A) (mF B))
 |[]=>((jM _ _).eqv.trans (pq _).eqv).symm
 |a :: A=>by
  have:=uq B A;show eU (plus a (mF (A++B))) (plus (plus a (mF A)) (mF B));exact(pX (eU.refl a) this).trans (eU.symm (iT a (mF A) (mF B)).eqv)
theorem Od(A B:List Gm){z:Gm}(hz:eU z jX):eU (mF (A++z :: B)) (mF (A++B)):=by
 refine(uq _ A).trans (eU.trans ?_ (uq B A).symm);refine pX (eU.refl _) ?_;show eU (plus z (mF B)) _;exact(pX hz (eU.refl _)).trans ((jM _ _).eqv.trans (pq _).eqv)
theorem ML(p:Nat):∀L:List Int,eU (mF (L.map (nf p))) (nf p L.sum)
 |[]=>by
  have z0:∀q,nf q 0=jX:=λq=>by
   induction q with
   |zero=>rfl
   |succ q ih=>rw[show(0:Int)=2*0 by omega,eO];exact ih
  show eU jX (nf p 0);rw[z0];exact eU.refl _
 |k :: L=>by
  rw[kR];exact(pX (eU.refl _) (ML p L)).trans (M5 p k L.sum)
end Go.Proofs.YtplgooajigigkaaGreatDoor.aZ
namespace Go.Proofs.YtplgooajigigkaaGreatDoor.aZ
variable {a x:Gm}
def ng:Gm->Gm
 | .mk l r=>.mk (r.attach.map λx=>ng x.1) (l.attach.map λx=>ng x.1)
termination_by g=>SizeOf.sizeOf g
decreasing_by
 .have:=qI x.2;simp;omega
 .have:=qI x.2;simp;omega
theorem Bz(l r:List Gm):ng (.mk l r)=.mk (r.map ng) (l.map ng):=by
 rw[ng];simp
theorem afC(a:Gm):(ng a).l=a.r.map ng:=by cases a;rw[Bz];rfl
theorem afB(a:Gm):(ng a).r=a.l.map ng:=by cases a;rw[Bz];rfl
theorem RI(a:Gm):ng (ng a)=a:=by
 cases a with
 |mk l r=>
  rw[Bz,Bz,eP,eP];have h1:l.map (ng ∘ ng)=l:=by
   conv=>rhs;rw[<-o6 l]
   exact bE λx hx=>RI x
  have h2:r.map (ng ∘ ng)=r:=by
   conv=>rhs;rw[<-o6 r]
   exact bE λx hx=>RI x
  rw[h1,h2]
termination_by SizeOf.sizeOf a
decreasing_by
 .have:=qI hx;simp;omega
 .have:=qI hx;simp;omega
theorem uE:x∈(ng a).l↔∃y,y∈a.r/\x=ng y:=by
 rw[afC,ay];exact⟨λ⟨y,h,e⟩=>⟨y,h,e.symm⟩,λ⟨y,h,e⟩=>⟨y,h,e.symm⟩⟩
theorem uD:x∈(ng a).r↔∃y,y∈a.l/\x=ng y:=by
 rw[afB,ay];exact⟨λ⟨y,h,e⟩=>⟨y,h,e.symm⟩,λ⟨y,h,e⟩=>⟨y,h,e.symm⟩⟩
theorem Ej(a b:Gm):Ge (ng a) (ng b)↔Ge b a:=by
 rw[dY,dY b a];constructor
 .rintro⟨h1,h2⟩
  refine⟨λr hr g=>h2 (ng r) (uE.2 ⟨r,hr,rfl⟩) ((Ej r a).2 g),λl hl g=>h1 (ng l) (uD.2 ⟨l,hl,rfl⟩) ((Ej b l).2 g)⟩
 .rintro⟨h1,h2⟩
  refine⟨λr hr g=>?_,λl hl g=>?_⟩
  .obtain⟨y,hy,rfl⟩:=uD.1 hr
   exact h2 y hy ((Ej b y).1 g)
  .obtain⟨y,hy,rfl⟩:=uE.1 hl
   exact h1 y hy ((Ej y a).1 g)
termination_by SizeOf.sizeOf a+SizeOf.sizeOf b
decreasing_by
 .have:=Gm.jb hr;omega
 .have:=Gm.jc hl;omega
 .have:=Gm.jc hy;omega
 .have:=Gm.jb hy;omega
theorem LW{b:Gm}(h:eU a b):eU (ng a) (ng b):=⟨(Ej a b).2 h.2,(Ej b a).2 h.1⟩
end Go.Proofs.YtplgooajigigkaaGreatDoor.aZ
namespace Go.Proofs.YtplgooajigigkaaGreatDoor.aZ
variable {g x:Gm} {b:Bool} {u:Nat->Nat} {v e i j:Nat}
theorem Fe:ng jX=jX:=by unfold jX;rw[Bz];rfl
def br(b:Bool)(g:Gm):Gm:=if b then on g else ng (on (ng g))
theorem Uk(b:Bool){h:Gm}(e:eU g h):eU (br b g) (br b h):=by
 cases b
 .exact LW (Rv (LW e))
 .exact Rv e
def sd(b:Bool)(g:Gm):List Gm:=if b then g.l else g.r
theorem Uj{c:Bool}:x∈sd b (br c g)↔(c=b/\x=jX)\/∃y,y∈sd b g/\x=br c y:=by
 cases c <;> cases b
 .show x∈(ng (on (ng g))).r↔_
  rw[uD];constructor
  .rintro⟨y,hy,rfl⟩
   rcases wS.1 hy with rfl|⟨z,hz,rfl⟩
   .exact .inl ⟨rfl,Fe⟩
   .obtain⟨t,ht,rfl⟩:=uE.1 hz;exact .inr ⟨t,ht,rfl⟩
  .rintro(⟨_,rfl⟩|⟨y,hy,rfl⟩)
   .exact⟨jX,wS.2 (.inl rfl),Fe.symm⟩
   .exact⟨on (ng y),wS.2 (.inr ⟨ng y,uE.2 ⟨y,hy,rfl⟩,rfl⟩),rfl⟩
 .show x∈(ng (on (ng g))).l↔_
  rw[uE];constructor
  .rintro⟨y,hy,rfl⟩
   obtain⟨z,hz,rfl⟩:=Br.1 hy;obtain⟨t,ht,rfl⟩:=uD.1 hz;exact .inr ⟨t,ht,rfl⟩
  .rintro(⟨h,_⟩|⟨y,hy,rfl⟩)
   .cases h
   .exact⟨on (ng y),Br.2 ⟨ng y,uD.2 ⟨y,hy,rfl⟩,rfl⟩,rfl⟩
 .show x∈(on g).r↔_
  rw[Br];constructor
  .rintro⟨y,hy,rfl⟩;exact .inr ⟨y,hy,rfl⟩
  .rintro(⟨h,_⟩|⟨y,hy,rfl⟩)
   .cases h
   .exact⟨y,hy,rfl⟩
 .show x∈(on g).l↔_
  rw[wS];constructor
  .rintro(rfl|⟨y,hy,rfl⟩)
   .exact .inl ⟨rfl,rfl⟩
   .exact .inr ⟨y,hy,rfl⟩
  .rintro(⟨_,rfl⟩|⟨y,hy,rfl⟩)
   .exact .inl rfl
   .exact .inr ⟨y,hy,rfl⟩
theorem EJ{L:List Gm}:x∈sd b (mF L)↔∃A g B y,L=A++g :: B/\y∈sd b g/\x=mF (A++y :: B):=by
 cases b
 .exact J2
 .exact J3
inductive Ab(u:Nat->Nat)(v:Nat):Nat->Prop
 |here {e:Nat}:u e=v->Ab u v e
 |up {i e:Nat}:u e=i+1->Ab u v i->Ab u v e
theorem UE(hu:∀i,u i<=i)(h:Ab u v e):v<=e:=by
 induction h with
 | @here e h=>subst h;exact hu e
 | @up i e h _ ih=>have:=hu e;omega
theorem Ze(h:Ab u (i+1) e)(hi:u i=v):Ab u v e:=by
 induction h with
 |here h=>exact .up h (.here hi)
 |up h _ ih=>exact .up h ih
theorem UD(h:Ab u v e):u e=v\/∃i,u i=v/\Ab u (i+1) e:=by
 induction h with
 |here h=>exact .inl h
 | @up i e h _ ih=>
  rcases ih with k|⟨j,h1,h2⟩
  .exact .inr ⟨i,k,.here h⟩
  .exact .inr ⟨j,h1,.up h h2⟩
theorem rH(hu:∀i,u i<=i)(hi:u i=v)(hj:u j=v):¬Ab u (i+1) j:=λh=>by
 have h1:i+1<=v:=by
  cases h with
  |here h=>omega
  | @up k _ h q=>have:=UE hu q;omega
 have:=hu i;omega
theorem Mk(hu:∀i,u i<=i){x:Nat}(hi:u i=v)(hj:u j=v)(h:Ab u (i+1) x)(k:Ab u (j+1) x):i=j:=by
 induction h with
 | @here e h=>
  cases k with
  |here k=>omega
  | @up q _ k k2=>
   have e:q=i:=(by omega);subst e;exact absurd k2 (rH hu hj hi)
 | @up q e h h2 ih=>
  cases k with
  |here k=>
   have e:q=j:=(by omega);subst e;exact absurd h2 (rH hu hi hj)
  | @up r _ k k2=>
   have e:r=q:=(by omega);subst e;exact ih k2
def under(u:Nat->Nat)(e:Nat):Nat->Nat->Bool
 | 0,i=>i == e
 |f+1,i=>i == e || (decide (0<u i) && under u e f (u i-1))
theorem uZ{u:Nat->Nat}(hu:∀i,u i<=i)(e:Nat):∀f i,i<=f->(under u e f i=true↔i=e\/Ab u (e+1) i)
 | 0,i,h=>by
  have h0:i=0:=by omega
  subst h0;constructor
  .intro k;exact .inl (by simpa [under]using k)
  .rintro(k|k)
   .simpa [under]using k
   .have:=UE hu k;omega
 |f+1,i,h=>by
  have hi:=hu i;rw[under,qm,beq_iff_eq,dS,decide_eq_true_eq];refine or_congr Iff.rfl ⟨λ⟨h0,k⟩=>?_,λk=>?_⟩
  .rcases(uZ hu e f (u i-1) (by omega)).1 k with k|k
   .exact .here (by omega)
   .exact .up (i:=u i-1) (by omega) k
  .cases k with
   |here k=>exact⟨by omega,(uZ hu e f _ (by omega)).2 (.inl (by omega))⟩
   | @up q _ k k2=>exact⟨by omega,(uZ hu e f _ (by omega)).2 (.inr (by rw[k];exact k2))⟩
def kill(u:Nat->Nat)(e:Nat)(a:Nat->Bool)(i:Nat):Bool:=a i && !under u e i i
theorem qf(hu:∀i,u i<=i){a:Nat->Bool}:kill u e a i=true↔a i=true/\i≠e/\¬Ab u (e+1) i:=by
 unfold kill;rw[dS,lu,<-Bool.not_eq_true,uZ hu e i i (ax _),not_or]
end Go.Proofs.YtplgooajigigkaaGreatDoor.aZ
namespace Go.Proofs.YtplgooajigigkaaGreatDoor.aZ
variable {n v i e:Nat} {u:Nat->Nat} {a:Nat->Bool} {l1 l3:List Nat}
def kids(n:Nat)(u:Nat->Nat)(a:Nat->Bool)(v:Nat):List Nat:=(List.range n).filter λi=>a i && u i == v
theorem jO:i∈kids n u a v↔i<n/\a i=true/\u i=v:=by simp[kids]
theorem BK(n:Nat)(u:Nat->Nat)(a:Nat->Bool)(v:Nat):(kids n u a v).Nodup:=List.nodup_range.filter _
def LQ(n:Nat)(u:Nat->Nat)(sg:Nat->Bool)(a:Nat->Bool):Nat->Nat->Gm
 | 0,_=>jX
 |f+1,v=>mF ((kids n u a v).map λi=>br (sg i) (LQ n u sg a f (i+1)))
theorem M3(hu:∀i,u i<=i)(h:n<=v):kids n u a v=[]:=by
 refine List.eq_nil_iff_forall_not_mem.2 λi hi=>?_
 obtain⟨h1,_,h2⟩:=jO.1 hi;have:=hu i;omega
theorem Ci{n:Nat}{u:Nat->Nat}(hu:∀i,u i<=i)(sg a:Nat->Bool):∀f g v,n<=v+f->n<=v+g->LQ n u sg a f v=LQ n u sg a g v
 | 0,0,_,_,_=>rfl
 | 0,g+1,v,h,_=>by rw[LQ,LQ,M3 hu (by omega)];rfl
 |f+1,0,v,_,h=>by rw[LQ,LQ,M3 hu (by omega)];rfl
 |f+1,g+1,v,h,k=>by
  rw[LQ,LQ];congr 1;refine bE λi hi=>?_
  obtain⟨_,_,h3⟩:=jO.1 hi;have:=hu i;rw[Ci hu sg a f g (i+1) (by omega) (by omega)]
def fo(n:Nat)(u:Nat->Nat)(sg a:Nat->Bool)(v:Nat):Gm:=LQ n u sg a n v
theorem Ch(hu:∀i,u i<=i)(sg a:Nat->Bool)(v:Nat):fo n u sg a v=mF ((kids n u a v).map λi=>br (sg i) (fo n u sg a (i+1))):=by
 unfold fo;rw[Ci hu sg a n (n+1) v (by omega) (by omega),LQ]
theorem El{n:Nat}{u:Nat->Nat}(sg:Nat->Bool){a a':Nat->Bool}:∀f v,(∀i,i<n->Ab u v i->a i=a' i)->LQ n u sg a f v=LQ n u sg a' f v
 | 0,_,_=>rfl
 |f+1,v,h=>by
  have e:kids n u a v=kids n u a' v:=by
   unfold kids;refine nH λi hi=>?_
   by_cases k:u i=v
   .rw[h i (dJ.1 hi) (.here k)]
   .have k':(u i == v)=false:=beq_eq_false_iff_ne.2 k
    simp only[k',Bool.and_false]
  rw[LQ,LQ,e];congr 1;refine bE λi hi=>?_
  obtain⟨_,_,h3⟩:=jO.1 hi;rw[El sg f (i+1) λj hj k=>h j hj (Ze k h3)]
theorem TH(sg:Nat->Bool){a':Nat->Bool}(h:∀i,i<n->Ab u v i->a i=a' i):fo n u sg a v=fo n u sg a' v:=El sg n v h
theorem Jz{x:Nat}(h:Ab u v e)(k:Ab u (e+1) x):Ab u v x:=by
 induction k with
 |here k=>exact .up k h
 |up k _ ih=>exact .up k ih
theorem VZ(A B:List Gm){p q:Gm}(h:eU p q):eU (mF (A++p :: B)) (mF (A++q :: B)):=by
 refine(uq _ A).trans (eU.trans ?_ (uq _ A).symm);exact pX (eU.refl _) (pX h (eU.refl _))
theorem Ea(hu:∀i,u i<=i)(sg a:Nat->Bool){j:Nat}(hi:u i=v)(hj:u j=v)(hne:i≠j)(he:e=i\/Ab u (i+1) e):fo n u sg (kill u e a) (j+1)=fo n u sg a (j+1):=by
 refine TH sg λx _ hx=>?_
 have key:¬(x=e\/Ab u (e+1) x):=by
  rintro(rfl|k)
  .rcases he with rfl|he
   .exact rH hu hj hi hx
   .exact hne (Mk hu hi hj he hx)
  .rcases he with rfl|he
   .exact hne (Mk hu hi hj k hx)
   .exact hne (Mk hu hi hj (Jz he k) hx)
 rw[not_or]at key;have:=qf (a:=a) hu (e:=e) (i:=x);rw[fV,this];exact⟨λh=>h.1,λh=>⟨h,key.1,key.2⟩⟩
theorem Eb(hu:∀i,u i<=i)(sg a:Nat->Bool)(hk:kids n u a v=l1++i :: l3):
 eU (mF ((l1.map λi=>br (sg i) (fo n u sg a (i+1)))++jX :: l3.map λi=>br (sg i) (fo n u sg a (i+1)))) (fo n u sg (kill u i a) v):=by
 have nd:=BK n u a v;have hi:=(jO.1 (show i∈kids n u a v by rw[hk];simp)).2.2;have hK:kids n u (kill u i a) v=l1++l3:=by
  have e1:kids n u (kill u i a) v=(kids n u a v).filter λj=>j != i:=by
   unfold kids;rw[List.filter_filter];refine nH λj _=>?_
   by_cases k:u j=v
   .have h:=qf (a:=a) hu (e:=i) (i:=j)
    have ap:=rH hu hi k;rw[fV];simp only[dS,h,beq_iff_eq,k,bne_iff_ne,ne_eq];exact⟨λq=>⟨q.1.2.1,q.1.1,trivial⟩,λq=>⟨⟨q.2.1,q.1,ap⟩,trivial⟩⟩
   .have k':(u j == v)=false:=beq_eq_false_iff_ne.2 k
    simp only[k',Bool.and_false]
  rw[e1,hk];rw[hk]at nd;have YE:=jq.1 nd;have n1:∀x,x∈l1->x≠i:=λx hx e=>YE.2.2 x hx i (by simp) e
  have n3:∀x,x∈l3->x≠i:=λx hx e=>(List.nodup_cons.1 YE.2.1).1 (by rw[<-e];exact hx)
  rw[jF,List.filter_cons_of_neg (by simp),List.filter_eq_self.2 (λx hx=>by simpa using n1 x hx),List.filter_eq_self.2 (λx hx=>by simpa using n3 x hx)]
 rw[Ch hu sg (kill u i a) v,hK];have hm:∀j,j∈l1++l3->br (sg j) (fo n u sg (kill u i a) (j+1))=br (sg j) (fo n u sg a (j+1)):=λj hj=>by
  have hjk:j∈kids n u (kill u i a) v:=by rw[hK];exact hj
  obtain⟨_,h2,h3⟩:=jO.1 hjk;rw[Ea hu sg a hi h3 (λe=>(qf hu).1 h2 |>.2.1 e.symm) (.inl rfl)]
 rw[bE hm,bz];exact Od _ _ (eU.refl _)
theorem zM(hu:∀i,u i<=i)(sg a:Nat->Bool){z:Gm}(hk:kids n u a v=l1++i :: l3)(he:Ab u (i+1) e)(hz:eU z (fo n u sg (kill u e a) (i+1))):
 eU (mF ((l1.map λi=>br (sg i) (fo n u sg a (i+1)))++br (sg i) z :: l3.map λi=>br (sg i) (fo n u sg a (i+1)))) (fo n u sg (kill u e a) v):=by
 have nd:=BK n u a v;have hi:=(jO.1 (show i∈kids n u a v by rw[hk];simp)).2.2;have hK:kids n u (kill u e a) v=l1++i :: l3:=by
  rw[<-hk];unfold kids;refine nH λj _=>?_
  by_cases k:u j=v
  .have h:=qf (a:=a) hu (e:=e) (i:=j)
   have q1:j≠e:=λq=>rH hu hi k (by rw[q];exact he)
   have q2:¬Ab u (e+1) j:=λq=>rH hu hi k (Jz he q)
   have h':kill u e a j=a j:=(by rw[fV,h];exact⟨λx=>x.1,λx=>⟨x,q1,q2⟩⟩);rw[h']
  .have k':(u j == v)=false:=beq_eq_false_iff_ne.2 k
   simp only[k',Bool.and_false]
 rw[Ch hu sg (kill u e a) v,hK,bz,eF];rw[hk]at nd;have YE:=jq.1 nd;have hm:∀j,j∈l1\/j∈l3->br (sg j) (fo n u sg (kill u e a) (j+1))=br (sg j) (fo n u sg a (j+1)):=λj hj=>by
  have hjk:j∈kids n u a v:=by rw[hk];rcases hj with h|h <;> simp[h]
  have hne:i≠j:=by
   rintro rfl;rcases hj with h|h
   .exact YE.2.2 i h i (by simp) rfl
   .exact(List.nodup_cons.1 YE.2.1).1 h
  rw[Ea hu sg a hi (jO.1 hjk).2.2 hne (.inr he)]
 rw[bE (λj hj=>hm j (.inl hj)),bE (λj hj=>hm j (.inr hj))];exact VZ _ _ (Uk _ hz)
theorem Hw{n:Nat}{u:Nat->Nat}(hu:∀i,u i<=i)(sg a:Nat->Bool)(b:Bool):∀m v,n<=v+m->∀x,x∈sd b (fo n u sg a v)->∃e,e<n/\a e=true/\sg e=b/\Ab u v e/\eU x (fo n u sg (kill u e a) v)
 |m,v,hm,x,hx=>by
  rw[Ch hu]at hx;obtain⟨A,g,B,y,e,hy,rfl⟩:=EJ.1 hx;obtain⟨l1,l2,hk,rfl,h2⟩:=List.map_eq_append_iff.1 e;obtain⟨i,l3,rfl,rfl,rfl⟩:=List.map_eq_cons_iff.1 h2;obtain⟨i1,i2,i3⟩:=jO.1 (show i∈kids n u a v by rw[hk];simp);have hi:=hu i;rcases Uj.1 hy with⟨hb,rfl⟩|⟨z,hz,rfl⟩
  .exact⟨i,i1,i2,hb,.here i3,Eb hu sg a hk⟩
  .cases m with
   |zero=>omega
   |succ m=>
    obtain⟨e,e1,e2,e3,e4,e5⟩:=Hw hu sg a b m (i+1) (by omega) z hz;exact⟨e,e1,e2,e3,Ze e4 i3,zM hu sg a hk e4 e5⟩
theorem Iy{n:Nat}{u:Nat->Nat}(hu:∀i,u i<=i)(sg a:Nat->Bool)(b:Bool)(cl:∀i,i<n->a i=true->∀k,u i=k+1->a k=true):∀m v,n<=v+m->∀e,e<n->a e=true->sg e=b->Ab u v e->∃x,x∈sd b (fo n u sg a v)/\eU x (fo n u sg (kill u e a) v)
 |m,v,hm,e,he,ha,hs,hab=>by
  have up:∀{i x},Ab u (i+1) x->x<n->a x=true->a i=true:=λ{i x} h=>by
   induction h with
   |here h=>exact λhx hax=>cl _ hx hax _ h
   | @up q x h h2 ih=>exact λhx hax=>ih (by have:=hu x;omega) (cl _ hx hax _ h)
  rw[Ch hu];rcases UD hab with h|⟨i,hi,h⟩
  .have hk:e∈kids n u a v:=jO.2 ⟨he,ha,h⟩
   obtain⟨l1,l3,hk⟩:=List.append_of_mem hk;refine⟨_,EJ.2 ⟨l1.map λi=>br (sg i) (fo n u sg a (i+1)),br (sg e) (fo n u sg a (e+1)),l3.map λi=>br (sg i) (fo n u sg a (i+1)),jX,by rw[hk,bz,eF],Uj.2 (.inl ⟨hs,rfl⟩),rfl⟩,Eb hu sg a hk⟩
  .have hin:i<n:=by have:=UE hu h;omega
   have hk:i∈kids n u a v:=jO.2 ⟨hin,up h he ha,hi⟩;obtain⟨l1,l3,hk⟩:=List.append_of_mem hk;have:=hu i;cases m with
   |zero=>omega
   |succ m=>
    obtain⟨z,z1,z2⟩:=Iy hu sg a b cl m (i+1) (by omega) e he ha hs h;exact⟨_,EJ.2 ⟨l1.map λi=>br (sg i) (fo n u sg a (i+1)),br (sg i) (fo n u sg a (i+1)),l3.map λi=>br (sg i) (fo n u sg a (i+1)),br (sg i) z,by rw[hk,bz,eF],Uj.2 (.inr ⟨z,z1,rfl⟩),rfl⟩,zM hu sg a hk h z2⟩
end Go.Proofs.YtplgooajigigkaaGreatDoor.aZ
namespace Go.Proofs.YtplgooajigigkaaGreatDoor.aZ
variable {k k':Int}
theorem RH:∀n:Nat,ng (nn n)=nm n
 | 0=>Fe
 |n+1=>by show ng (.mk [nn n] [])=.mk [] [nm n];rw[Bz];simp[RH n]
theorem aca(k:Int):ng (nw k)=nw (-k):=by
 unfold nw;by_cases h:0<=k
 .rw[if_pos h,RH]
  by_cases h0:k=0
  .subst h0;rfl
  .rw[if_neg (show ¬ 0<=-k by omega),show - -k=k by omega]
 .rw[if_neg h,if_pos (show 0<=-k by omega),<-RH,RI]
theorem M4:∀(p:Nat) (k:Int),ng (nf p k)=nf p (-k)
 | 0,k=>aca k
 |p+1,k=>by
  by_cases e:k % 2=0
  .rw[nf,nf,if_pos e,if_pos (show -k % 2=0 by omega),M4 p,show -(k / 2)=-k / 2 by omega]
  .rw[nf,nf,if_neg e,if_neg (show ¬ -k % 2=0 by omega),Bz]
   simp only[eF,List.map_nil,M4 p];rw[show -((k+1) / 2)=(-k-1) / 2 by omega,show -((k-1) / 2)=(-k+1) / 2 by omega]
def OnK(k k':Int):Prop:=∃m:Nat,-(m:Int)*65536<=k/\(m=0\/k<=(1-(m:Int))*65536)/\k+((m:Int)+1)*65536=2 ^ m*k'
theorem on_16(h:OnK k k'):eU (on (nf 16 k)) (nf 16 k'):=by
 obtain⟨m,h1,h2,h3⟩:=h;have:=YC 16 k m (by simpa using h1) (by simpa using h2);rw[show(2:Int) ^ 16=65536 by decide,h3,rY]at this;exact this
def BrK(b:Bool)(k k':Int):Prop:=if b then OnK k k' else OnK (-k) (-k')
theorem br_16{b:Bool}{g:Gm}(e:eU g (nf 16 k))(h:BrK b k k'):eU (br b g) (nf 16 k'):=by
 refine(Uk b e).trans ?_;cases b
 .have:=LW (on_16 (show OnK (-k) (-k') from h))
  rw[M4,show - -k'=k' by omega]at this;show eU (ng (on (ng (nf 16 k)))) _;rw[M4];exact this
 .exact on_16 (show OnK k k' from h)
theorem aaL{n:Nat}{u:Nat->Nat}(hu:∀i,u i<=i){sg a:Nat->Bool}{v:Nat}{f:Nat->Int}(h:∀i,i∈kids n u a v->eU (br (sg i) (fo n u sg a (i+1))) (nf 16 (f i))):
 eU (fo n u sg a v) (nf 16 ((kids n u a v).map f).sum):=by
 rw[Ch hu];refine(GD h).trans ?_;have:=ML 16 ((kids n u a v).map f);rwa [eP]at this
end Go.Proofs.YtplgooajigigkaaGreatDoor.aZ
namespace Go.Proofs.YtplgooajigigkaaGreatDoor.aZ
variable {A:List Nat}
def Zg(A:List Nat)(v v':Nat):Prop:=(v=0/\v'=0)\/∃p,v=A.getD p 0+1/\v'=p+1/\p<A.length
structure Ren(n:Nat)(u:Nat->Nat)(sg a:Nat->Bool)(u':Nat->Nat)(Vl:Nat->Bool)(A:List Nat):Prop where
 left:A=(List.range n).filter a
 sign:∀j,j<A.length->Vl j=sg (A.getD j 0)
 up:∀j,j<A.length->Zg A (u (A.getD j 0)) (u' j)
theorem Ov{n:Nat}{u:Nat->Nat}{sg a:Nat->Bool}{u':Nat->Nat}{Vl:Nat->Bool}(h:Ren n u sg a u' Vl A):A.Nodup:=by rw[h.left];exact List.nodup_range.filter _
theorem Wn(nd:A.Nodup){v v' w w':Nat}(h:Zg A v v')(k:Zg A w w'):v=w↔v'=w':=by
 have inj:∀p q,p<A.length->q<A.length->A.getD p 0=A.getD q 0->p=q:=λp q hp hq e=>by
  rw[aO,aO,ae hp,ae hq]at e;have e':A[p]=A[q]:=by simpa using e
  have YE:=bP.1 nd;rcases Nat.lt_trichotomy p q with c|c|c
  .exact absurd e' (YE p q hp hq c)
  .exact c
  .exact absurd e'.symm (YE q p hq hp c)
 rcases h with⟨rfl,rfl⟩|⟨p,rfl,rfl,hp⟩ <;> rcases k with⟨rfl,rfl⟩|⟨q,rfl,rfl,hq⟩
 .simp
 .constructor <;> intro e <;> omega
 .constructor <;> intro e <;> omega
 .constructor
  .intro e;rw[inj p q hp hq (by omega)]
  .intro e;rw[show p=q by omega]
theorem TF{n:Nat}{u:Nat->Nat}(hu:∀i,u i<=i){sg a:Nat->Bool}{u':Nat->Nat}(hu':∀i,u' i<=i){Vl:Nat->Bool}{A:List Nat}(h:Ren n u sg a u' Vl A):∀m v v',n<=v+m->Zg A v v'->fo n u sg a v=fo A.length u' Vl (λ_=>true) v'
 |m,v,v',hm,hv=>by
  rw[Ch hu,Ch hu'];have nd:=Ov h;have hA:A=(List.range A.length).map λj=>A.getD j 0:=by
   refine uh (by simp) λi h1 h2=>?_
   simp[aO,ae h1]
  have e1:kids n u a v=(kids A.length u' (λ_=>true) v').map λj=>A.getD j 0:=by
   have q:kids n u a v=A.filter λi=>u i == v:=by
    rw[h.left,List.filter_filter];unfold kids;exact nH λi _=>by rw[Bool.and_comm]
   rw[q]
   conv=>lhs;rw[hA]
   rw[List.filter_map];congr 1;unfold kids;refine nH λj hj=>?_
   have hj':=dJ.1 hj;have:=Wn nd (h.up j hj') hv;simp only[Function.comp,Bool.true_and];rw[fV,beq_iff_eq,beq_iff_eq];exact this
  rw[e1,eP];congr 1;refine bE λj hj=>?_
  obtain⟨j1,_,j3⟩:=jO.1 hj;have hmem:A.getD j 0∈kids n u a v:=by rw[e1];exact bD hj
  obtain⟨i1,i2,i3⟩:=jO.1 hmem;have hi:=hu (A.getD j 0);simp only[Function.comp];rw[h.sign j j1];cases m with
  |zero=>omega
  |succ m=>rw[TF hu hu' h m (A.getD j 0+1) (j+1) (by omega) (.inr ⟨j,rfl,rfl,j1⟩)]
end Go.Proofs.YtplgooajigigkaaGreatDoor.aZ