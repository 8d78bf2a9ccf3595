/- 29 -/
import Derived.Test.YtplgooajigigkaaGreatDoorK4
namespace Go.Proofs.YtplgooajigigkaaGreatDoor.bE
variable {g:Gm} {m:Int}
structure CU(N:Gm->Prop):Prop where
 same:∀g h,Same g h->N g->N h
 canon:∀g,N g->Canon g
 left:∀g x,N g->x∈g.l->N x/\Ge g x
 right:∀g x,N g->x∈g.r->N x/\Ge x g
def GU(N:Gm->Prop)(b:Gm):Prop:=∀n,N n->¬jc n b
theorem Ql{N:Gm->Prop}(hN:CU N){b:Gm}(hb:Canon b)(nb:¬N b):GU N b:=λn hn e=>nb (hN.same _ _ (fT (hN.canon n hn) hb e) hn)
theorem lQ{a b:Gm}(s:Same a b)(h:Canon a):Canon b:=by
 obtain⟨s1,s2,s3,s4⟩:=(same_iff _ _).1 s;have t:=h.tight;refine .mk _ ⟨λx y hx hy g=>?_,λx y hx hy g=>?_,λx hx y hy g=>?_,λx hx y hy g=>?_⟩ (λx hx=>?_) (λx hx=>?_)
 .obtain⟨u,hu,e⟩:=s2 x hx
  obtain⟨v,hv,f⟩:=s2 y hy;exact dn (dU e) (dn (t.1 u v hu hv (bH _ _ _ e.eqv.1 (bH _ _ _ g f.eqv.2))) f)
 .obtain⟨u,hu,e⟩:=s4 x hx
  obtain⟨v,hv,f⟩:=s4 y hy;exact dn (dU e) (dn (t.2.1 u v hu hv (bH _ _ _ e.eqv.1 (bH _ _ _ g f.eqv.2))) f)
 .obtain⟨u,hu,e⟩:=s2 x hx
  obtain⟨v,hv,f⟩:=((same_iff _ _).1 e).2.2.2 y hy;exact t.2.2.1 u hu v hv (bH _ _ _ s.eqv.1 (bH _ _ _ g f.eqv.2))
 .obtain⟨u,hu,e⟩:=s4 x hx
  obtain⟨v,hv,f⟩:=((same_iff _ _).1 e).2.1 y hy;exact t.2.2.2 u hu v hv (bH _ _ _ f.eqv.1 (bH _ _ _ g s.eqv.2))
 .obtain⟨u,hu,e⟩:=s2 x hx
  exact lQ e (h.l hu)
 .obtain⟨u,hu,e⟩:=s4 x hx
  exact lQ e (h.r hu)
termination_by sizeOf a
decreasing_by
 .exact Gm.jI hu
 .exact Gm.jH hu
theorem Ep{N:Gm->Prop}(hN:CU N){b:Gm}(hb:GU N b):∀x,N x->¬Ge x b->∃l,l∈b.l/\Ge l x:=λx hx h=>by
 rcases oh h with⟨r,hr,g⟩|h
 .obtain⟨nr,gr⟩:=hN.right x r hx hr
  by_cases e:Ge r b
  .exact absurd ⟨e,g⟩ (hb r nr)
  .obtain⟨l,hl,k⟩:=Ep hN hb r nr e
   exact⟨l,hl,bH _ _ _ k gr⟩
 .exact h
termination_by x=>sizeOf x
decreasing_by exact Gm.jH hr
theorem Eo{N:Gm->Prop}(hN:CU N){b:Gm}(hb:GU N b):∀x,N x->¬Ge b x->∃r,r∈b.r/\Ge x r:=λx hx h=>by
 rcases oh h with h|⟨l,hl,g⟩
 .exact h
 .obtain⟨nl,gl⟩:=hN.left x l hx hl
  by_cases e:Ge b l
  .exact absurd ⟨g,e⟩ (hb l nl)
  .obtain⟨r,hr,k⟩:=Eo hN hb l nl e
   exact⟨r,hr,bH _ _ _ gl k⟩
termination_by x=>sizeOf x
decreasing_by exact Gm.jI hl
def NN(g:Gm):Prop:=∃p k,Same g (nf p k)
theorem Zaa:CU NN:=by
 refine⟨λg h s ⟨p,k,e⟩=>⟨p,k,dn (dU s) e⟩,λg ⟨p,k,e⟩=>lQ (dU e) (mE p k),λg x ⟨p,k,e⟩ hx=>?_,λg x ⟨p,k,e⟩ hx=>?_⟩
 .obtain⟨y,hy,s⟩:=((same_iff _ _).1 e).1 x hx
  obtain⟨j,hj,rfl⟩:=Bi hy;exact⟨⟨p,j,s⟩,bH _ _ _ e.eqv.1 (bH _ _ _ ((j6 p k j).2 (by omega)) s.eqv.2)⟩
 .obtain⟨y,hy,s⟩:=((same_iff _ _).1 e).2.2.1 x hx
  obtain⟨j,hj,rfl⟩:=zZ hy;exact⟨⟨p,j,s⟩,bH _ _ _ s.eqv.1 (bH _ _ _ ((j6 p j k).2 (by omega)) e.eqv.2)⟩
theorem NZ(g:Gm):Ge (nf 0 (sizeOf g:Nat)) g:=by
 rw[gu];refine⟨λr hr _=>?_,λl hl k=>?_⟩
 .obtain⟨h,_⟩:=Dr hr;omega
 .have h1:=Gm.jI hl
  have h2:=(j6 0 _ _).1 (bH _ _ _ (NZ l) k);omega
termination_by sizeOf g
theorem Jp(g:Gm):Ge g (nf 0 (-(sizeOf g:Nat))):=by
 rw[gu];refine⟨λr hr k=>?_,λl hl _=>?_⟩
 .have h1:=Gm.jH hr
  have h2:=(j6 0 _ _).1 (bH _ _ _ k (Jp r));omega
 .obtain⟨h,_⟩:=Dt hl;omega
termination_by sizeOf g
theorem aa8(h:GU NN g)(p:Nat)(hm:0<m):∃r,r∈g.r/\Ge (plus g (nf p m)) r:=by
 have low:Ge g (nf p (2 ^ p*-(sizeOf g:Nat))):=by have:=lY 0 p (-(sizeOf g:Nat));rw[fI]at this;rw[this];exact Jp g
 have high:¬Ge g (nf p (2 ^ p*((sizeOf g:Nat)+1))):=λk=>by
  have:=lY 0 p ((sizeOf g:Nat)+1);rw[fI]at this;rw[this]at k;have:=(j6 0 _ _).1 (bH _ _ _ (NZ g) k);omega
 have step:∀(n:Nat) (a:Int),Ge g (nf p a)->¬Ge g (nf p (a+n))->∃k,Ge g (nf p k)/\¬Ge g (nf p (k+1)):=by
  intro n
  induction n with
  |zero=>intro a h1 h2;exact absurd h1 (by simpa using h2)
  |succ n ih=>
   intro a h1 h2;by_cases e:Ge g (nf p (a+1))
   .exact ih (a+1) e (by rw[show a+1+(n:Int)=a+((n+1:Nat):Int) by omega];exact h2)
   .exact⟨a,h1,e⟩
 have le:2 ^ p*-((sizeOf g:Nat):Int)<=2 ^ p*(((sizeOf g:Nat):Int)+1):=rX (by omega) (Int.le_of_lt (wu (by omega)));obtain⟨k,h1,h2⟩:=step (2 ^ p*(((sizeOf g:Nat):Int)+1)-2 ^ p*-((sizeOf g:Nat):Int)).toNat _ low (by rw[Int.toNat_of_nonneg (by omega)];rw[show 2 ^ p*-((sizeOf g:Nat):Int)+(2 ^ p*(((sizeOf g:Nat):Int)+1)-2 ^ p*-((sizeOf g:Nat):Int))=2 ^ p*(((sizeOf g:Nat):Int)+1) by omega];exact high);obtain⟨r,hr,q⟩:=Eo Zaa h _ ⟨p,k+1,gT _⟩ h2;exact⟨r,hr,bH _ _ _ ((mQ _ _ _).2 h1) (bH _ _ _ (uA p k m).1 (bH _ _ _ ((j6 p _ _).2 (by omega)) q))⟩
theorem aa9(h:GU NN g)(p:Nat)(hm:0<m):∃l,l∈g.l/\Ge l (plus g (nf p (-m))):=by
 have high:Ge (nf p (2 ^ p*(sizeOf g:Nat))) g:=by have:=lY 0 p (sizeOf g:Nat);rw[fI]at this;rw[this];exact NZ g
 have low:¬Ge (nf p (2 ^ p*(-((sizeOf g:Nat):Int)-1))) g:=λk=>by
  have:=lY 0 p (-((sizeOf g:Nat):Int)-1);rw[fI]at this;rw[this]at k;have:=(j6 0 _ _).1 (bH _ _ _ k (Jp g));omega
 have step:∀(n:Nat) (a:Int),¬Ge (nf p a) g->Ge (nf p (a+n)) g->∃k,¬Ge (nf p k) g/\Ge (nf p (k+1)) g:=by
  intro n
  induction n with
  |zero=>intro a h1 h2;exact absurd (by simpa using h2) h1
  |succ n ih=>
   intro a h1 h2;by_cases e:Ge (nf p (a+1)) g
   .exact⟨a,h1,e⟩
   .exact ih (a+1) e (by rw[show a+1+(n:Int)=a+((n+1:Nat):Int) by omega];exact h2)
 have le:2 ^ p*(-((sizeOf g:Nat):Int)-1)<=2 ^ p*((sizeOf g:Nat):Int):=rX (by omega) (Int.le_of_lt (wu (by omega)));obtain⟨k,h1,h2⟩:=step (2 ^ p*((sizeOf g:Nat):Int)-2 ^ p*(-((sizeOf g:Nat):Int)-1)).toNat _ low (by rw[Int.toNat_of_nonneg (by omega)];rw[show 2 ^ p*(-((sizeOf g:Nat):Int)-1)+(2 ^ p*((sizeOf g:Nat):Int)-2 ^ p*(-((sizeOf g:Nat):Int)-1))=2 ^ p*((sizeOf g:Nat):Int) by omega];exact high);obtain⟨l,hl,q⟩:=Ep Zaa h _ ⟨p,k,gT _⟩ h1;exact⟨l,hl,bH _ _ _ q (bH _ _ _ ((j6 p _ _).2 (by omega)) (bH _ _ _ (uA p (k+1) (-m)).2 ((mQ _ _ _).2 h2)))⟩
def ht(N:Gm->Prop)[DecidablePred N](T U:Gm)(g:Gm):Gm:=
 if N g then g else .mk (g.l.attach.map λx=>plus (ht N T U x.1) T) (g.r.attach.map λx=>plus (ht N T U x.1) U)
termination_by sizeOf g
decreasing_by
 .exact Gm.jI x.2
 .exact Gm.jH x.2
section
variable {N:Gm->Prop} [DecidablePred N] {T U:Gm}
variable {a b c:Gm}
theorem tO{g:Gm}(h:N g):ht N T U g=g:=by rw[ht,if_pos h]
theorem WU{g:Gm}(h:¬N g):ht N T U g=.mk (g.l.map λx=>plus (ht N T U x) T) (g.r.map λx=>plus (ht N T U x) U):=by
 rw[ht,if_neg h];simp
theorem Dw{g x:Gm}(h:¬N g):x∈(ht N T U g).l↔∃y,y∈g.l/\x=plus (ht N T U y) T:=by
 rw[WU h];simp only[Gm.l,az];exact⟨λ⟨y,a,b⟩=>⟨y,a,b.symm⟩,λ⟨y,a,b⟩=>⟨y,a,b.symm⟩⟩
theorem Dv{g x:Gm}(h:¬N g):x∈(ht N T U g).r↔∃y,y∈g.r/\x=plus (ht N T U y) U:=by
 rw[WU h];simp only[Gm.r,az];exact⟨λ⟨y,a,b⟩=>⟨y,a,b.symm⟩,λ⟨y,a,b⟩=>⟨y,a,b.symm⟩⟩
theorem y8(hN:CU N){a b:Gm}(h:Same a b):Same (ht N T U a) (ht N T U b):=by
 by_cases e:N a
 .rw[tO e,tO (hN.same _ _ h e)];exact h
 .have e2:¬N b:=λk=>e (hN.same _ _ (dU h) k)
  obtain⟨h1,h2,h3,h4⟩:=(same_iff _ _).1 h;rw[same_iff];refine⟨λx hx=>?_,λx hx=>?_,λx hx=>?_,λx hx=>?_⟩
  .obtain⟨y,hy,rfl⟩:=(Dw e).1 hx
   obtain⟨z,hz,s⟩:=h1 y hy;exact⟨_,(Dw e2).2 ⟨z,hz,rfl⟩,kD (y8 hN s) (gT _)⟩
  .obtain⟨y,hy,rfl⟩:=(Dw e2).1 hx
   obtain⟨z,hz,s⟩:=h2 y hy;exact⟨_,(Dw e).2 ⟨z,hz,rfl⟩,kD (y8 hN s) (gT _)⟩
  .obtain⟨y,hy,rfl⟩:=(Dv e).1 hx
   obtain⟨z,hz,s⟩:=h3 y hy;exact⟨_,(Dv e2).2 ⟨z,hz,rfl⟩,kD (y8 hN s) (gT _)⟩
  .obtain⟨y,hy,rfl⟩:=(Dv e2).1 hx
   obtain⟨z,hz,s⟩:=h4 y hy;exact⟨_,(Dv e).2 ⟨z,hz,rfl⟩,kD (y8 hN s) (gT _)⟩
termination_by sizeOf a
decreasing_by
 .exact Gm.jI hy
 .exact Gm.jI hz
 .exact Gm.jH hy
 .exact Gm.jH hz
structure G5(T U:Gm):Prop where
 pos:Ge T xL
 right:∀x,x∈T.r->Ge x T
 zero:jc (plus T U) xL
theorem JO(p:Nat){t:Int}(h:0<=t):G5 (nf p t) (nf p (-t)):=by
 have z:Same (nf p 0) xL:=by
  have:=lY 0 p 0;rw[fI,Int.mul_zero]at this;rw[this];exact gT _
 refine⟨bH _ _ _ ((j6 p t 0).2 h) z.eqv.1,λx hx=>?_,(uA p _ _).trans (by rw[show t+-t=0 by omega];exact z.eqv)⟩;obtain⟨j,hj,rfl⟩:=zZ hx;exact(j6 p j t).2 (by omega)
theorem yP(h:Ge a b):Ge (plus a c) (plus b c):=(mQ a b c).2 h
theorem K8(h:Ge a b):Ge (plus c a) (plus c b):=bH _ _ _ (jV c a).eqv.1 (bH _ _ _ (yP h) (jV b c).eqv.1)
theorem Gu(h:Ge (plus c a) (plus c b)):Ge a b:=(mQ a b c).1 (bH _ _ _ (jV a c).eqv.1 (bH _ _ _ h (jV c b).eqv.1))
theorem Jf{T:Gm}(h:Ge T xL):Ge (plus a T) a:=bH _ _ _ (K8 h) (pR a).eqv.1
theorem Ih{T U:Gm}(hp:∀a b c,Same (plus (plus a b) c) (plus a (plus b c)))(h:jc (plus T U) xL):jc (plus (plus a T) U) a:=
 (hp a T U).eqv.trans (((o6 (jc.refl a) h)).trans (pR a).eqv)
end
theorem jy(a b c:Gm):Same (plus (plus a b) c) (plus a (plus b c)):=by
 rw[same_iff];refine⟨λx hx=>?_,λx hx=>?_,λx hx=>?_,λx hx=>?_⟩
 .rcases ja.1 hx with⟨y,hy,rfl⟩|⟨y,hy,rfl⟩
  .rcases ja.1 hy with⟨z,hz,rfl⟩|⟨z,hz,rfl⟩
   .exact⟨_,ja.2 (.inl ⟨z,hz,rfl⟩),jy z b c⟩
   .exact⟨_,ja.2 (.inr ⟨_,ja.2 (.inl ⟨z,hz,rfl⟩),rfl⟩),jy a z c⟩
  .exact⟨_,ja.2 (.inr ⟨_,ja.2 (.inr ⟨y,hy,rfl⟩),rfl⟩),jy a b y⟩
 .rcases ja.1 hx with⟨y,hy,rfl⟩|⟨y,hy,rfl⟩
  .exact⟨_,ja.2 (.inl ⟨_,ja.2 (.inl ⟨y,hy,rfl⟩),rfl⟩),jy y b c⟩
  .rcases ja.1 hy with⟨z,hz,rfl⟩|⟨z,hz,rfl⟩
   .exact⟨_,ja.2 (.inl ⟨_,ja.2 (.inr ⟨z,hz,rfl⟩),rfl⟩),jy a z c⟩
   .exact⟨_,ja.2 (.inr ⟨z,hz,rfl⟩),jy a b z⟩
 .rcases iX.1 hx with⟨y,hy,rfl⟩|⟨y,hy,rfl⟩
  .rcases iX.1 hy with⟨z,hz,rfl⟩|⟨z,hz,rfl⟩
   .exact⟨_,iX.2 (.inl ⟨z,hz,rfl⟩),jy z b c⟩
   .exact⟨_,iX.2 (.inr ⟨_,iX.2 (.inl ⟨z,hz,rfl⟩),rfl⟩),jy a z c⟩
  .exact⟨_,iX.2 (.inr ⟨_,iX.2 (.inr ⟨y,hy,rfl⟩),rfl⟩),jy a b y⟩
 .rcases iX.1 hx with⟨y,hy,rfl⟩|⟨y,hy,rfl⟩
  .exact⟨_,iX.2 (.inl ⟨_,iX.2 (.inl ⟨y,hy,rfl⟩),rfl⟩),jy y b c⟩
  .rcases iX.1 hy with⟨z,hz,rfl⟩|⟨z,hz,rfl⟩
   .exact⟨_,iX.2 (.inl ⟨_,iX.2 (.inr ⟨z,hz,rfl⟩),rfl⟩),jy a z c⟩
   .exact⟨_,iX.2 (.inr ⟨z,hz,rfl⟩),jy a b z⟩
termination_by sizeOf a+sizeOf b+sizeOf c
decreasing_by
 all_goals first
  |(have:=Gm.jI hz;omega)
  |(have:=Gm.jI hy;omega)
  |(have:=Gm.jH hz;omega)
  |(have:=Gm.jH hy;omega)
section
variable {N:Gm->Prop} [DecidablePred N] {T U:Gm}
variable {p:Nat} {t:Int} {c K:Gm}
theorem G5.back(hT:G5 T U)(a:Gm):jc (plus (plus a T) U) a:=Ih jy hT.zero
theorem G5.Yw(hT:G5 T U)(a:Gm):jc (plus (plus a U) T) a:=Ih jy ((jV U T).eqv.trans hT.zero)
theorem OZ(hN:CU N)(hT:G5 T U):∀n A B,sizeOf A+sizeOf B<=n->Canon A->Canon B->
 (Ge (ht N T U A) (ht N T U B)->Ge A B)/\(Ge B A->Ge (plus (ht N T U B) T) (ht N T U A)):=by
 intro n
 induction n with
 |zero=>intro A B h;cases A;simp at h
 |succ n ih=>
  intro A B hs cA cB;have R:Ge (ht N T U A) (ht N T U B)->Ge A B:=λg=>iw λh=>by
   have right:¬N A->(∃r,r∈A.r/\Ge B r)->False:=λnA ⟨r,hr,k⟩=>by
    have h1:=Gm.jH hr;have h2:=(ih r B (by omega) (cA.r hr) cB).2 k;exact((gu _ _).1 g).1 _ ((Dv nA).2 ⟨r,hr,rfl⟩) (bH _ _ _ (hT.back _).2 (yP h2))
   have left:¬N B->(∃l,l∈B.l/\Ge l A)->False:=λnB ⟨l,hl,k⟩=>by
    have h1:=Gm.jI hl;have h2:=(ih A l (by omega) cA (cB.l hl)).2 k;exact((gu _ _).1 g).2 _ ((Dw nB).2 ⟨l,hl,rfl⟩) h2
   by_cases nA:N A
   .by_cases nB:N B
    .rw[tO nA,tO nB]at g;exact h g
    .exact left nB (Ep hN (Ql hN cB nB) A nA h)
   .by_cases nB:N B
    .exact right nA (Eo hN (Ql hN cA nA) B nB h)
    .rcases oh h with k|k
     .exact right nA k
     .exact left nB k
  refine⟨R,λhBA=>?_⟩;rw[gu];refine⟨λr hr g=>?_,λl hl g=>?_⟩
  .rcases iX.1 hr with⟨y,hy,rfl⟩|⟨z,hz,rfl⟩
   .by_cases nB:N B
    .rw[tO nB]at hy
     have h1:=Gm.jH hy;obtain⟨ny,gy⟩:=hN.right B y nB hy;have h2:Ge A y:=(ih A y (by omega) cA (cB.r hy)).1 (by rw[tO ny];exact bH _ _ _ g (Jf hT.pos));exact lJ hy (bH _ _ _ hBA h2)
    .obtain⟨b,hb,rfl⟩:=(Dv nB).1 hy
     have h1:=Gm.jH hb;have h2:Ge A b:=(ih A b (by omega) cA (cB.r hb)).1 (bH _ _ _ g (hT.Yw _).1);exact lJ hb (bH _ _ _ hBA h2)
   .have h1:Ge z T:=hT.right z hz
    have h2:Ge A B:=R (bH _ _ _ g (Jf (bH _ _ _ h1 hT.pos)));have h3:=(y8 (T:=T) (U:=U) hN (fT cA cB ⟨h2,hBA⟩)).eqv;have h4:Ge (plus (ht N T U B) xL) (plus (ht N T U B) z):=bH _ _ _ (pR _).eqv.1 (bH _ _ _ h3.2 g);exact((gu _ _).1 hT.pos).1 z hz (Gu h4)
  .by_cases nA:N A
   .rw[tO nA]at hl
    have h1:=Gm.jI hl;obtain⟨nl,gl⟩:=hN.left A l nA hl;have h2:Ge l B:=(ih l B (by omega) (cA.l hl) cB).1 (by rw[tO nl];exact bH _ _ _ g (Jf hT.pos));exact kV hl (bH _ _ _ h2 hBA)
   .obtain⟨a,ha,rfl⟩:=(Dw nA).1 hl
    have h1:=Gm.jI ha;have h2:Ge a B:=(ih a B (by omega) (cA.l ha) cB).1 ((mQ _ _ _).1 g);exact kV ha (bH _ _ _ h2 hBA)
theorem zb(hN:CU N)(hT:G5 T U){A B:Gm}(cA:Canon A)(cB:Canon B)(h:Ge (ht N T U A) (ht N T U B)):Ge A B:=(OZ hN hT _ A B (aJ _) cA cB).1 h
theorem Xr(hN:CU N)(hT:G5 T U){A B:Gm}(cA:Canon A)(cB:Canon B)(h:jc (ht N T U A) (ht N T U B)):Same A B:=
 fT cA cB ⟨zb hN hT cA cB h.1,zb hN hT cB cA h.2⟩
theorem Tx(hN:CU N)(Rf:∀g,N g->NN g){U:Gm}(hT:G5 (nf p t) U)(hc:Canon c)(nc:¬N c)(hK:Canon K)(wK:GU NN K)(e:jc K (ht N (nf p t) U c)):
 (∀x,x∈K.l->∃y,y∈c.l/\Ge (plus (ht N (nf p t) U y) (nf p t)) x)/\
 ∀x x' y,x∈K.l->x'∈K.l->y∈c.l->Ge (plus (ht N (nf p t) U y) (nf p t)) x->Ge (plus (ht N (nf p t) U y) (nf p t)) x'->Same x x':=by
 refine⟨λx hx=>?_,λx x' y hx hx' hy g g'=>?_⟩
 .have h1:¬Ge x (ht N (nf p t) U c):=λk=>kV hx (bH _ _ _ k e.2)
  rcases oh h1 with⟨r,hr,k⟩|⟨l,hl,k⟩
  .exact absurd (bH _ _ _ e.1 k) (hK.tight.2.2.1 x hx r hr)
  .obtain⟨y,hy,rfl⟩:=(Dw nc).1 hl
   exact⟨y,hy,k⟩
 .have hX:plus (ht N (nf p t) U y) (nf p t)∈(ht N (nf p t) U c).l:=(Dw nc).2 ⟨y,hy,rfl⟩
  have h1:¬Ge (plus (ht N (nf p t) U y) (nf p t)) K:=λk=>kV hX (bH _ _ _ k e.1)
  have key:∃l,l∈K.l/\Ge l (plus (ht N (nf p t) U y) (nf p t)):=by
   by_cases num:GU NN (ht N (nf p t) U y)
   .have ny:¬N y:=λk=>num y (Rf y k) (by rw[tO k];exact jc.refl _)
    rcases oh h1 with⟨r,hr,k⟩|h
    .rcases iX.1 hr with⟨z,hz,rfl⟩|⟨z,hz,rfl⟩
     .obtain⟨b,hb,rfl⟩:=(Dv ny).1 hz
      have h2:Ge c b:=zb hN hT hc ((hc.l hy).r hb) (bH _ _ _ e.2 (bH _ _ _ k (hT.Yw _).1));exact absurd h2 (hc.tight.2.2.1 y hy b hb)
     .obtain⟨j,hj,rfl⟩:=zZ hz
      obtain⟨s,hs,q⟩:=aa8 num p (m:=j-t) (by omega);obtain⟨b,hb,rfl⟩:=(Dv ny).1 hs;have h3:Ge (plus (ht N (nf p t) U y) (nf p j)) (ht N (nf p t) U b):=by
       have h4:=yP (c:=nf p t) q
       have h5:jc (plus (plus (ht N (nf p t) U y) (nf p (j-t))) (nf p t)) (plus (ht N (nf p t) U y) (nf p j)):=
        (jy _ _ _).eqv.trans (o6 (jc.refl _) ((uA p _ _).trans (by rw[show j-t+t=j by omega];exact jc.refl _)))
       exact bH _ _ _ h5.2 (bH _ _ _ h4 (hT.Yw _).1)
      have h2:Ge c b:=zb hN hT hc ((hc.l hy).r hb) (bH _ _ _ e.2 (bH _ _ _ k h3));exact absurd h2 (hc.tight.2.2.1 y hy b hb)
    .exact h
   .obtain⟨n,⟨q,j,hn⟩,en⟩:∃n,NN n/\jc n (ht N (nf p t) U y):=iw λh=>num λn hn en=>h ⟨n,hn,en⟩
    have e2:jc (plus (ht N (nf p t) U y) (nf p t)) (nf (q+p) (2 ^ p*j+2 ^ q*t)):=
     (o6 (en.symm.trans hn.eqv) (jc.refl _)).trans (by rw[<-lY q p j,<-lY p q t,Nat.add_comm p q];exact uA _ _ _)
    obtain⟨l,hl,k⟩:=Ep Zaa wK (nf (q+p) (2 ^ p*j+2 ^ q*t)) ⟨_,_,gT _⟩ (λk=>h1 (bH _ _ _ e2.1 k));exact⟨l,hl,bH _ _ _ k e2.2⟩
  obtain⟨l,hl,k⟩:=key;have s1:=hK.tight.1 l x hl hx (bH _ _ _ k g);have s2:=hK.tight.1 l x' hl hx' (bH _ _ _ k g');exact dn (dU s1) s2
theorem OX(hN:CU N)(Rf:∀g,N g->NN g){T:Gm}(hT:G5 T (nf p t))(hc:Canon c)(nc:¬N c)(hK:Canon K)(wK:GU NN K)(e:jc K (ht N T (nf p t) c)):
 (∀x,x∈K.r->∃y,y∈c.r/\Ge x (plus (ht N T (nf p t) y) (nf p t)))/\
 ∀x x' y,x∈K.r->x'∈K.r->y∈c.r->Ge x (plus (ht N T (nf p t) y) (nf p t))->Ge x' (plus (ht N T (nf p t) y) (nf p t))->Same x x':=by
 refine⟨λx hx=>?_,λx x' y hx hx' hy g g'=>?_⟩
 .have h1:¬Ge (ht N T (nf p t) c) x:=λk=>lJ hx (bH _ _ _ e.1 k)
  rcases oh h1 with⟨r,hr,k⟩|⟨l,hl,k⟩
  .obtain⟨y,hy,rfl⟩:=(Dv nc).1 hr
   exact⟨y,hy,k⟩
  .exact absurd (bH _ _ _ k e.2) (hK.tight.2.2.2 x hx l hl)
 .have hX:plus (ht N T (nf p t) y) (nf p t)∈(ht N T (nf p t) c).r:=(Dv nc).2 ⟨y,hy,rfl⟩
  have h1:¬Ge K (plus (ht N T (nf p t) y) (nf p t)):=λk=>lJ hX (bH _ _ _ e.2 k)
  have key:∃r,r∈K.r/\Ge (plus (ht N T (nf p t) y) (nf p t)) r:=by
   by_cases num:GU NN (ht N T (nf p t) y)
   .have ny:¬N y:=λk=>num y (Rf y k) (by rw[tO k];exact jc.refl _)
    rcases oh h1 with h|⟨l,hl,k⟩
    .exact h
    .rcases ja.1 hl with⟨z,hz,rfl⟩|⟨z,hz,rfl⟩
     .obtain⟨b,hb,rfl⟩:=(Dw ny).1 hz
      have h2:Ge b c:=zb hN hT ((hc.r hy).l hb) hc (bH _ _ _ (bH _ _ _ (hT.back _).2 k) e.1);exact absurd h2 (hc.tight.2.2.2 y hy b hb)
     .obtain⟨j,hj,rfl⟩:=Bi hz
      obtain⟨s,hs,q⟩:=aa9 num p (m:=t-j) (by omega);obtain⟨b,hb,rfl⟩:=(Dw ny).1 hs;have h3:Ge (ht N T (nf p t) b) (plus (ht N T (nf p t) y) (nf p j)):=by
       have h4:=yP (c:=nf p t) q
       have h5:jc (plus (plus (ht N T (nf p t) y) (nf p (-(t-j)))) (nf p t)) (plus (ht N T (nf p t) y) (nf p j)):=
        (jy _ _ _).eqv.trans (o6 (jc.refl _) ((uA p _ _).trans (by rw[show -(t-j)+t=j by omega];exact jc.refl _)))
       exact bH _ _ _ (hT.back _).2 (bH _ _ _ h4 h5.1)
      have h2:Ge b c:=zb hN hT ((hc.r hy).l hb) hc (bH _ _ _ h3 (bH _ _ _ k e.1));exact absurd h2 (hc.tight.2.2.2 y hy b hb)
   .obtain⟨n,⟨q,j,hn⟩,en⟩:∃n,NN n/\jc n (ht N T (nf p t) y):=iw λh=>num λn hn en=>h ⟨n,hn,en⟩
    have e2:jc (plus (ht N T (nf p t) y) (nf p t)) (nf (q+p) (2 ^ p*j+2 ^ q*t)):=
     (o6 (en.symm.trans hn.eqv) (jc.refl _)).trans (by rw[<-lY q p j,<-lY p q t,Nat.add_comm p q];exact uA _ _ _)
    obtain⟨r,hr,k⟩:=Eo Zaa wK (nf (q+p) (2 ^ p*j+2 ^ q*t)) ⟨_,_,gT _⟩ (λk=>h1 (bH _ _ _ k e2.2));exact⟨r,hr,bH _ _ _ e2.1 k⟩
  obtain⟨r,hr,k⟩:=key;have s1:=hK.tight.2.1 x r hx hr (bH _ _ _ g k);have s2:=hK.tight.2.1 x' r hx' hr (bH _ _ _ g' k);exact dn s1 (dU s2)
end
theorem qm:∀{a b:List Gm} {R:Gm->Gm->Prop},a.Pairwise (λx y=>¬Same x y)->(∀x,x∈a->∃y,y∈b/\R x y)->(∀x x' y,x∈a->x'∈a->y∈b->R x y->R x' y->Same x x')->a.length<=b.length
 |[],b,R,_,_,_=>by simp
 |x :: a,b,R,hp,h1,h2=>by
  obtain⟨y,hy,r⟩:=h1 x (by simp);obtain⟨b1,b2,rfl⟩:=List.append_of_mem hy;obtain⟨hx,hp⟩:=lu.1 hp;have:=qm (a:=a) (b:=b1++b2) (R:=R) hp (λz hz=>by
   obtain⟨u,hu,q⟩:=h1 z (by simp[hz]);refine⟨u,?_,q⟩;simp only[bq,jk]at hu ⊢;rcases hu with hu|rfl|hu
   .exact .inl hu
   .exact absurd (h2 x z u (by simp) (by simp[hz]) (by simp) r q) (hx z hz)
   .exact .inr hu) (λz z' u hz hz' hu q q'=>h2 z z' u (by simp[hz]) (by simp[hz']) (by simp only[bq,jk]at hu ⊢;rcases hu with hu|hu;exact .inl hu;exact .inr (.inr hu)) q q')
  simp only[bu,gI]at this ⊢;omega
theorem O0{N:Gm->Prop}[DecidablePred N](hN:CU N)(Rf:∀g,N g->NN g){p:Nat}{t:Int}(ht0:0<=t){c K:Gm}(hc:Canon c)(nc:¬N c)(hK:Canon K)(e:jc K (ht N (nf p t) (nf p (-t)) c))
 (pl:K.l.Pairwise λx y=>¬Same x y) (pr:K.r.Pairwise λx y=>¬Same x y):K.l.length<=max 1 c.l.length/\K.r.length<=max 1 c.r.length:=by
 by_cases w:GU NN K
 .have h1:=Tx hN Rf (JO p ht0) hc nc hK w e
  have h2:=OX hN Rf (JO p ht0) hc nc hK w e;exact⟨bZ (qm (R:=λx y=>Ge (plus (ht N (nf p t) (nf p (-t)) y) (nf p t)) x) pl h1.1 h1.2) (Nat.le_max_right _ _),bZ (qm (R:=λx y=>Ge x (plus (ht N (nf p t) (nf p (-t)) y) (nf p (-t)))) pr h2.1 h2.2) (Nat.le_max_right _ _)⟩
 .obtain⟨n,hn,en⟩:∃n,NN n/\jc n K:=iw λh=>w λn hn en=>h ⟨n,hn,en⟩
  obtain⟨q,j,s⟩:NN K:=Zaa.same _ _ (fT (Zaa.canon n hn) hK en) hn;obtain⟨s1,_,s3,_⟩:=(same_iff _ _).1 s;refine⟨bZ (qm (b:=(nf q j).l) (R:=Same) pl s1 (λx x' y _ _ _ a b=>dn a (dU b))) (bZ (z8 q j).1 (Nat.le_max_left _ _)),bZ (qm (b:=(nf q j).r) (R:=Same) pr s3 (λx x' y _ _ _ a b=>dn a (dU b))) (bZ (z8 q j).2 (Nat.le_max_left _ _))⟩
end Go.Proofs.YtplgooajigigkaaGreatDoor.bE