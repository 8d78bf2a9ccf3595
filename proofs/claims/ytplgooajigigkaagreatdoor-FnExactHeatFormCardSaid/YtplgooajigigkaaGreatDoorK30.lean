/- 30 -/
import Derived.Test.YtplgooajigigkaaGreatDoorK29
namespace Go.Proofs.YtplgooajigigkaaGreatDoor.bE
variable {k j a:Int} {g x y:Gm}
def dO:Nat->Int->Int
 | 0,k=>k
 |p+1,k=>if k % 2=0 then dO p (k / 2)else k
def dP:Nat->Int->Nat
 | 0,_=>0
 |p+1,k=>if k % 2=0 then dP p (k / 2)else p+1
theorem Ac:∀(p:Nat) (k:Int),dP p k<=p/\dO p k*2 ^ (p-dP p k)=k/\(dP p k=0\/dO p k % 2≠0)
 | 0,k=>by simp[dO,dP]
 |p+1,k=>by
  unfold dO dP;by_cases e:k % 2=0
  .rw[if_pos e,if_pos e]
   obtain⟨h1,h2,h3⟩:=Ac p (k / 2);refine⟨by omega,?_,h3⟩;rw[show p+1-dP p (k / 2)=(p-dP p (k / 2))+1 by omega,Int.pow_succ,<-jO,h2];omega
  .rw[if_neg e,if_neg e];exact⟨by omega,by simp,.inr e⟩
theorem Ab:∀(p:Nat) (k:Int),nf (dP p k) (dO p k)=nf p k
 | 0,k=>rfl
 |p+1,k=>by
  unfold dO dP;by_cases e:k % 2=0
  .rw[if_pos e,if_pos e,Ab p (k / 2),<-je];congr 1;omega
  .rw[if_neg e,if_neg e]
theorem EZ(p:Nat)(k:Int):dO (p+1) (2*k)=dO p k/\dP (p+1) (2*k)=dP p k:=by
 rw[dO,dP,if_pos (by omega),if_pos (by omega),show 2*k / 2=k by omega];exact⟨rfl,rfl⟩
theorem Ju:∀(p:Nat) (k:Int),-(k.natAbs:Int)<=dO p k/\dO p k<=k.natAbs
 | 0,k=>by simp only[dO];omega
 |p+1,k=>by
  unfold dO;split
  .have:=Ju p (k / 2);omega
  .omega
def gd(k:Int):Prop:=-1000000<=dO 16 k/\dO 16 k<=1000000
def Val(g:Gm)(k:Int):Prop:=gd k/\Same g (nf 16 k)
def N0(g:Gm):Prop:=∃k,Val g k
theorem QN:∀{p:Nat} {k j:Int},(nf p j∈(nf p k).l\/nf p j∈(nf p k).r)->((dO p j).natAbs:Int)<=(dO p k).natAbs
 | 0,k,j,h=>by
  simp only[dO];rcases h with h|h
  .obtain⟨a,b⟩:=Dt h
   have:=(mU (p:=0)).1 (show jc (nf 0 j) (nf 0 (k-1)) by rw[show nf 0 j=nf 0 (k-1) from b];exact jc.refl _);omega
  .obtain⟨a,b⟩:=Dr h
   have:=(mU (p:=0)).1 (show jc (nf 0 j) (nf 0 (k+1)) by rw[show nf 0 j=nf 0 (k+1) from b];exact jc.refl _);omega
 |p+1,k,j,h=>by
  by_cases e:k % 2=0
  .obtain⟨a,rfl⟩:∃a,k=2*a:=⟨k / 2,by omega⟩
   rw[je]at h;obtain⟨i,rfl⟩:∃i,j=2*i:=by
    rcases h with h|h
    .obtain⟨i,hi,ei⟩:=Bi h
     exact⟨i,(mU (p:=p+1)).1 (by rw[ei,je];exact jc.refl _)⟩
    .obtain⟨i,hi,ei⟩:=zZ h
     exact⟨i,(mU (p:=p+1)).1 (by rw[ei,je];exact jc.refl _)⟩
   rw[je]at h;rw[(EZ p a).1,(EZ p i).1];exact QN h
  .have hj:j=k-1\/j=k+1:=by
    rw[oU e]at h;simp only[Gm.l,Gm.r,eT]at h;rcases h with h|h
    .exact .inl ((mU (p:=p+1)).1 (by rw[h];exact jc.refl _))
    .exact .inr ((mU (p:=p+1)).1 (by rw[h];exact jc.refl _))
   have h2:dO (p+1) k=k:=(by unfold dO;rw[if_neg e]);have h3:dO (p+1) j=dO p (j / 2):=(by rw[dO,if_pos (by omega)]);have h4:=Ju p (j / 2);rw[h2,h3];omega
theorem X5(h:gd k)(hj:nf 16 j∈(nf 16 k).l\/nf 16 j∈(nf 16 k).r):gd j:=by
 have:=QN hj;unfold gd at h ⊢;omega
theorem RN(h:Val g k):Canon g:=lQ (dU h.2) (mE 16 k)
theorem Qm(h:Val g k)(h2:Val g j):k=j:=mU.1 (h.2.eqv.symm.trans h2.2.eqv)
theorem abY(h:Val g k)(hx:x∈g.l):∃j,j<k/\Val x j:=by
 obtain⟨y,hy,s⟩:=((same_iff _ _).1 h.2).1 x hx;obtain⟨j,hj,rfl⟩:=Bi hy;exact⟨j,hj,X5 h.1 (.inl hy),s⟩
theorem abX(h:Val g k)(hx:x∈g.r):∃j,k<j/\Val x j:=by
 obtain⟨y,hy,s⟩:=((same_iff _ _).1 h.2).2.2.1 x hx;obtain⟨j,hj,rfl⟩:=zZ hy;exact⟨j,hj,X5 h.1 (.inr hy),s⟩
theorem Nr{h:Gm}(a:Val g k)(b:Val h j):Ge g h↔j<=k:=by rw[a.2.eqv.qo,b.2.eqv.ow,j6]
theorem lT:CU N0:=by
 refine⟨λg h s ⟨k,a,e⟩=>⟨k,a,dn (dU s) e⟩,λg ⟨k,e⟩=>RN e,λg x ⟨k,e⟩ hx=>?_,λg x ⟨k,e⟩ hx=>?_⟩
 .obtain⟨j,hj,v⟩:=abY e hx;exact⟨⟨j,v⟩,(Nr e v).2 (by omega)⟩
 .obtain⟨j,hj,v⟩:=abX e hx;exact⟨⟨j,v⟩,(Nr v e).2 (by omega)⟩
theorem aeq(g:Gm)(h:N0 g):NN g:=let ⟨k,_,s⟩:=h;⟨16,k,s⟩
theorem AB(h:N0 g)(hh:(x∈g.l/\y∈g.l)\/(x∈g.r/\y∈g.r)):Same x y:=by
 obtain⟨k,_,s⟩:=h;obtain⟨s1,_,s3,_⟩:=(same_iff _ _).1 s;rcases hh with⟨hx,hy⟩|⟨hx,hy⟩
 .obtain⟨u,hu,e⟩:=s1 x hx
  obtain⟨v,hv,f⟩:=s1 y hy;rw[Jm (z8 16 k).1 hu hv]at e;exact dn e (dU f)
 .obtain⟨u,hu,e⟩:=s3 x hx
  obtain⟨v,hv,f⟩:=s3 y hy;rw[Jm (z8 16 k).2 hu hv]at e;exact dn e (dU f)
theorem QG(p:Nat):nf p 0=.mk [] []:=by
 have:=lY 0 p 0;rw[fI,Int.mul_zero]at this;rw[this];rfl
theorem val_zero(hl:g.l=[])(hr:g.r=[]):Val g 0:=by
 refine⟨by unfold gd;decide,?_⟩;rw[QG];cases g with
 |mk l r=>simp only[Gm.l,Gm.r]at hl hr;rw[hl,hr];exact gT _
theorem qX(n:Int):nf 16 (65536*n)=nf 0 n:=by
 have:=lY 0 16 n;rw[<-this];congr 1
theorem Ky(hg:Canon g)(hl:g.l=[x])(hr:g.r=[])(hx:Val x a):Val g k↔k=a+65536/\gd k:=by
 have hm:x∈g.l:=by rw[hl];simp
 have hn:∃n:Int,a=65536*n/\Same g (nf 0 (n+1)):=by
  have e:jc g (nf 0 (max 0 (a / 65536+1))):=by
   constructor
   .rw[gu]
    refine⟨λr h _=>by rw[hr]at h;simp at h,λl h k=>?_⟩;obtain⟨h1,rfl⟩:=Dt h;refine kV hm (bH _ _ _ (bH _ _ _ hx.2.eqv.1 ?_) k);show Ge _ (nf 0 _);rw[<-qX,j6];omega
   .rw[gu]
    refine⟨λr h _=>by obtain⟨h1,_⟩:=Dr h;omega,λl h k=>?_⟩;rw[hl,eT]at h;rw[h,hx.2.eqv.qo,<-qX,j6]at k;omega
  have s:=fT hg (mE _ _) e;obtain⟨y,hy,s2⟩:=((same_iff _ _).1 s).1 x hm;obtain⟨h1,rfl⟩:=Dt hy;refine⟨max 0 (a / 65536+1)-1,?_,by rw[show max 0 (a / 65536+1)-1+1=max 0 (a / 65536+1) by omega];exact s⟩;refine(mU (p:=16)).1 (hx.2.eqv.symm.trans (s2.eqv.trans ?_));rw[qX];exact jc.refl _
 obtain⟨n,rfl,s⟩:=hn;have s':Same g (nf 16 (65536*n+65536)):=by rw[show 65536*n+65536=65536*(n+1) by omega,qX];exact s
 constructor
 .intro v
  exact⟨mU.1 (v.2.eqv.symm.trans s'.eqv),v.1⟩
 .rintro⟨rfl,h⟩;exact⟨h,s'⟩
theorem G9(hg:Canon g)(hl:g.l=[])(hr:g.r=[x])(hx:Val x a):Val g k↔k=a-65536/\gd k:=by
 have hm:x∈g.r:=by rw[hr];simp
 have hn:∃n:Int,a=65536*n/\Same g (nf 0 (n-1)):=by
  have e:jc g (nf 0 (min 0 (-(-a / 65536)-1))):=by
   constructor
   .rw[gu]
    refine⟨λl h k=>?_,λr h _=>by obtain⟨h1,_⟩:=Dt h;omega⟩;rw[hr,eT]at h;rw[h,hx.2.eqv.ow,<-qX,j6]at k;omega
   .rw[gu]
    refine⟨λl h k=>?_,λr h _=>by rw[hl]at h;simp at h⟩;obtain⟨h1,rfl⟩:=Dr h;refine lJ hm (bH _ _ _ k (bH _ _ _ ?_ hx.2.eqv.2));show Ge (nf 0 _) _;rw[<-qX,j6];omega
  have s:=fT hg (mE _ _) e;obtain⟨y,hy,s2⟩:=((same_iff _ _).1 s).2.2.1 x hm;obtain⟨h1,rfl⟩:=Dr hy;refine⟨min 0 (-(-a / 65536)-1)+1,?_,by rw[show min 0 (-(-a / 65536)-1)+1-1=min 0 (-(-a / 65536)-1) by omega];exact s⟩;refine(mU (p:=16)).1 (hx.2.eqv.symm.trans (s2.eqv.trans ?_));rw[qX];exact jc.refl _
 obtain⟨n,rfl,s⟩:=hn;have s':Same g (nf 16 (65536*n-65536)):=by rw[show 65536*n-65536=65536*(n-1) by omega,qX];exact s
 constructor
 .intro v
  exact⟨mU.1 (v.2.eqv.symm.trans s'.eqv),v.1⟩
 .rintro⟨rfl,h⟩;exact⟨h,s'⟩
theorem Vi:∀n (q:Nat) (m:Int),sizeOf (nf q m)<=n->¬Ge x (nf q m)->¬Ge (nf q m) y->
 ∃q m,¬Ge x (nf q m)/\¬Ge (nf q m) y/\(∀z,z∈(nf q m).l->Ge x z)/\∀z,z∈(nf q m).r->Ge z y:=by
 intro n
 induction n with
 |zero=>intro q m h;generalize nf q m=z at h;cases z;simp at h
 |succ n ih=>
  intro q m h h1 h2;by_cases e:∀z,z∈(nf q m).l->Ge x z
  .by_cases f:∀z,z∈(nf q m).r->Ge z y
   .exact⟨q,m,h1,h2,e,f⟩
   .obtain⟨z,hz⟩:=Classical.not_forall.1 f
    obtain⟨hz,g⟩:=Classical.not_imp.1 hz;have lt:=Gm.jH hz;obtain⟨j,hj,rfl⟩:=zZ hz;exact ih q j (by omega) (λk=>h1 (bH _ _ _ k ((j6 q j m).2 (by omega)))) g
  .obtain⟨z,hz⟩:=Classical.not_forall.1 e
   obtain⟨hz,g⟩:=Classical.not_imp.1 hz;have lt:=Gm.jI hz;obtain⟨j,hj,rfl⟩:=Bi hz;exact ih q j (by omega) g (λk=>h2 (bH _ _ _ ((j6 q m j).2 (by omega)) k))
theorem QH:∀(q:Nat) (m:Int),(∃n,nf q m=nf 0 n)\/∃q' m',m' % 2≠0/\nf q m=nf (q'+1) m'
 | 0,m=>.inl ⟨m,rfl⟩
 |q+1,m=>by
  by_cases e:m % 2=0
  .rw[nf,if_pos e];exact QH q _
  .exact .inr ⟨q,m,e,rfl⟩
theorem ET{p q:Nat}{m:Int}(h:jc (nf p k) (nf q m)):k*2 ^ q=m*2 ^ p:=by
 rw[<-lY p q k,<-lY q p m,Nat.add_comm q p]at h;have:=mU.1 h;rw[mX k,mX m];exact this
def Mid(a b:Int):Prop:=(∃q m,1<=q/\q<=16/\m % 2≠0/\a=(m-1)*2 ^ (16-q)/\b=(m+1)*2 ^ (16-q))\/b=a+1
theorem Kz{b:Int}(hg:Canon g)(hl:g.l=[x])(hr:g.r=[y])(hx:Val x a)(hy:Val y b):
 (a<b->Mid a b)/\∀k,Val g k↔a<b/\2*k=a+b/\gd k:=by
 have mx:x∈g.l:=by rw[hl];simp
 have my:y∈g.r:=by rw[hr];simp
 have key:a<b->∃q m,m % 2≠0/\Same g (nf (q+1) m)/\(m-1)*2 ^ 16=a*2 ^ (q+1)/\(m+1)*2 ^ 16=b*2 ^ (q+1):=by
  intro hab;have l17:∀j,nf 17 (2*j)=nf 16 j:=λj=>je 16 j
  obtain⟨q,m,h1,h2,h3,h4⟩:=Vi (x:=x) (y:=y) _ 17 (a+b) (aJ _) (by rw[hx.2.eqv.qo,<-l17,j6];omega) (by rw[hy.2.eqv.ow,<-l17,j6];omega);have e:jc g (nf q m):=by
   constructor
   .rw[gu]
    refine⟨λr h k=>?_,λl h k=>?_⟩
    .rw[hr,eT]at h;rw[h]at k;exact h2 k
    .exact kV mx (bH _ _ _ (h3 l h) k)
   .rw[gu]
    refine⟨λr h k=>?_,λl h k=>?_⟩
    .exact lJ my (bH _ _ _ k (h4 r h))
    .rw[hl,eT]at h;rw[h]at k;exact h1 k
  have s:=fT hg (mE _ _) e;rcases QH q m with⟨n,en⟩|⟨q',m',hm,en⟩
  .rw[en]at s
   obtain⟨u,hu,_⟩:=((same_iff _ _).1 s).1 x mx;obtain⟨v,hv,_⟩:=((same_iff _ _).1 s).2.2.1 y my;have:=(Dt hu).1;have:=(Dr hv).1;omega
  .rw[en]at s
   refine⟨q',m',hm,s,?_,?_⟩
   .obtain⟨u,hu,su⟩:=((same_iff _ _).1 s).1 x mx
    rw[oU hm]at hu;simp only[Gm.l,eT]at hu;subst hu;exact ET (su.eqv.symm.trans hx.2.eqv)
   .obtain⟨u,hu,su⟩:=((same_iff _ _).1 s).2.2.1 y my
    rw[oU hm]at hu;simp only[Gm.r,eT]at hu;subst hu;exact ET (su.eqv.symm.trans hy.2.eqv)
 have two:∀n:Nat,(0:Int)<2 ^ n:=λn=>wu (by omega)
 have small:∀{q:Nat} {m:Int},a<b->(m-1)*2 ^ 16=a*2 ^ (q+1)->(m+1)*2 ^ 16=b*2 ^ (q+1)->q<=16/\(b-a)*2 ^ q=2 ^ 16:=by
  intro q m hab h1 h2;have h3:(b-a)*2 ^ q=2 ^ 16:=by
   have e1:b*2 ^ (q+1)=b*2 ^ q*2:=(by rw[Int.pow_succ,jO]);have e2:a*2 ^ (q+1)=a*2 ^ q*2:=(by rw[Int.pow_succ,jO]);have e3:(b-a)*2 ^ q=b*2 ^ q-a*2 ^ q:=Int.sub_mul _ _ _;omega
  refine⟨iw λhq=>?_,h3⟩;obtain⟨d,rfl⟩:∃d,q=17+d:=⟨q-17,by omega⟩;rw[wy]at h3;have h4:=two d;have h5:(1:Int)*1<=(b-a)*2 ^ d:=Int.mul_le_mul (by omega) (by omega) (by omega) (by omega);have h6:(b-a)*(2 ^ 17*2 ^ d)=(b-a)*2 ^ d*2 ^ 17:=by rw[mX (2 ^ 17),jO]
  omega
 refine⟨λhab=>?_,λk=>⟨λv=>?_,λ⟨hab,hk,gk⟩=>⟨gk,?_⟩⟩⟩
 .obtain⟨q,m,hm,_,h1,h2⟩:=key hab
  obtain⟨hq,h3⟩:=small hab h1 h2;by_cases e:q=16
  .subst e;right;omega
  .refine .inl ⟨q+1,m,by omega,by omega,hm,?_,?_⟩
   .have h4:a*2 ^ (q+1)=(m-1)*2 ^ (16-(q+1))*2 ^ (q+1):=by
     rw[jO,<-wy,show 16-(q+1)+(q+1)=16 by omega,h1]
    exact Int.eq_of_mul_eq_mul_right (Int.ne_of_gt (two (q+1))) h4
   .have h4:b*2 ^ (q+1)=(m+1)*2 ^ (16-(q+1))*2 ^ (q+1):=by
     rw[jO,<-wy,show 16-(q+1)+(q+1)=16 by omega,h2]
    exact Int.eq_of_mul_eq_mul_right (Int.ne_of_gt (two (q+1))) h4
 .obtain⟨i,hi,vi⟩:=abY v mx
  obtain⟨j,hj,vj⟩:=abX v my;have:=Qm vi hx;have:=Qm vj hy;subst i;subst j;have hab:a<b:=by omega
  refine⟨hab,?_,v.1⟩;obtain⟨q,m,hm,s,h1,h2⟩:=key hab;have h4:=ET (v.2.eqv.symm.trans s.eqv);have h5:(2*k)*2 ^ (q+1)=(a+b)*2 ^ (q+1):=by
   rw[jO,h4,Int.add_mul,<-h1,<-h2,<-Int.add_mul];omega
  exact Int.eq_of_mul_eq_mul_right (Int.ne_of_gt (two (q+1))) h5
 .obtain⟨q,m,hm,s,h1,h2⟩:=key hab
  obtain⟨hq,h3⟩:=small hab h1 h2;refine dn s (fT (mE _ _) (mE _ _) ?_);rw[<-lY (q+1) 16 m,<-lY 16 (q+1) k,Nat.add_comm 16 (q+1),mU];have h5:(2:Int)*(2 ^ (q+1)*k)=2*(2 ^ 16*m):=by
   have e1:(2:Int)*(2 ^ (q+1)*k)=(2*k)*2 ^ (q+1):=(by rw[<-jO,mX 2 (2 ^ (q+1)),jO,mX]);rw[e1,hk,Int.add_mul,<-h1,<-h2];omega
  omega
end Go.Proofs.YtplgooajigigkaaGreatDoor.bE
namespace Go.Proofs.YtplgooajigigkaaGreatDoor.bE
variable {p:Nat} {k:Int}
def KH(p:Nat)(k:Int):Int:=if p=0 then(if 0<k then(k+1) / 2 else(k-1) / 2)else if (k-1) / 2 % 2=0 then(k+1) / 2 else(k-1) / 2
def cs:Nat->Int->List Gm
 | 0,k=>(List.range (k.natAbs+1)).map λ(i:Nat)=>nw (if 0<=k then(i:Int)else -(i:Int))
 |p+1,k=>if k % 2=0 then cs p (k / 2)else nf (p+1) k :: cs p (KH p k)
theorem Jr(e:k % 2=0):nf (p+1) k=nf p (k / 2):=by rw[nf,if_pos e]
theorem N7(e:k % 2≠0):nf (p+1) k=.mk [nf p ((k-1) / 2)] [nf p ((k+1) / 2)]:=by rw[nf,if_neg e]
theorem Pz:∀(p:Nat) (k:Int) (M:Nat),k.natAbs<=M*2 ^ p->(cs p k).length<=M+p+1
 | 0,k,M,h=>by simp[cs]at h ⊢;omega
 |p+1,k,M,h=>by
  unfold cs;rw[Nat.pow_succ,<-Nat.mul_assoc]at h;split
  .have:=Pz p (k / 2) M (by omega);omega
  .have hs:(KH p k).natAbs<=M*2 ^ p:=by
    unfold KH;have hev:(M*2 ^ p*2) % 2=0:=(by omega);split
    .split <;> omega
    .split <;> omega
   have:=Pz p (KH p k) M hs;simp only[gI];omega
theorem xm:∀(p:Nat) (k:Int),nf p k∈cs p k
 | 0,k=>by
  show nw k∈_;unfold cs;refine az.2 ⟨k.natAbs,dz.2 (by omega),?_⟩;congr 1;split <;> omega
 |p+1,k=>by
  unfold cs;split
  .next e=>rw[Jr e];exact xm p _
  .simp
theorem Ei(p:Nat){k:Int}(h:k % 2≠0):nf p ((k-1) / 2)∈cs p (KH p k)/\nf p ((k+1) / 2)∈cs p (KH p k):=by
 have hs:KH p k=(k-1) / 2\/KH p k=(k+1) / 2:=by unfold KH;split <;> split <;> simp
 cases p with
 |zero=>
  by_cases hk:0<k
  .have e:KH 0 k=(k+1) / 2:=by unfold KH;rw[if_pos rfl,if_pos hk]
   rw[e];refine⟨?_,xm 0 _⟩;show nw _∈_;unfold cs;refine az.2 ⟨((k-1) / 2).natAbs,dz.2 (by omega),?_⟩;congr 1;rw[if_pos (by omega)];omega
  .have e:KH 0 k=(k-1) / 2:=by unfold KH;rw[if_pos rfl,if_neg hk]
   rw[e];refine⟨xm 0 _,?_⟩;show nw _∈_;unfold cs;refine az.2 ⟨((k+1) / 2).natAbs,dz.2 (by omega),?_⟩;congr 1;rw[if_neg (by omega)];omega
 |succ p=>
  by_cases e:(k-1) / 2 % 2=0
  .have es:KH (p+1) k=(k+1) / 2:=by unfold KH;rw[if_neg (by omega),if_pos e]
   rw[es];refine⟨?_,xm _ _⟩;have ho:(k+1) / 2 % 2≠0:=(by omega);unfold cs;rw[if_neg ho,Jr e];refine qz _ ?_;have:=(Ei p ho).1;rw[show((k+1) / 2-1) / 2=(k-1) / 2 / 2 by omega]at this;exact this
  .have es:KH (p+1) k=(k-1) / 2:=by unfold KH;rw[if_neg (by omega),if_neg e]
   rw[es];refine⟨xm _ _,?_⟩;have he:(k+1) / 2 % 2=0:=(by omega);unfold cs;rw[if_neg e,Jr he];refine qz _ ?_;have:=(Ei p e).2;rw[show((k-1) / 2+1) / 2=(k+1) / 2 / 2 by omega]at this;exact this
def Shut(L:List Gm):Prop:=∀x,x∈L->∀y,y∈x.l\/y∈x.r->y∈L
theorem Eh:∀(p:Nat) (k:Int),Shut (cs p k)
 | 0,k=>λx hx y hy=>by
  unfold cs at hx ⊢;obtain⟨i,hi,rfl⟩:=az.1 hx;have hi':=dz.1 hi;rcases hy with hy|hy
  .obtain⟨h1,rfl⟩:=Dt hy
   refine az.2 ⟨i-1,dz.2 (by omega),?_⟩;congr 1;split at h1 <;> split <;> omega
  .obtain⟨h1,rfl⟩:=Dr hy
   refine az.2 ⟨i-1,dz.2 (by omega),?_⟩;congr 1;split at h1 <;> split <;> omega
 |p+1,k=>by
  unfold cs;split
  .exact Eh p _
  .next e=>
   intro x hx y hy;rcases jk.1 hx with rfl|hx
   .rw[N7 e]at hy
    simp only[Gm.l,Gm.r,eT]at hy;refine qz _ ?_;rcases hy with rfl|rfl
    .exact(Ei p e).1
    .exact(Ei p e).2
   .exact qz _ (Eh p _ x hx y hy)
def Nk(L:List Gm)(D:dh):Prop:=∀i,i<D.length->∃x,x∈L/\Same (vl D i) x
theorem Nk.len{L:List Gm}{D:dh}(h:Nk L D)(g:Good D):D.length<=L.length:=by
 have:=qm (a:=(List.range D.length).map (vl D)) (b:=L) (R:=Same) (by
  rw[gU];refine fQ (λ{x y} hx hy h s=>?_) sZ;have:=dz.1 hx;have:=dz.1 hy;have:=lX g x y (by omega) (by omega) s;omega) (λx hx=>by
  obtain⟨i,hi,rfl⟩:=az.1 hx;exact h i (dz.1 hi)) (λx x' y _ _ _ a b=>dn a (dU b))
 simpa using this
theorem MQ(g:Gm):Ge (nf 0 (born g:Nat)) g:=by
 rw[gu];refine⟨λr hr _=>?_,λl hl k=>?_⟩
 .obtain⟨h,_⟩:=Dr hr;omega
 .have h1:=yC hl
  have h2:=(j6 0 _ _).1 (bH _ _ _ (MQ l) k);omega
termination_by sizeOf g
decreasing_by exact Gm.jI hl
theorem IL(g:Gm):Ge g (nf 0 (-(born g:Nat))):=by
 rw[gu];refine⟨λr hr k=>?_,λl hl _=>?_⟩
 .have h1:=yB hr
  have h2:=(j6 0 _ _).1 (bH _ _ _ k (IL r));omega
 .obtain⟨h,_⟩:=Dt hl;omega
termination_by sizeOf g
decreasing_by exact Gm.jH hr
theorem CP(p:Nat)(k:Int):(k.natAbs:Int)<=(born (nf p k):Nat)*2 ^ p:=by
 have l0:∀j:Int,nf 0 j=nf p (2 ^ p*j):=λj=>by have:=lY 0 p j;rw[fI]at this;exact this.symm
 have h1:=MQ (nf p k);have h2:=IL (nf p k);rw[l0,j6]at h1 h2;have e:(2:Int) ^ p*-((born (nf p k):Nat):Int)=-(2 ^ p*((born (nf p k):Nat):Int)):=Int.mul_neg _ _;rw[e]at h2;rw[mX];omega
theorem FW:∀(p:Nat) {k:Int},k % 2≠0->(k.natAbs:Int) / 2 ^ (p+1)+(p+1)+1<=(born (nf (p+1) k):Nat)
 | 0,k,h=>by
  have hb:∀j:Int,(j.natAbs:Int)<=(born (nf 0 j):Nat):=λj=>by have:=CP 0 j;omega
  have e:nf 1 k=.mk [nf 0 ((k-1) / 2)] [nf 0 ((k+1) / 2)]:=N7 h;have h1:born (nf 0 ((k-1) / 2))<born (nf 1 k):=yC (by rw[e];simp[Gm.l]);have h2:born (nf 0 ((k+1) / 2))<born (nf 1 k):=yB (by rw[e];simp[Gm.r]);have:=hb ((k-1) / 2);have:=hb ((k+1) / 2);simp only[fI,show(2:Int) ^ 1=2 from rfl];omega
 |p+1,k,h=>by
  have e:nf (p+1+1) k=.mk [nf (p+1) ((k-1) / 2)] [nf (p+1) ((k+1) / 2)]:=N7 h;have h1:born (nf (p+1) ((k-1) / 2))<born (nf (p+1+1) k):=yC (by rw[e];simp[Gm.l]);have h2:born (nf (p+1) ((k+1) / 2))<born (nf (p+1+1) k):=yB (by rw[e];simp[Gm.r]);have key:∀o:Int,o % 2≠0->(k.natAbs:Int)-1<=2*o.natAbs->(k.natAbs:Int) / 2 ^ (p+1+1)<=(o.natAbs:Int) / 2 ^ (p+1):=λo ho hle=>by
   have hp:(0:Int)<2 ^ (p+1):=wu (by omega);rw[show(2:Int) ^ (p+1+1)=2*2 ^ (p+1) by rw[Int.pow_succ,mX],<-Int.ediv_ediv_of_nonneg (by omega)];exact Int.ediv_le_ediv hp (by omega)
  by_cases o:(k-1) / 2 % 2=0
  .have ho:(k+1) / 2 % 2≠0:=by omega
   have h3:=FW p ho;by_cases hk:0<k
   .have:=key _ ho (by omega);omega
   .have hk2:((k+1) / 2).natAbs*2+1=k.natAbs:=by omega
    have:=key _ ho (by omega);omega
  .have h3:=FW p o
   have:=key _ o (by omega);omega
theorem IG{F:dh}{g:Gm}(hF:bI F)(s:Same (bz F) g):born g<F.length:=by
 have h:=oC hF.good.wf (F.length-1);have h0:=fV.2 hF.ne;have e:=mh s;unfold bz at e;omega
end Go.Proofs.YtplgooajigigkaaGreatDoor.bE
namespace Go.Proofs.YtplgooajigigkaaGreatDoor
open bE (dh Nd Gm Canon jc bI bz Same plus vl N0 nf CU)
variable {t:Int} {g a b:Gm} {E K M C:dh} {i:Nat}
def Ga(t:Int)(g:Gm)(E:dh):Prop:=fA E (@bE.ht N0 (λ_=>Classical.propDecidable _) (nf 16 t) (nf 16 (-t)) g)
def F9(t u:Int)(g:Gm)(E:dh):Prop:=fA E (plus (@bE.ht N0 (λ_=>Classical.propDecidable _) (nf 16 t) (nf 16 (-t)) g) (nf 16 u))
def DJ(t u:Int)(x y:Gm):Prop:=Canon y/\jc y (plus (@bE.ht N0 (λ_=>Classical.propDecidable _) (nf 16 t) (nf 16 (-t)) x) (nf 16 u))
def CS(E:dh)(u:Int):Prop:=∃NF S,fA NF (nf 16 u)/\dm NF=true/\E.length*NF.length<=1600/\bI S/\Same (bz S) (plus (bz E) (bz NF))/\dm S=true
def nG(t u:Int)(x:Gm):Prop:=∃E E',Ga t x E/\dm E=true/\CS E u/\F9 t u x E'/\dm E'=true
def zO(t:Int)(g:Gm)(M:dh):Prop:=bI M/\(∀x,x∈g.l->∃y,y∈(bz M).l/\DJ t t x y)/\(∀y,y∈(bz M).l->∃x,x∈g.l/\DJ t t x y)/\
 (∀x,x∈g.r->∃y,y∈(bz M).r/\DJ t (-t) x y)/\∀y,y∈(bz M).r->∃x,x∈g.r/\DJ t (-t) x y
def rQ(t:Int)(g:Gm):Prop:=N0 g\/((∀x,(h:x∈g.l)->rQ t x/\nG t t x)/\(∀x,(h:x∈g.r)->rQ t x/\nG t (-t) x)/\∃M,zO t g M/\dm M=true)
termination_by sizeOf g
decreasing_by
 .exact bE.Gm.jI h
 .exact bE.Gm.jH h
theorem pq:rQ t g↔N0 g\/((∀x,x∈g.l->rQ t x/\nG t t x)/\(∀x,x∈g.r->rQ t x/\nG t (-t) x)/\∃M,zO t g M/\dm M=true):=by rw[rQ]
theorem adl(s:Same a b):jc (@bE.ht N0 (λ_=>Classical.propDecidable _) (nf 16 t) (nf 16 (-t)) a) (@bE.ht N0 (λ_=>Classical.propDecidable _) (nf 16 t) (nf 16 (-t)) b):=(@bE.y8 N0 (λ_=>Classical.propDecidable _) _ _ bE.lT _ _ s).eqv
theorem Ga.same(s:Same a b)(h:Ga t a E):Ga t b E:=h.to (adl s)
theorem qK(g:bE.Good E)(hi:i<E.length):((vl E i).l.Pairwise λx y=>¬Same x y)/\((vl E i).r.Pairwise λx y=>¬Same x y):=by
 have d:=af hi;obtain⟨w1,w2⟩:=g.wf i _ d;obtain⟨a1,a2⟩:=g.xD _ (ai hi);rw[bE.lI g.wf d,bE.lH g.wf d,gU,gU];refine⟨fQ (λ{x y} hx hy h s=>?_) a1,fQ (λ{x y} hx hy h s=>?_) a2⟩
 .have:=w1 x hx;have:=w1 y hy
  have:=bE.lX g x y (by omega) (by omega) s;omega
 .have:=w2 x hx;have:=w2 y hy
  have:=bE.lX g x y (by omega) (by omega) s;omega
theorem Bc(g:bE.Good E)(hi:i<E.length):(vl E i).l.length=(E[i]).1.length/\(vl E i).r.length=(E[i]).2.length:=by
 have d:=af hi;rw[bE.lI g.wf d,bE.lH g.wf d,bK,bK];exact⟨rfl,rfl⟩
theorem Be(g:bE.WF E){x:Gm}(hx:x∈(vl E i).l\/x∈(vl E i).r):∃k,k<i/\i<E.length/\x=vl E k:=by
 cases d:E[i]? with
 |none=>rw[bE.DR d]at hx;simp[bE.Gm.l,bE.Gm.r]at hx
 |some nd=>
  obtain⟨w1,w2⟩:=g i _ d;have hi:=(df.1 d).1;rw[bE.lI g d,bE.lH g d]at hx;rcases hx with hx|hx
  .obtain⟨k,hk,rfl⟩:=az.1 hx;exact⟨k,w1 k hk,hi,rfl⟩
  .obtain⟨k,hk,rfl⟩:=az.1 hx;exact⟨k,w2 k hk,hi,rfl⟩
theorem BM(hE:bI E)(hl:E.length<=120)(h:∀i,i<E.length->(vl E i).l.length<=24/\(vl E i).r.length<=24):dm E=true:=by
 have h0:=fV.2 hE.ne;refine decide_eq_true ⟨by omega,hl,λi hi=>?_⟩;have:=h i hi;have:=Bc hE.good hi;omega
theorem CG(hE:bI E)(h:dm E=true):E.length<=120/\∀i,i<E.length->(vl E i).l.length<=24/\(vl E i).r.length<=24:=by
 obtain⟨_,h2,h3⟩:=of_decide_eq_true h;refine⟨h2,λi hi=>?_⟩;have:=h3 i hi;have:=Bc hE.good hi;omega
theorem Lj(hK:bI K)(hM:bI M)(cK:Canon (bz K))(cM:∀y,y∈(bz M).l\/y∈(bz M).r->Canon y)(e:jc (bz K) (bz M)):∀i,i<K.length-1->∃j,j<M.length-1/\Same (vl K i) (vl M j):=by
 have key:∀i,bE.Reach K (K.length-1) i->i=K.length-1\/∃j,j<M.length-1/\Same (vl K i) (vl M j):=by
  have low:∀{i k:Nat} {s:Bool},(i=K.length-1\/∃j,j<M.length-1/\Same (vl K i) (vl M j))->(if s then vl K k∈(vl K i).l else vl K k∈(vl K i).r)->∃j,j<M.length-1/\Same (vl K k) (vl M j):=by
   intro i k s ih hk;rcases ih with rfl|⟨j,hj,sj⟩
   .have Q1:∀d,(Canon d/\∃j,j<M.length-1/\d=vl M j)->∀f,f∈d.l\/f∈d.r->Canon f/\∃j,j<M.length-1/\f=vl M j:=λd ⟨c,j,hj,ed⟩ f hf=>by
     refine⟨hf.elim c.l c.r,?_⟩;subst ed;obtain⟨k,hk,_,rfl⟩:=Be hM.good.wf hf;exact⟨k,by omega,rfl⟩
    have Q0:∀a,a∈(bz M).l\/a∈(bz M).r->Canon a/\∃j,j<M.length-1/\a=vl M j:=λa ha=>by
     refine⟨cM a ha,?_⟩;obtain⟨k,hk,_,rfl⟩:=Be hM.good.wf ha;exact⟨k,hk,rfl⟩
    have done:∀x,Canon x->(∃y,((y∈(bz M).l\/y∈(bz M).r)\/(Canon y/\∃j,j<M.length-1/\y=vl M j))/\jc x y)->∃j,j<M.length-1/\Same x (vl M j):=λx cx ⟨y,hy,ey⟩=>by
     obtain⟨cy,j,hj,rfl⟩:Canon y/\∃j,j<M.length-1/\y=vl M j:=hy.elim (Q0 y) id;exact⟨j,hj,bE.fT cx cy ey⟩
    cases s with
    |true=>
     simp only[if_true]at hk;refine done _ (cK.l hk) ?_;obtain⟨y,hy,ey⟩:=bE.Bh (Q:=λd=>Canon d/\∃j,j<M.length-1/\d=vl M j) cK e (λa ha b hb d hd=>Q1 b (Q1 a (Q0 a (.inl ha)) b (.inr hb)) d (.inl hd)) (λd hd f hf g hg=>Q1 f (Q1 d hd f (.inr hf)) g (.inl hg)) hk;exact⟨y,hy.elim (λh=>.inl (.inl h)) .inr,ey⟩
    |false=>
     simp only[Bool.false_eq_true,if_false]at hk;refine done _ (cK.r hk) ?_;obtain⟨y,hy,ey⟩:=bE.Bf (Q:=λd=>Canon d/\∃j,j<M.length-1/\d=vl M j) cK e (λa ha b hb d hd=>Q1 b (Q1 a (Q0 a (.inr ha)) b (.inl hb)) d (.inr hd)) (λd hd f hf g hg=>Q1 f (Q1 d hd f (.inl hf)) g (.inr hg)) hk;exact⟨y,hy.elim (λh=>.inl (.inr h)) .inr,ey⟩
   .obtain⟨s1,_,s3,_⟩:=(bE.same_iff _ _).1 sj
    cases s with
    |true=>
     simp only[if_true]at hk;obtain⟨y,hy,sy⟩:=s1 _ hk;obtain⟨m,hm,_,rfl⟩:=Be hM.good.wf (.inl hy);exact⟨m,by omega,sy⟩
    |false=>
     simp only[Bool.false_eq_true,if_false]at hk;obtain⟨y,hy,sy⟩:=s3 _ hk;obtain⟨m,hm,_,rfl⟩:=Be hM.good.wf (.inr hy);exact⟨m,by omega,sy⟩
  intro i hr
  induction hr with
  |here=>exact .inl rfl
  |left hr hd hk ih=>exact .inr (low (s:=true) ih (by rw[if_pos rfl,bE.lI hK.good.wf hd];exact aV hk))
  |right hr hd hk ih=>exact .inr (low (s:=false) ih (by rw[if_neg (by simp),bE.lH hK.good.wf hd];exact aV hk))
 intro i hi;rcases key i (hK.reach i (by omega))with h|h
 .omega
 .exact h
theorem rf(hC:bI C)(c:Canon (bz C)):∀i,i<C.length->Canon (vl C i):=by
 intro i hi;have hr:=hC.reach i hi;clear hi
 induction hr with
 |here=>exact c
 |left hr hd hk ih=>exact ih.l (by rw[bE.lI hC.good.wf hd];exact aV hk)
 |right hr hd hk ih=>exact ih.r (by rw[bE.lH hC.good.wf hd];exact aV hk)
theorem Lu(n:¬N0 g)(h:zO t g M):jc (bz M) (@bE.ht N0 (λ_=>Classical.propDecidable _) (nf 16 t) (nf 16 (-t)) g):=by
 obtain⟨_,h1,h2,h3,h4⟩:=h;constructor
 .refine bE.Dl (λy hy=>?_) (λy hy=>?_)
  .obtain⟨x,hx,k⟩:=h4 y hy
   exact .inl ⟨_,(@bE.Dv N0 (λ_=>Classical.propDecidable _) _ _ _ _ n).2 ⟨x,hx,rfl⟩,k.2.1⟩
  .obtain⟨x,hx,rfl⟩:=(@bE.Dw N0 (λ_=>Classical.propDecidable _) _ _ _ _ n).1 hy
   obtain⟨y,hy,k⟩:=h1 x hx;exact .inl ⟨y,hy,k.2.1⟩
 .refine bE.Dl (λy hy=>?_) (λy hy=>?_)
  .obtain⟨x,hx,rfl⟩:=(@bE.Dv N0 (λ_=>Classical.propDecidable _) _ _ _ _ n).1 hy
   obtain⟨y,hy,k⟩:=h3 x hx;exact .inl ⟨y,hy,k.2.2⟩
  .obtain⟨x,hx,k⟩:=h2 y hy
   exact .inl ⟨_,(@bE.Dw N0 (λ_=>Classical.propDecidable _) _ _ _ _ n).2 ⟨x,hx,rfl⟩,k.2.2⟩
theorem EW(ht:0<=t)(c:Canon g)(pl:g.l.Pairwise λx y=>¬Same x y)(pr:g.r.Pairwise λx y=>¬Same x y)(h:zO t g M):g.l.length<=(bz M).l.length/\g.r.length<=(bz M).r.length:=by
 obtain⟨_,h1,_,h3,_⟩:=h;have inj:∀u x x' y,Canon x->Canon x'->DJ t u x y->DJ t u x' y->Same x x':=λu x x' y cx cx' a b=>by
  have e:=a.2.symm.trans b.2;exact @bE.Xr N0 (λ_=>Classical.propDecidable _) _ _ bE.lT (bE.JO 16 ht) _ _ cx cx' ⟨(bE.mQ _ _ _).1 e.1,(bE.mQ _ _ _).1 e.2⟩
 exact⟨bE.qm (R:=DJ t t) pl h1 (λx x' y hx hx' _ a b=>inj t x x' y (c.l hx) (c.l hx') a b),bE.qm (R:=DJ t (-t)) pr h3 (λx x' y hx hx' _ a b=>inj (-t) x x' y (c.r hx) (c.r hx') a b)⟩
theorem Ch(h:bI E):E.length-1<E.length:=by have:=fV.2 h.ne;omega
theorem Lf(ht:0<=t)(hC:bI C)(c:Canon (bz C))(hl:C.length<=120)(h:rQ t (bz C)):dm C=true:=by
 refine BM hC hl λi hi=>?_
 have ok:rQ t (vl C i):=by
  have next:∀{g x:Gm},rQ t g->(x∈g.l\/x∈g.r)->rQ t x:=λ{g x} h hx=>by
   rw[pq]at h;rcases h with h|⟨h1,h2,_⟩
   .exact pq.2 (.inl (hx.elim (λhx=>(bE.lT.left g x h hx).1) (λhx=>(bE.lT.right g x h hx).1)))
   .exact hx.elim (λhx=>(h1 x hx).1) (λhx=>(h2 x hx).1)
  have hr:=hC.reach i hi;clear hi
  induction hr with
  |here=>exact h
  |left hr hd hk ih=>exact next ih (.inl (by rw[bE.lI hC.good.wf hd];exact aV hk))
  |right hr hd hk ih=>exact next ih (.inr (by rw[bE.lH hC.good.wf hd];exact aV hk))
 obtain⟨pl,pr⟩:=qK hC.good hi;by_cases n:N0 (vl C i)
 .have one:∀{l:List Gm},l.Pairwise (λx y=>¬Same x y)->(∀x y,x∈l->y∈l->Same x y)->l.length<=24:=λ{l} p h=>by
   match l with
   |[]=>simp
   |[_]=>simp
   |a :: b :: l=>exact absurd (h a b (by simp) (by simp)) ((lu.1 p).1 b (by simp))
  exact⟨one pl λx y hx hy=>bE.AB n (.inl ⟨hx,hy⟩),one pr λx y hx hy=>bE.AB n (.inr ⟨hx,hy⟩)⟩
 .rw[pq]at ok
  rcases ok with ok|⟨_,_,M,hM,fM⟩
  .exact absurd ok n
  .have h1:=EW ht (rf hC c i hi) pl pr hM
   have h2:=(CG hM.1 fM).2 _ (Ch hM.1);have e:vl M (M.length-1)=bz M:=rfl;rw[e]at h2;omega
theorem L6(ht:0<=t)(c:Canon g)(n:¬N0 g)(pl:g.l.Pairwise λx y=>¬Same x y)(pr:g.r.Pairwise λx y=>¬Same x y)(hM:zO t g M)(fM:dm M=true)(hK:Ga t g K):dm K=true:=by
 have cK:Canon (bz K):=by
  obtain⟨_,k,s,ck,_⟩:=hK;exact bE.lQ (bE.dU s) ck
 have e:=hK.eqv;have em:=Lu n hM;have cM:∀y,y∈(bz M).l\/y∈(bz M).r->Canon y:=λy hy=>by
  rcases hy with hy|hy
  .obtain⟨x,_,k⟩:=hM.2.2.1 y hy;exact k.1
  .obtain⟨x,_,k⟩:=hM.2.2.2.2 y hy;exact k.1
 have hIK:=hK.1;have below:=Lj hIK hM.1 cK cM (e.trans em.symm);obtain⟨l1,l2⟩:=CG hM.1 fM;have kp:=Ch hIK;have mp:=Ch hM.1;have hlen:K.length-1<=M.length-1:=by
  have h:=bE.qm (a:=(List.range (K.length-1)).map (vl K)) (b:=(List.range (M.length-1)).map (vl M)) (R:=Same) (by
   rw[gU];refine fQ (λ{x y} hx hy h s=>?_) sZ;have:=dz.1 hx;have:=dz.1 hy;have:=bE.lX hIK.good x y (by omega) (by omega) s;omega) (λx hx=>by
   obtain⟨i,hi,rfl⟩:=az.1 hx;obtain⟨j,hj,s⟩:=below i (dz.1 hi);exact⟨_,aV (dz.2 hj),s⟩) (λx x' y _ _ _ a b=>bE.dn a (bE.dU b))
  simpa using h
 refine BM hIK (by omega) λi hi=>?_
 obtain⟨ql,qr⟩:=qK hIK.good hi;by_cases it:i=K.length-1
 .subst it
  have h1:=@bE.O0 N0 (λ_=>Classical.propDecidable _) bE.lT bE.aeq 16 t ht g (bz K) c n cK e ql qr;have h2:=EW ht c pl pr hM;have h3:=l2 _ mp;have e:vl M (M.length-1)=bz M:=rfl;rw[e]at h3;show(bz K).l.length<=24/\(bz K).r.length<=24;omega
 .obtain⟨j,hj,s⟩:=below i (by omega)
  obtain⟨s1,_,s3,_⟩:=(bE.same_iff _ _).1 s;have h3:=l2 j (by omega);have h4:=bE.qm (R:=Same) ql s1 (λx x' y _ _ _ a b=>bE.dn a (bE.dU b));have h5:=bE.qm (R:=Same) qr s3 (λx x' y _ _ _ a b=>bE.dn a (bE.dU b));omega
theorem Q7(hC:bI C)(c:Canon (bz C))(n:N0 (bz C)):Ga t (bz C) C:=by
 refine⟨hC,bz C,bE.gT _,c,?_⟩;rw[@bE.tO N0 (λ_=>Classical.propDecidable _) _ _ _ n];exact jc.refl _
theorem LZ(n:¬N0 g)(hM:zO t g M)(hK:fA K (bz M)):Ga t g K:=hK.to (Lu n hM)
