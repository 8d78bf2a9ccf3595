/- 3 -/
import Derived.Test.YtplgooajigigkaaGreatDoorQ2
namespace Go.Proofs.YtplgooajigigkaaGreatDoor.aZ
variable {k j a:Int} {g x y:Gm}
def bG:Nat->Int->Int
 | 0,k=>k
 |p+1,k=>if k % 2=0 then bG p (k / 2)else k
def bT:Nat->Int->Nat
 | 0,_=>0
 |p+1,k=>if k % 2=0 then bT p (k / 2)else p+1
theorem uH:∀(p:Nat) (k:Int),bT p k<=p/\bG p k*2 ^ (p-bT p k)=k/\(bT p k=0\/bG p k % 2≠0)
 | 0,k=>by simp[bG,bT]
 |p+1,k=>by
  unfold bG bT;by_cases e:k % 2=0
  .rw[if_pos e,if_pos e]
   obtain⟨h1,h2,h3⟩:=uH p (k / 2);refine⟨by omega,?_,h3⟩;rw[show p+1-bT p (k / 2)=(p-bT p (k / 2))+1 by omega,Int.pow_succ,<-ja,h2];omega
  .rw[if_neg e,if_neg e];exact⟨by omega,by simp,.inr e⟩
theorem BC(p:Nat)(k:Int):bG (p+1) (2*k)=bG p k/\bT (p+1) (2*k)=bT p k:=by
 rw[bG,bT,if_pos (by omega),if_pos (by omega),show 2*k / 2=k by omega];exact⟨rfl,rfl⟩
theorem qd:∀(p:Nat) (k:Int),-(k.natAbs:Int)<=bG p k/\bG p k<=k.natAbs
 | 0,k=>by simp only[bG];omega
 |p+1,k=>by
  unfold bG;split
  .have:=qd p (k / 2);omega
  .omega
def gd(k:Int):Prop:=-1000000<=bG 16 k/\bG 16 k<=1000000
def Val(g:Gm)(k:Int):Prop:=gd k/\Same g (nf 16 k)
def N0(g:Gm):Prop:=∃k,Val g k
theorem M8:∀{p:Nat} {k j:Int},(nf p j∈(nf p k).l\/nf p j∈(nf p k).r)->((bG p j).natAbs:Int)<=(bG p k).natAbs
 | 0,k,j,h=>by
  simp only[bG];rcases h with h|h
  .obtain⟨a,b⟩:=E9 h
   have:=(kz (p:=0)).1 (show eU (nf 0 j) (nf 0 (k-1)) by rw[show nf 0 j=nf 0 (k-1) from b];exact eU.refl _);omega
  .obtain⟨a,b⟩:=E8 h
   have:=(kz (p:=0)).1 (show eU (nf 0 j) (nf 0 (k+1)) by rw[show nf 0 j=nf 0 (k+1) from b];exact eU.refl _);omega
 |p+1,k,j,h=>by
  by_cases e:k % 2=0
  .obtain⟨a,rfl⟩:∃a,k=2*a:=⟨k / 2,by omega⟩
   rw[eO]at h;obtain⟨i,rfl⟩:∃i,j=2*i:=by
    rcases h with h|h
    .obtain⟨i,hi,ei⟩:=Ad h
     exact⟨i,(kz (p:=p+1)).1 (by rw[ei,eO];exact eU.refl _)⟩
    .obtain⟨i,hi,ei⟩:=Ac h
     exact⟨i,(kz (p:=p+1)).1 (by rw[ei,eO];exact eU.refl _)⟩
   rw[eO]at h;rw[(BC p a).1,(BC p i).1];exact M8 h
  .have hj:j=k-1\/j=k+1:=by
    rw[lH e]at h;simp only[Gm.l,Gm.r,dB]at h;rcases h with h|h
    .exact .inl ((kz (p:=p+1)).1 (by rw[h];exact eU.refl _))
    .exact .inr ((kz (p:=p+1)).1 (by rw[h];exact eU.refl _))
   have h2:bG (p+1) k=k:=(by unfold bG;rw[if_neg e]);have h3:bG (p+1) j=bG p (j / 2):=(by rw[bG,if_pos (by omega)]);have h4:=qd p (j / 2);rw[h2,h3];omega
theorem TC(h:gd k)(hj:nf 16 j∈(nf 16 k).l\/nf 16 j∈(nf 16 k).r):gd j:=by
 have:=M8 hj;unfold gd at h ⊢;omega
theorem NY(h:Val g k):Canon g:=xh (iF h.2) (oh 16 k)
theorem MC(h:Val g k)(h2:Val g j):k=j:=kz.1 (h.2.eqv.symm.trans h2.2.eqv)
theorem Yr(h:Val g k)(hx:x∈g.l):∃j,j<k/\Val x j:=by
 obtain⟨y,hy,s⟩:=((same_iff _ _).1 h.2).1 x hx;obtain⟨j,hj,rfl⟩:=Ad hy;exact⟨j,hj,TC h.1 (.inl hy),s⟩
theorem Yq(h:Val g k)(hx:x∈g.r):∃j,k<j/\Val x j:=by
 obtain⟨y,hy,s⟩:=((same_iff _ _).1 h.2).2.2.1 x hx;obtain⟨j,hj,rfl⟩:=Ac hy;exact⟨j,hj,TC h.1 (.inr hy),s⟩
theorem JU{h:Gm}(a:Val g k)(b:Val h j):Ge g h↔j<=k:=by rw[a.2.eqv.nz,b.2.eqv.lM,kI]
theorem vw:ad9 N0:=by
 refine⟨λg h s ⟨k,a,e⟩=>⟨k,a,fE (iF s) e⟩,λg ⟨k,e⟩=>NY e,λg x ⟨k,e⟩ hx=>?_,λg x ⟨k,e⟩ hx=>?_⟩
 .obtain⟨j,hj,v⟩:=Yr e hx;exact⟨⟨j,v⟩,(JU e v).2 (by omega)⟩
 .obtain⟨j,hj,v⟩:=Yq e hx;exact⟨⟨j,v⟩,(JU v e).2 (by omega)⟩
theorem Gu(h:N0 g)(hh:(x∈g.l/\y∈g.l)\/(x∈g.r/\y∈g.r)):Same x y:=by
 obtain⟨k,_,s⟩:=h;obtain⟨s1,_,s3,_⟩:=(same_iff _ _).1 s;rcases hh with⟨hx,hy⟩|⟨hx,hy⟩
 .obtain⟨u,hu,e⟩:=s1 x hx
  obtain⟨v,hv,f⟩:=s1 y hy;rw[EY (BA 16 k).1 hu hv]at e;exact fE e (iF f)
 .obtain⟨u,hu,e⟩:=s3 x hx
  obtain⟨v,hv,f⟩:=s3 y hy;rw[EY (BA 16 k).2 hu hv]at e;exact fE e (iF f)
theorem Wx(p:Nat):nf p 0=.mk [] []:=by
 have:=rY 0 p 0;rw[gQ,Int.mul_zero]at this;rw[this];rfl
theorem val_zero(hl:g.l=[])(hr:g.r=[]):Val g 0:=by
 refine⟨by unfold gd;decide,?_⟩;rw[Wx];cases g with
 |mk l r=>simp only[Gm.l,Gm.r]at hl hr;rw[hl,hr];exact iQ _
theorem og(n:Int):nf 16 (65536*n)=nf 0 n:=by
 have:=rY 0 16 n;rw[<-this];congr 1
theorem QE(hg:Canon g)(hl:g.l=[x])(hr:g.r=[])(hx:Val x a):Val g k↔k=a+65536/\gd k:=by
 have hm:x∈g.l:=by rw[hl];simp
 have hn:∃n:Int,a=65536*n/\Same g (nf 0 (n+1)):=by
  have e:eU g (nf 0 (max 0 (a / 65536+1))):=by
   constructor
   .rw[dY]
    refine⟨λr h _=>by rw[hr]at h;simp at h,λl h k=>?_⟩;obtain⟨h1,rfl⟩:=E9 h;refine ku hm (bZ _ _ _ (bZ _ _ _ hx.2.eqv.1 ?_) k);show Ge _ (nf 0 _);rw[<-og,kI];omega
   .rw[dY]
    refine⟨λr h _=>by obtain⟨h1,_⟩:=E8 h;omega,λl h k=>?_⟩;rw[hl,dB]at h;rw[h,hx.2.eqv.nz,<-og,kI]at k;omega
  have s:=iA hg (oh _ _) e;obtain⟨y,hy,s2⟩:=((same_iff _ _).1 s).1 x hm;obtain⟨h1,rfl⟩:=E9 hy;refine⟨max 0 (a / 65536+1)-1,?_,by rw[show max 0 (a / 65536+1)-1+1=max 0 (a / 65536+1) by omega];exact s⟩;refine(kz (p:=16)).1 (hx.2.eqv.symm.trans (s2.eqv.trans ?_));rw[og];exact eU.refl _
 obtain⟨n,rfl,s⟩:=hn;have s':Same g (nf 16 (65536*n+65536)):=by rw[show 65536*n+65536=65536*(n+1) by omega,og];exact s
 constructor
 .intro v
  exact⟨kz.1 (v.2.eqv.symm.trans s'.eqv),v.1⟩
 .rintro⟨rfl,h⟩;exact⟨h,s'⟩
theorem NW(hg:Canon g)(hl:g.l=[])(hr:g.r=[x])(hx:Val x a):Val g k↔k=a-65536/\gd k:=by
 have hm:x∈g.r:=by rw[hr];simp
 have hn:∃n:Int,a=65536*n/\Same g (nf 0 (n-1)):=by
  have e:eU g (nf 0 (min 0 (-(-a / 65536)-1))):=by
   constructor
   .rw[dY]
    refine⟨λl h k=>?_,λr h _=>by obtain⟨h1,_⟩:=E9 h;omega⟩;rw[hr,dB]at h;rw[h,hx.2.eqv.lM,<-og,kI]at k;omega
   .rw[dY]
    refine⟨λl h k=>?_,λr h _=>by rw[hl]at h;simp at h⟩;obtain⟨h1,rfl⟩:=E8 h;refine lG hm (bZ _ _ _ k (bZ _ _ _ ?_ hx.2.eqv.2));show Ge (nf 0 _) _;rw[<-og,kI];omega
  have s:=iA hg (oh _ _) e;obtain⟨y,hy,s2⟩:=((same_iff _ _).1 s).2.2.1 x hm;obtain⟨h1,rfl⟩:=E8 hy;refine⟨min 0 (-(-a / 65536)-1)+1,?_,by rw[show min 0 (-(-a / 65536)-1)+1-1=min 0 (-(-a / 65536)-1) by omega];exact s⟩;refine(kz (p:=16)).1 (hx.2.eqv.symm.trans (s2.eqv.trans ?_));rw[og];exact eU.refl _
 obtain⟨n,rfl,s⟩:=hn;have s':Same g (nf 16 (65536*n-65536)):=by rw[show 65536*n-65536=65536*(n-1) by omega,og];exact s
 constructor
 .intro v
  exact⟨kz.1 (v.2.eqv.symm.trans s'.eqv),v.1⟩
 .rintro⟨rfl,h⟩;exact⟨h,s'⟩
theorem QU:∀n (q:Nat) (m:Int),sizeOf (nf q m)<=n->¬Ge x (nf q m)->¬Ge (nf q m) y->
 ∃q m,¬Ge x (nf q m)/\¬Ge (nf q m) y/\(∀z,z∈(nf q m).l->Ge x z)/\∀z,z∈(nf q m).r->Ge z y:=by
 intro n
 induction n with
 |zero=>intro q m h;generalize nf q m=z at h;cases z;simp at h
 |succ n ih=>
  intro q m h h1 h2;by_cases e:∀z,z∈(nf q m).l->Ge x z
  .by_cases f:∀z,z∈(nf q m).r->Ge z y
   .exact⟨q,m,h1,h2,e,f⟩
   .obtain⟨z,hz⟩:=Classical.not_forall.1 f
    obtain⟨hz,g⟩:=Classical.not_imp.1 hz;have lt:=Gm.jb hz;obtain⟨j,hj,rfl⟩:=Ac hz;exact ih q j (by omega) (λk=>h1 (bZ _ _ _ k ((kI q j m).2 (by omega)))) g
  .obtain⟨z,hz⟩:=Classical.not_forall.1 e
   obtain⟨hz,g⟩:=Classical.not_imp.1 hz;have lt:=Gm.jc hz;obtain⟨j,hj,rfl⟩:=Ad hz;exact ih q j (by omega) g (λk=>h2 (bZ _ _ _ ((kI q m j).2 (by omega)) k))
theorem M6:∀(q:Nat) (m:Int),(∃n,nf q m=nf 0 n)\/∃q' m',m' % 2≠0/\nf q m=nf (q'+1) m'
 | 0,m=>.inl ⟨m,rfl⟩
 |q+1,m=>by
  by_cases e:m % 2=0
  .rw[nf,if_pos e];exact M6 q _
  .exact .inr ⟨q,m,e,rfl⟩
theorem BB{p q:Nat}{m:Int}(h:eU (nf p k) (nf q m)):k*2 ^ q=m*2 ^ p:=by
 rw[<-rY p q k,<-rY q p m,Nat.add_comm q p]at h;have:=kz.1 h;rw[nI k,nI m];exact this
def Mid(a b:Int):Prop:=(∃q m,1<=q/\q<=16/\m % 2≠0/\a=(m-1)*2 ^ (16-q)/\b=(m+1)*2 ^ (16-q))\/b=a+1
theorem QG{b:Int}(hg:Canon g)(hl:g.l=[x])(hr:g.r=[y])(hx:Val x a)(hy:Val y b):
 (a<b->Mid a b)/\∀k,Val g k↔a<b/\2*k=a+b/\gd k:=by
 have mx:x∈g.l:=by rw[hl];simp
 have my:y∈g.r:=by rw[hr];simp
 have key:a<b->∃q m,m % 2≠0/\Same g (nf (q+1) m)/\(m-1)*2 ^ 16=a*2 ^ (q+1)/\(m+1)*2 ^ 16=b*2 ^ (q+1):=by
  intro hab;have l17:∀j,nf 17 (2*j)=nf 16 j:=λj=>eO 16 j
  obtain⟨q,m,h1,h2,h3,h4⟩:=QU (x:=x) (y:=y) _ 17 (a+b) (ax _) (by rw[hx.2.eqv.nz,<-l17,kI];omega) (by rw[hy.2.eqv.lM,<-l17,kI];omega);have e:eU g (nf q m):=by
   constructor
   .rw[dY]
    refine⟨λr h k=>?_,λl h k=>?_⟩
    .rw[hr,dB]at h;rw[h]at k;exact h2 k
    .exact ku mx (bZ _ _ _ (h3 l h) k)
   .rw[dY]
    refine⟨λr h k=>?_,λl h k=>?_⟩
    .exact lG my (bZ _ _ _ k (h4 r h))
    .rw[hl,dB]at h;rw[h]at k;exact h1 k
  have s:=iA hg (oh _ _) e;rcases M6 q m with⟨n,en⟩|⟨q',m',hm,en⟩
  .rw[en]at s
   obtain⟨u,hu,_⟩:=((same_iff _ _).1 s).1 x mx;obtain⟨v,hv,_⟩:=((same_iff _ _).1 s).2.2.1 y my;have:=(E9 hu).1;have:=(E8 hv).1;omega
  .rw[en]at s
   refine⟨q',m',hm,s,?_,?_⟩
   .obtain⟨u,hu,su⟩:=((same_iff _ _).1 s).1 x mx
    rw[lH hm]at hu;simp only[Gm.l,dB]at hu;subst hu;exact BB (su.eqv.symm.trans hx.2.eqv)
   .obtain⟨u,hu,su⟩:=((same_iff _ _).1 s).2.2.1 y my
    rw[lH hm]at hu;simp only[Gm.r,dB]at hu;subst hu;exact BB (su.eqv.symm.trans hy.2.eqv)
 have two:∀n:Nat,(0:Int)<2 ^ n:=λn=>Int.pow_pos (by omega)
 have small:∀{q:Nat} {m:Int},a<b->(m-1)*2 ^ 16=a*2 ^ (q+1)->(m+1)*2 ^ 16=b*2 ^ (q+1)->q<=16/\(b-a)*2 ^ q=2 ^ 16:=by
  intro q m hab h1 h2;have h3:(b-a)*2 ^ q=2 ^ 16:=by
   have e1:b*2 ^ (q+1)=b*2 ^ q*2:=(by rw[Int.pow_succ,ja]);have e2:a*2 ^ (q+1)=a*2 ^ q*2:=(by rw[Int.pow_succ,ja]);have e3:(b-a)*2 ^ q=b*2 ^ q-a*2 ^ q:=Int.sub_mul _ _ _;omega
  refine⟨kF λhq=>?_,h3⟩;obtain⟨d,rfl⟩:∃d,q=17+d:=⟨q-17,by omega⟩;rw[rP]at h3;have h4:=two d;have h5:(1:Int)*1<=(b-a)*2 ^ d:=Int.mul_le_mul (by omega) (by omega) (by omega) (by omega);have h6:(b-a)*(2 ^ 17*2 ^ d)=(b-a)*2 ^ d*2 ^ 17:=by rw[nI (2 ^ 17),ja]
  omega
 refine⟨λhab=>?_,λk=>⟨λv=>?_,λ⟨hab,hk,gk⟩=>⟨gk,?_⟩⟩⟩
 .obtain⟨q,m,hm,_,h1,h2⟩:=key hab
  obtain⟨hq,h3⟩:=small hab h1 h2;by_cases e:q=16
  .subst e;right;omega
  .refine .inl ⟨q+1,m,by omega,by omega,hm,?_,?_⟩
   .have h4:a*2 ^ (q+1)=(m-1)*2 ^ (16-(q+1))*2 ^ (q+1):=by
     rw[ja,<-rP,show 16-(q+1)+(q+1)=16 by omega,h1]
    exact Int.eq_of_mul_eq_mul_right (Int.ne_of_gt (two (q+1))) h4
   .have h4:b*2 ^ (q+1)=(m+1)*2 ^ (16-(q+1))*2 ^ (q+1):=by
     rw[ja,<-rP,show 16-(q+1)+(q+1)=16 by omega,h2]
    exact Int.eq_of_mul_eq_mul_right (Int.ne_of_gt (two (q+1))) h4
 .obtain⟨i,hi,vi⟩:=Yr v mx
  obtain⟨j,hj,vj⟩:=Yq v my;have:=MC vi hx;have:=MC vj hy;subst i;subst j;have hab:a<b:=by omega
  refine⟨hab,?_,v.1⟩;obtain⟨q,m,hm,s,h1,h2⟩:=key hab;have h4:=BB (v.2.eqv.symm.trans s.eqv);have h5:(2*k)*2 ^ (q+1)=(a+b)*2 ^ (q+1):=by
   rw[ja,h4,Int.add_mul,<-h1,<-h2,<-Int.add_mul];omega
  exact Int.eq_of_mul_eq_mul_right (Int.ne_of_gt (two (q+1))) h5
 .obtain⟨q,m,hm,s,h1,h2⟩:=key hab
  obtain⟨hq,h3⟩:=small hab h1 h2;refine fE s (iA (oh _ _) (oh _ _) ?_);rw[<-rY (q+1) 16 m,<-rY 16 (q+1) k,Nat.add_comm 16 (q+1),kz];have h5:(2:Int)*(2 ^ (q+1)*k)=2*(2 ^ 16*m):=by
   have e1:(2:Int)*(2 ^ (q+1)*k)=(2*k)*2 ^ (q+1):=(by rw[<-ja,nI 2 (2 ^ (q+1)),ja,nI]);rw[e1,hk,Int.add_mul,<-h1,<-h2];omega
  omega
end Go.Proofs.YtplgooajigigkaaGreatDoor.aZ
namespace Go.Proofs.YtplgooajigigkaaGreatDoor.aZ
variable {c d k:Int} {n v:Nat} {u:Nat->Nat}
def Wt(c k:Int):Prop:=∃(p:Nat) (m:Int),p<=16/\k=m*2 ^ (16-p)/\(p:Int)*65536+k<=c*65536/\(p:Int)*65536-k<=c*65536
theorem Mw:Wt 0 0:=⟨0,0,by omega,by simp,by simp,by simp⟩
theorem Gl(h:Wt c k)(hd:c<=d):Wt d k:=by
 obtain⟨p,m,h1,h2,h3,h4⟩:=h;exact⟨p,m,h1,h2,by omega,by omega⟩
theorem yT{p q:Nat}(h:p<=q)(hq:q<=16):(2:Int) ^ (16-p)=2 ^ (q-p)*2 ^ (16-q):=by
 rw[<-rP];congr 1;omega
theorem Qv{j:Int}(h:Wt c k)(g:Wt d j):Wt (c+d) (k+j):=by
 obtain⟨p,m,h1,h2,h3,h4⟩:=h;obtain⟨q,n,g1,g2,g3,g4⟩:=g;rcases Nat.le_total p q with hpq|hpq
 .refine⟨q,m*2 ^ (q-p)+n,g1,?_,by omega,by omega⟩
  rw[h2,g2,yT hpq g1,Int.add_mul,ja]
 .refine⟨p,m+n*2 ^ (p-q),h1,?_,by omega,by omega⟩
  rw[h2,g2,yT hpq h1,Int.add_mul,ja]
theorem ED(h:Wt c k):Wt c (-k):=by
 obtain⟨p,m,h1,h2,h3,h4⟩:=h;exact⟨p,-m,h1,by rw[h2,Int.neg_mul],by omega,by omega⟩
def vv(k:Int):Nat:=if 0<k then 0 else((-k) / 65536).toNat+1
def oQ(k:Int):Int:=(k+((vv k:Int)+1)*65536) / 2 ^ vv k
theorem uB(n:Nat):(0:Int)<2 ^ n:=Int.pow_pos (by omega)
theorem DU(h:Wt c k)(hc:c<=15):OnK k (oQ k)/\Wt (c+1) (oQ k):=by
 obtain⟨p,m,h1,h2,h3,h4⟩:=h;by_cases h0:0<k
 .have e:vv k=0:=by unfold vv;rw[if_pos h0]
  have e2:oQ k=k+65536:=by unfold oQ;rw[e];simp
  rw[e2];refine⟨⟨0,by omega,.inl rfl,by simp⟩,p,m+2 ^ p,h1,?_,by omega,by omega⟩;rw[Int.add_mul,<-rP,show p+(16-p)=16 by omega,h2];rfl
 .obtain⟨a,ha⟩:∃a:Nat,a=((-k) / 65536).toNat:=⟨_,rfl⟩
  have e:vv k=a+1:=by unfold vv;rw[if_neg h0,ha]
  have a1:(a:Int)*65536<=-k/\-k<((a:Int)+1)*65536:=by omega
  have hpa:=uB (a+1);by_cases hx:-k=(a:Int)*65536
  .have ha16:a<=16:=by omega
   have eY:k+(((a+1:Nat):Int)+1)*65536=2 ^ (a+1)*2 ^ (16-a):=by
    rw[<-rP,show a+1+(16-a)=17 by omega,show(2:Int) ^ 17=131072 by decide];omega
   have e2:oQ k=2 ^ (16-a):=(by unfold oQ;rw[e,eY,Int.mul_ediv_cancel_left _ (by omega)]);have hb:(2:Int) ^ (16-a)<=65536:=by
    have:=yT (p:=0) (q:=a) (by omega) ha16;have h3:=uB (16-a);have h4:=uB (a-0);rw[show(2:Int) ^ (16-0)=65536 by decide]at this;rw[this];have:=Int.mul_le_mul_of_nonneg_right (show(1:Int)<=2 ^ (a-0) by omega) (Int.le_of_lt h3);omega
   have hb0:=uB (16-a);rw[e2];exact⟨⟨a+1,by omega,.inr (by omega),by rw[<-eY]⟩,a,1,ha16,by omega,by omega,by omega⟩
  .have hp1:p≠0:=by
    rintro rfl;rw[show(2:Int) ^ (16-0)=65536 by decide]at h2;omega
   have hpc:(p:Int)+a+1<=c:=(by omega);have agh:p+(a+1)<=16:=(by omega);have eY:k+(((a+1:Nat):Int)+1)*65536=2 ^ (a+1)*((m+(((a+1:Nat):Int)+1)*2 ^ p)*2 ^ (16-(p+(a+1)))):=by
    rw[h2];have q1:(2:Int) ^ (16-p)=2 ^ (a+1)*2 ^ (16-(p+(a+1))):=(by rw[<-rP];congr 1;omega);have q2:(65536:Int)=2 ^ p*(2 ^ (a+1)*2 ^ (16-(p+(a+1)))):=(by rw[<-q1,<-rP,show p+(16-p)=16 by omega];rfl);rw[q2,q1];generalize (2:Int) ^ (a+1)=A;generalize (2:Int) ^ (16-(p+(a+1)))=B;generalize (2:Int) ^ p=C;generalize ((a+1:Nat):Int)+1=D;rw[Int.add_mul,Int.mul_add];simp only[nI,Int.mul_left_comm]
   have e2:oQ k=(m+(((a+1:Nat):Int)+1)*2 ^ p)*2 ^ (16-(p+(a+1))):=(by unfold oQ;rw[e,eY,Int.mul_ediv_cancel_left _ (by omega)]);rw[<-e2]at eY;have hle:2*oQ k<=131072/\0<=oQ k:=by
    have h2a:(2:Int)<=2 ^ (a+1):=(by rw[Int.pow_succ];have:=uB a;omega);have hn:0<=oQ k:=by
     rcases Int.lt_or_le (oQ k) 0 with hlt|hge
     .have:=Int.mul_neg_of_pos_of_neg hpa hlt
      omega
     .exact hge
    refine⟨?_,hn⟩;have:=Int.mul_le_mul_of_nonneg_right h2a hn;omega
   exact⟨⟨a+1,by omega,.inr (by omega),eY⟩,p+(a+1),m+(((a+1:Nat):Int)+1)*2 ^ p,agh,e2,by rw[Int.natCast_add];omega,by rw[Int.natCast_add];omega⟩
def Ul(b:Bool)(k:Int):Int:=if b then oQ k else -oQ (-k)
theorem NG{b:Bool}(h:Wt c k)(hc:c<=15):BrK b k (Ul b k)/\Wt (c+1) (Ul b k):=by
 cases b
 .have:=DU (ED h) hc
  refine⟨?_,ED this.2⟩;show OnK (-k) (- -oQ (-k));rw[Int.neg_neg];exact this.1
 .exact DU h hc
theorem jZ(h:Wt c k)(hc:c<=8):-524288<=k/\k<=524288/\gd k:=by
 obtain⟨p,m,h1,h2,h3,h4⟩:=h;have:=qd 16 k;exact⟨by omega,by omega,by omega,by omega⟩
def nC(n:Nat)(u:Nat->Nat)(g:Nat->Int->Int):Nat->Nat->Int
 | 0,_=>0
 |k+1,v=>nC n u g k v+if u (n-1-k)=v then g (n-1-k) (nC n u g k (n-1-k+1))else 0
def eg(n:Nat)(u:Nat->Nat)(g:Nat->Int->Int)(i:Nat):Int:=g i (nC n u g (n-1-i) (i+1))
def kid(n:Nat)(u:Nat->Nat)(k v:Nat):List Nat:=(List.range' (n-k) k).filter λi=>u i == v
theorem EK{n:Nat}{u:Nat->Nat}{g:Nat->Int->Int}:∀k v,k<=n->nC n u g k v=((kid n u k v).map (eg n u g)).sum
 | 0,v,_=>by simp[nC,kid]
 |k+1,v,h=>by
  have e:List.range' (n-(k+1)) (k+1)=(n-1-k):: List.range' (n-k) k:=by
   rw[List.range'_succ,show n-(k+1)=n-1-k by omega,show n-1-k+1=n-k by omega]
  rw[nC,EK k v (by omega),kid,kid,e,List.filter_cons];by_cases hv:u (n-1-k)=v
  .rw[if_pos hv,if_pos (by simp[hv]),eF,kR,eg,show n-1-(n-1-k)=k by omega];omega
  .rw[if_neg hv,if_neg (by simp[hv])];omega
theorem WK(hu:∀i,u i<=i){k:Nat}(h:n<=v+k)(hk:k<=n):kid n u k v=kids n u (λ_=>true) v:=by
 have e:List.range n=List.range' 0 (n-k)++List.range' (n-k) k:=by
  have:=List.range'_append_1 (s:=0) (m:=n-k) (n:=k);rw[gQ,show n-k+k=n by omega]at this;rw[List.range_eq_range',this]
 have z:(List.range' 0 (n-k)).filter (λi=>true && u i == v)=[]:=List.filter_eq_nil_iff.2 λi hi=>by
  have:=hu i;have hi:=(List.mem_range'_1.1 hi).2;simp;omega
 unfold kid kids;rw[e,jF,z,gX];simp
theorem QR{n:Nat}{u:Nat->Nat}(hu:∀i,u i<=i):∀k,k<=n->(((List.range (n-k+1)).map λv=>nC n u (λ_ x=>1+x) k v).sum=k)
 | 0,_=>by
  have:∀L:List Nat,(L.map λv=>nC n u (λ_ x=>1+x) 0 v).sum=0:=λL=>by induction L with
   |nil=>rfl
   |cons a L ih=>rw[eF,kR,ih];rfl
  exact this _
 |k+1,h=>by
  have ih:=QR (n:=n) hu k (by omega);rw[show n-k+1=(n-(k+1)+1)+1 by omega,nA,bz,List.sum_append]at ih;have one:∀L:List Nat,L.Nodup->u (n-1-k)∈L->(L.map λv=>nC n u (λ_ x=>1+x) (k+1) v).sum=(L.map λv=>nC n u (λ_ x=>1+x) k v).sum+(1+nC n u (λ_ x=>1+x) k (n-1-k+1)):=λL=>by
   induction L with
   |nil=>intro _ q;cases q
   |cons a L ih2=>
    intro nd hm;rw[eF,eF,kR,kR];have nd:=List.nodup_cons.1 nd;rcases dZ.1 hm with e|hm
    .have no:∀v,v∈L->nC n u (λ_ x=>1+x) (k+1) v=nC n u (λ_ x=>1+x) k v:=λv hv=>by
      rw[nC,if_neg (λq=>nd.1 (by rw[<-e,q];exact hv))];omega
     rw[show(L.map λv=>nC n u (λ_ x=>1+x) (k+1) v)=L.map λv=>nC n u (λ_ x=>1+x) k v from bE no,nC,if_pos e];omega
    .rw[ih2 nd.2 hm,nC,if_neg (λq=>nd.1 (by rw[<-q];exact hm))];omega
  rw[one _ List.nodup_range (dJ.2 (show u (n-1-k)<n-(k+1)+1 by have:=hu (n-1-k);omega)),show n-1-k+1=n-(k+1)+1 by omega];simp only[eF,List.map_nil,kR,List.sum_nil]at ih;omega
theorem EL{n:Nat}{u:Nat->Nat}:∀k v,0<=nC n u (λ_ x=>1+x) k v
 | 0,_=>by simp[nC]
 |k+1,v=>by
  have h1:=EL (n:=n) (u:=u) k v;have h2:=EL (n:=n) (u:=u) k (n-1-k+1);rw[nC];split <;> omega
theorem A7{α:Type}{f:α->Int}(h:∀x,0<=f x):∀{L:List α} {x:α},x∈L->f x<=(L.map f).sum
 |[],_,hx=>by cases hx
 |a :: L,x,hx=>by
  have hn:∀L:List α,0<=(L.map f).sum:=λL=>by
   induction L with
   |nil=>simp
   |cons b L ih=>rw[eF,kR];have:=h b;omega
  rw[eF,kR];rcases dZ.1 hx with rfl|hx
  .have:=hn L;omega
  .have:=A7 h hx;have:=h a;omega
theorem rQ(hu:∀i,u i<=i){k:Nat}(h:k<=n)(hv:v<=n-k):nC n u (λ_ x=>1+x) k v<=k:=by
 rw[<-QR hu k h];exact A7 (f:=λv=>nC n u (λ_ x=>1+x) k v) (EL k) (dJ.2 (by omega))
def gB(sg:Nat->Bool)(i:Nat)(x:Int):Int:=Ul (sg i) x
theorem pQ{n:Nat}{u:Nat->Nat}(hu:∀i,u i<=i)(sg:Nat->Bool)(hn:n<=8):∀k,k<=n->∀v,v<=n-k->Wt (nC n u (λ_ x=>1+x) k v) (nC n u (gB sg) k v)
 | 0,_,_,_=>Mw
 |k+1,h,v,hv=>by
  have ih:=pQ (n:=n) hu sg hn k (by omega);have h1:=ih v (by omega);rw[nC,nC];split
  .have h2:=ih (n-1-k+1) (by omega)
   have h3:=rQ hu (n:=n) (k:=k) (v:=n-1-k+1) (by omega) (by omega);have h4:=(NG (b:=sg (n-1-k)) h2 (by omega)).2;exact Qv h1 (Gl h4 (by omega))
  .rw[Int.add_zero,Int.add_zero];exact h1
end Go.Proofs.YtplgooajigigkaaGreatDoor.aZ
namespace Go.Proofs.YtplgooajigigkaaGreatDoor.aZ
variable {n v:Nat} {u:Nat->Nat}
theorem TL(hu:∀i,u i<=i)(sg:Nat->Bool)(hn:n<=8){i:Nat}(hi:i<n):BrK (sg i) (nC n u (gB sg) (n-1-i) (i+1)) (eg n u (gB sg) i)/\Wt (eg n u (λ_ x=>1+x) i) (eg n u (gB sg) i):=by
 have h:=pQ hu sg hn (n-1-i) (by omega) (i+1) (by omega);have h2:=rQ hu (n:=n) (k:=n-1-i) (v:=i+1) (by omega) (by omega);have h3:=NG (b:=sg i) h (by omega);refine⟨h3.1,?_⟩;have:=h3.2;rw[show nC n u (λ_ x=>1+x) (n-1-i) (i+1)+1=eg n u (λ_ x=>1+x) i from Int.add_comm _ _]at this;exact this
theorem adR(i:Nat):0<=eg n u (λ_ x=>1+x) i:=by
 have:=EL (n:=n) (u:=u) (n-1-i) (i+1);show 0<=1+nC n u (λ_ x=>1+x) (n-1-i) (i+1);omega
theorem QQ{α:Type}{f:α->Int}(h:∀x,0<=f x):∀L:List α,0<=(L.map f).sum
 |[]=>by simp
 |a :: L=>by rw[eF,kR];have:=h a;have:=QQ h L;omega
theorem A8(hu:∀i,u i<=i)(g:Nat->Int->Int)(hv:v<=n):nC n u g (n-v) v=((kids n u (λ_=>true) v).map (eg n u g)).sum:=by
 rw[EK _ _ (by omega),WK hu (by omega) (by omega)]
theorem Wp(hu:∀i,u i<=i)(sg:Nat->Bool)(hn:n<=8)(hv:v<=n){A B:List Nat}(h:kids n u (λ_=>true) v=A++B):Wt 8 ((A.map (eg n u (gB sg))).sum):=by
 have key:∀A:List Nat,(∀i,i∈A->i<n)->Wt ((A.map (eg n u (λ_ x=>1+x))).sum) ((A.map (eg n u (gB sg))).sum):=λA=>by
  induction A with
  |nil=>intro _;exact Mw
  |cons a A ih=>
   intro h;rw[eF,eF,kR,kR];exact Qv (TL hu sg hn (h a (by simp))).2 (ih λi hi=>h i (by simp[hi]))
 have hA:=key A λi hi=>(jO.1 (show i∈kids n u (λ_=>true) v by rw[h];simp[hi])).1
 refine Gl hA ?_;have h1:=A8 hu (λ_ x=>1+x) hv;have h2:=rQ hu (n:=n) (k:=n-v) (v:=v) (by omega) (by omega);rw[h,bz,List.sum_append]at h1;have h3:=QQ (adR (n:=n) (u:=u)) B;omega
theorem aaM(hu:∀i,u i<=i)(sg:Nat->Bool)(hn:n<=8):∀m v,n=v+m->eU (fo n u sg (λ_=>true) v) (nf 16 (nC n u (gB sg) (n-v) v)):=by
 intro m
 induction m using Nat.strongRecOn with
 |ind m ih=>
  intro v hv;rw[A8 hu _ (by omega)];refine aaL hu λi hi=>?_
  obtain⟨i1,-,i3⟩:=jO.1 hi;have:=hu i;refine br_16 (ih (n-(i+1)) (by omega) (i+1) (by omega)) ?_;rw[show n-(i+1)=n-1-i by omega];exact(TL hu sg hn i1).1
def Bj:List Bool->Int
 |[]=>0
 |b :: r=>Ul b (Bj r)
theorem Ho{l:List Bool}{u:Nat->Nat}{sg:Nat->Bool}(hu:∀i,i<l.length->u i=i)(hs:∀i,(h:i<l.length)->sg i=l[i]):∀m v,l.length=v+m->nC l.length u (gB sg) m v=Bj (l.drop v)
 | 0,v,h=>by rw[l6 (by omega)];rfl
 |m+1,v,h=>by
  have e:l.length-1-m=v:=by omega
  have ih:=Ho hu hs m (v+1) (by omega);rw[nC,e,hu v (by omega),if_pos rfl,ih,fQ (i:=v) (by omega),Bj,gB,hs v (by omega)];have z:nC l.length u (gB sg) m v=0:=by
   rw[EK _ _ (by omega)];have:kid l.length u m v=[]:=List.filter_eq_nil_iff.2 λi hi=>by
    have hi:=List.mem_range'_1.1 hi;rw[hu i (by omega)];simp;omega
   rw[this];rfl
  rw[z,Int.zero_add]
def mY(c:Bool):List Bool->Int->Int->Bool->Int
 |[],x,_,_=>x
 |b :: r,x,d,f=>
  let f:=f && b == c
  let d:=if f then d else d / 2
  mY c r (if b then x+d else x-d) d f
def jK(l:List Bool):Int:=mY (l.headD true) l 0 65536 true
def chk:Nat->List Bool->Bool
 | 0,l=>jK l == Bj l
 |n+1,l=>jK l == Bj l && chk n (true :: l) && chk n (false :: l)
theorem aaY:∀n l,chk n l=true->∀m:List Bool,m.length<=n->jK (m++l)=Bj (m++l):=by
 intro n
 induction n with
 |zero=>
  intro l h m hm;have:m=[]:=List.length_eq_zero_iff.1 (by omega);subst this
  simpa [chk]using h
 |succ n ih=>
  intro l h m hm;rw[chk,dS,dS]at h;rcases List.eq_nil_or_concat m with rfl|⟨q,b,rfl⟩
  .simpa using h.1.1
  .rw[List.concat_eq_append]at hm ⊢
   rw[aK]at hm;simp only[dh,List.cons_append,gX];cases b
   .exact ih _ h.2 q (by simpa using hm)
   .exact ih _ h.1.2 q (by simpa using hm)
set_option maxRecDepth 100000 in
theorem J4{l:List Bool}(h:l.length<=8):jK l=Bj l:=by
 have:=aaY 8 [] (by decide +kernel) l h
 simpa using this
end Go.Proofs.YtplgooajigigkaaGreatDoor.aZ