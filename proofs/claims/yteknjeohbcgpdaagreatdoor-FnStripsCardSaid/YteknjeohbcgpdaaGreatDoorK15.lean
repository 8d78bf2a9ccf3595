/-
  Plain law, no program in sight: strips of four kinds, their moves, their games, and the sum of their parts; no condition.
-/
import Derived.Test.YteknjeohbcgpdaaGreatDoorK4
namespace Go.Proofs.YteknjeohbcgpdaaGreatDoor.bz
variable {k i:Nat} {left:Bool} {c a:UInt8} {b x:Gm}
theorem ja(a b c:Gm):Same (plus (plus a b) c) (plus a (plus b c)):=by
 rw[same_iff];refine⟨λx hx=>?_,λy hy=>?_,λx hx=>?_,λy hy=>?_⟩
 .rcases iw.1 hx with⟨u,hu,rfl⟩|⟨z,hz,rfl⟩
  .rcases iw.1 hu with⟨z,hz,rfl⟩|⟨z,hz,rfl⟩
   .exact⟨_,iw.2 (.inl ⟨z,hz,rfl⟩),ja _ _ _⟩
   .exact⟨_,iw.2 (.inr ⟨_,iw.2 (.inl ⟨z,hz,rfl⟩),rfl⟩),ja _ _ _⟩
  .exact⟨_,iw.2 (.inr ⟨_,iw.2 (.inr ⟨z,hz,rfl⟩),rfl⟩),ja _ _ _⟩
 .rcases iw.1 hy with⟨z,hz,rfl⟩|⟨u,hu,rfl⟩
  .exact⟨_,iw.2 (.inl ⟨_,iw.2 (.inl ⟨z,hz,rfl⟩),rfl⟩),ja _ _ _⟩
  .rcases iw.1 hu with⟨z,hz,rfl⟩|⟨z,hz,rfl⟩
   .exact⟨_,iw.2 (.inl ⟨_,iw.2 (.inr ⟨z,hz,rfl⟩),rfl⟩),ja _ _ _⟩
   .exact⟨_,iw.2 (.inr ⟨z,hz,rfl⟩),ja _ _ _⟩
 .rcases iq.1 hx with⟨u,hu,rfl⟩|⟨z,hz,rfl⟩
  .rcases iq.1 hu with⟨z,hz,rfl⟩|⟨z,hz,rfl⟩
   .exact⟨_,iq.2 (.inl ⟨z,hz,rfl⟩),ja _ _ _⟩
   .exact⟨_,iq.2 (.inr ⟨_,iq.2 (.inl ⟨z,hz,rfl⟩),rfl⟩),ja _ _ _⟩
  .exact⟨_,iq.2 (.inr ⟨_,iq.2 (.inr ⟨z,hz,rfl⟩),rfl⟩),ja _ _ _⟩
 .rcases iq.1 hy with⟨z,hz,rfl⟩|⟨u,hu,rfl⟩
  .exact⟨_,iq.2 (.inl ⟨_,iq.2 (.inl ⟨z,hz,rfl⟩),rfl⟩),ja _ _ _⟩
  .rcases iq.1 hu with⟨z,hz,rfl⟩|⟨z,hz,rfl⟩
   .exact⟨_,iq.2 (.inl ⟨_,iq.2 (.inr ⟨z,hz,rfl⟩),rfl⟩),ja _ _ _⟩
   .exact⟨_,iq.2 (.inr ⟨z,hz,rfl⟩),ja _ _ _⟩
termination_by sizeOf a+sizeOf b+sizeOf c
decreasing_by
 all_goals first
  |(have:=Gm.kM hz;omega)
  |(have:=Gm.kL hz;omega)
abbrev Stp:=List UInt8
def pk(s:Stp)(j:Int):Option UInt8:=if 0<=j then s[j.toNat]? else none
def st2(s:Stp)(i:Nat)(a:UInt8)(j:Int)(b:UInt8):Stp:=(s.set i a).set j.toNat b
def wJ(left:Bool):UInt8:=if left then 84 else 70
def OT(left:Bool):UInt8:=if left then 70 else 84
def o5(left:Bool):UInt8:=if left then 76 else 82
def J8(left:Bool):UInt8:=if left then 82 else 76
def xH(left:Bool):Int:=if left then 1 else -1
def gP(left:Bool)(s:Stp)(i:Nat):List Stp:=
 if s[i]?=some (wJ left)then
  if pk s ((i:Int)+xH left)=some 46 then [st2 s i 46 ((i:Int)+xH left) (wJ left)]
  else if pk s ((i:Int)+xH left)=some (OT left)/\pk s ((i:Int)+2*xH left)=some 46 then [st2 s i 46 ((i:Int)+2*xH left) (wJ left)]else []
 else []
def fQ(left:Bool)(s:Stp)(i:Nat)(j:Int):List Stp:=if s[i]?=some (o5 left)/\pk s j=some (J8 left)then [st2 s i 46 j (o5 left)]else []
def tJ(left:Bool)(s:Stp)(i:Nat):List Stp:=fQ left s i ((i:Int)-1)++fQ left s i ((i:Int)+1)
def lN(me bar:UInt8)(s:Stp)(i:Nat):List Stp:=if s[i]?=some 46/\pk s ((i:Int)-1)≠some bar/\pk s ((i:Int)+1)≠some bar then [s.set i me]else []
def rU(k:Nat)(left:Bool):UInt8:=if k=2 then o5 left else J8 left
def jH(k:Nat)(left:Bool)(s:Stp)(i:Nat):List Stp:=
 if k=0 then gP left s i else if k=1 then tJ left s i else lN (o5 left) (rU k left) s i
def jN(k:Nat)(left:Bool)(s:Stp):List Stp:=(List.range s.length).flatMap (jH k left s)
theorem F7{s t:Stp}:t∈jN k left s↔∃i,i<s.length/\t∈jH k left s i:=by
 simp only[jN,lH,dA]
theorem Cv(s:Stp)(j:Nat):pk s (j:Int)=s[j]?:=by simp[pk]
theorem jA{s:Stp}{j:Int}:pk s j=some c↔∃n:Nat,j=n/\s[n]?=some c:=by
 unfold pk;constructor
 .intro h
  split at h
  .exact⟨j.toNat,by omega,h⟩
  .cases h
 .rintro⟨n,rfl,h⟩
  simpa using h
theorem fU{s:Stp}(h:s[i]?=some c):i<s.length:=by
 rw[dI]at h;exact h.1
theorem CG{s t:Stp}:t∈jN 0 left s↔∃i j:Nat,s[i]?=some (wJ left)/\s[j]?=some 46/\t=(s.set i 46).set j (wJ left)/\
 ((j:Int)=i+xH left\/((j:Int)=i+2*xH left/\pk s (i+xH left)=some (OT left))):=by
 rw[F7];simp only[jH,if_pos,gP];constructor
 .rintro⟨i,hi,h⟩
  split at h
  .rename_i h1
   split at h
   .rename_i h2
    obtain⟨n,e,h3⟩:=jA.1 h2;rw[eH]at h;exact⟨i,n,h1,h3,by rw[h,e];simp[st2],.inl e.symm⟩
   .split at h
    .rename_i h2
     obtain⟨n,e,h3⟩:=jA.1 h2.2;rw[eH]at h;exact⟨i,n,h1,h3,by rw[h,e];simp[st2],.inr ⟨e.symm,h2.1⟩⟩
    .cases h
  .cases h
 .rintro⟨i,j,h1,h2,rfl,h3⟩
  refine⟨i,fU h1,?_⟩;rw[if_pos h1];rcases h3 with h3|⟨h3,h4⟩
  .rw[<-h3,if_pos (by rw[Cv];exact h2)];simp[st2]
  .have hne:OT left≠46:=by cases left <;> decide
   rw[if_neg (by rw[h4];simpa using hne),if_pos ⟨h4,by rw[<-h3,Cv];exact h2⟩,<-h3];simp[st2]
theorem mD{s t:Stp}:t∈jN 1 left s↔∃i j:Nat,s[i]?=some (o5 left)/\s[j]?=some (J8 left)/\t=(s.set i 46).set j (o5 left)/\(j+1=i\/j=i+1):=by
 rw[F7];have e:∀i,jH 1 left s i=tJ left s i:=λi=>by simp[jH]
 have m:∀i (j:Int),t∈fQ left s i j↔s[i]?=some (o5 left)/\∃n:Nat,j=n/\s[n]?=some (J8 left)/\t=(s.set i 46).set n (o5 left):=λi j=>by
  unfold fQ;constructor
  .intro h
   split at h
   .rename_i h1
    obtain⟨n,e,h3⟩:=jA.1 h1.2;rw[eH]at h;exact⟨h1.1,n,e,h3,by rw[h,e];simp[st2]⟩
   .cases h
  .rintro⟨h1,n,rfl,h3,rfl⟩
   rw[if_pos ⟨h1,by rw[Cv];exact h3⟩];simp[st2]
 simp only[e,tJ,aK,m];constructor
 .rintro⟨i,hi,⟨h1,n,h2,h3,h4⟩|⟨h1,n,h2,h3,h4⟩⟩
  .exact⟨i,n,h1,h3,h4,.inl (by omega)⟩
  .exact⟨i,n,h1,h3,h4,.inr (by omega)⟩
 .rintro⟨i,j,h1,h2,h3,h4|h4⟩
  .exact⟨i,fU h1,.inl ⟨h1,j,by omega,h2,h3⟩⟩
  .exact⟨i,fU h1,.inr ⟨h1,j,by omega,h2,h3⟩⟩
theorem kr(hk:2<=k){s t:Stp}:t∈jN k left s↔∃i:Nat,s[i]?=some 46/\t=s.set i (o5 left)/\∀j:Nat,j+1=i\/j=i+1->s[j]?≠some (rU k left):=by
 rw[F7];have e:∀i,jH k left s i=lN (o5 left) (rU k left) s i:=λi=>by unfold jH;rw[if_neg (by omega),if_neg (by omega)]
 simp only[e,lN];constructor
 .rintro⟨i,hi,h⟩
  split at h
  .rename_i h1
   obtain⟨h1,h2,h3⟩:=h1;rw[eH]at h;refine⟨i,h1,h,λj hj hc=>?_⟩;rcases hj with hj|hj
   .exact h2 (jA.2 ⟨j,by omega,hc⟩)
   .exact h3 (jA.2 ⟨j,by omega,hc⟩)
  .cases h
 .rintro⟨i,h1,rfl,h2⟩
  refine⟨i,fU h1,?_⟩;have a1:pk s ((i:Int)-1)≠some (rU k left):=λh=>by
   obtain⟨n,e,h3⟩:=jA.1 h;exact h2 n (.inl (by omega)) h3
  have a2:pk s ((i:Int)+1)≠some (rU k left):=λh=>by
   obtain⟨n,e,h3⟩:=jA.1 h;exact h2 n (.inr (by omega)) h3
  rw[if_pos ⟨h1,a1,a2⟩];exact eH.2 rfl
def sm(f:Nat->UInt8->Nat):Nat->Stp->Nat
 |_,[]=>0
 |j,c :: s=>f j c+sm f (j+1) s
theorem Cb(f:Nat->UInt8->Nat):∀(s:Stp) (j i:Nat) (a c:UInt8),s[i]?=some c->sm f j (s.set i a)+f (j+i) c=sm f j s+f (j+i) a
 |[],j,i,a,c,h=>by simp at h
 |x :: s,j,0,a,c,h=>by
  simp only[dQ,bJ]at h;subst h;simp only[List.set_cons_zero,sm,kS];omega
 |x :: s,j,i+1,a,c,h=>by
  simp only[dJ]at h;have:=Cb f s (j+1) i a c h;simp only[List.set_cons_succ,sm];rw[show j+(i+1)=j+1+i by omega];omega
def wt(k n i:Nat)(c:UInt8):Nat:=
 if k=0 then(if c=84 then n-i else if c=70 then i+1 else 0)
 else if k=1 then(if c=46 then 0 else 1)else if c=46 then 1 else 0
def mS(k:Nat)(s:Stp):Nat:=sm (wt k s.length) 0 s
theorem vS{s t:Stp}(h:t∈jN k left s):t.length=s.length:=by
 match k with
 | 0=>obtain⟨i,j,_,_,rfl,_⟩:=CG.1 h;simp
 | 1=>obtain⟨i,j,_,_,rfl,_⟩:=mD.1 h;simp
 |k+2=>obtain⟨i,_,rfl,_⟩:=(kr (by omega)).1 h;simp
theorem Q3(f:Nat->UInt8->Nat){s:Stp}{j:Nat}{b d:UInt8}(hij:i≠j)(hi:s[i]?=some c)(hj:s[j]?=some d):
 sm f 0 ((s.set i a).set j b)+f i c+f j d=sm f 0 s+f i a+f j b:=by
 have h1:=Cb f s 0 i a c hi;have h2:=Cb f (s.set i a) 0 j b d (by rw[List.getElem?_set_ne hij];exact hj);simp only[gK]at h1 h2;omega
theorem rC{s t:Stp}(h:t∈jN k left s):mS k t<mS k s:=by
 have hl:=vS h;unfold mS;rw[hl]
 match k with
 | 0=>
  obtain⟨i,j,h1,h2,rfl,h3⟩:=CG.1 h;have l1:=fU h1;have l2:=fU h2;have hij:i≠j:=by rcases h3 with h3|h3 <;> cases left <;> simp[xH]at h3 <;> omega
  have:=Q3 (wt 0 s.length) (a:=46) (b:=wJ left) hij h1 h2;have e:∀i,wt 0 s.length i 46=0:=λi=>by simp[wt]
  have e1:wt 0 s.length j (wJ left)<wt 0 s.length i (wJ left):=by
   rcases h3 with h3|⟨h3,_⟩ <;> cases left <;> simp[xH]at h3 <;> simp[wt,wJ] <;> omega
  rw[e,e]at this;omega
 | 1=>
  obtain⟨i,j,h1,h2,rfl,h3⟩:=mD.1 h;have:=Q3 (wt 1 s.length) (a:=46) (b:=o5 left) (by omega) h1 h2;have e:∀i,wt 1 s.length i 46=0:=λi=>by simp[wt]
  have e1:∀i,wt 1 s.length i (o5 left)=1:=λi=>by cases left <;> simp[wt,o5]
  have e2:∀i,wt 1 s.length i (J8 left)=1:=λi=>by cases left <;> simp[wt,J8]
  rw[e,e1,e1,e2]at this;omega
 |k+2=>
  obtain⟨i,h1,rfl,_⟩:=(kr (by omega)).1 h;have:=Cb (wt (k+2) s.length) s 0 i (o5 left) 46 h1;have e:∀i,wt (k+2) s.length i 46=1:=λi=>by simp[wt]
  have e1:∀i,wt (k+2) s.length i (o5 left)=0:=λi=>by cases left <;> simp[wt,o5]
  rw[e,e1]at this;omega
def gS(k:Nat)(s:Stp):Gm:=
 .mk ((jN k true s).attach.map λt=>gS k t.1) ((jN k false s).attach.map λt=>gS k t.1)
termination_by mS k s
decreasing_by
 .exact rC t.2
 .exact rC t.2
theorem TR(k:Nat)(s:Stp):gS k s=.mk ((jN k true s).map (gS k)) ((jN k false s).map (gS k)):=by
 rw[gS];simp
def yt(g:Gm)(left:Bool):List Gm:=if left then g.l else g.r
theorem l9{s:Stp}:x∈yt (gS k s) left↔∃t,t∈jN k left s/\x=gS k t:=by
 rw[TR];cases left <;> simp[yt,Gm.l,Gm.r,eq_comm]
theorem vL{a:Gm}:x∈yt (plus a b) left↔(∃y,y∈yt a left/\plus y b=x)\/(∃y,y∈yt b left/\plus a y=x):=by
 cases left
 .exact iq
 .exact iw
theorem EB{a:Gm}(h:∀left x,x∈yt a left->∃y,y∈yt b left/\Same x y)(k:∀left y,y∈yt b left->∃x,x∈yt a left/\Same x y):Same a b:=
 (same_iff a b).2 ⟨h true,k true,h false,k false⟩
theorem EX{J:Stp->Stp->Stp->Prop}
 (h1:∀s u v left t,J s u v->t∈jN k left s->(∃u',u'∈jN k left u/\J t u' v)\/∃v',v'∈jN k left v/\J t u v')
 (h2:∀s u v left u',J s u v->u'∈jN k left u->∃t,t∈jN k left s/\J t u' v)
 (h3:∀s u v left v',J s u v->v'∈jN k left v->∃t,t∈jN k left s/\J t u v'):
 ∀n s u v,mS k s<=n->J s u v->Same (gS k s) (plus (gS k u) (gS k v)):=by
 intro n
 induction n with
 |zero=>
  intro s u v hn hJ;refine EB (λleft x hx=>?_) (λleft y hy=>?_)
  .obtain⟨t,ht,_⟩:=l9.1 hx
   have:=rC ht;omega
  .rcases vL.1 hy with⟨z,hz,_⟩|⟨z,hz,_⟩
   .obtain⟨t,ht,_⟩:=l9.1 hz
    obtain⟨t,ht,_⟩:=h2 _ _ _ _ _ hJ ht;have:=rC ht;omega
   .obtain⟨t,ht,_⟩:=l9.1 hz
    obtain⟨t,ht,_⟩:=h3 _ _ _ _ _ hJ ht;have:=rC ht;omega
 |succ n ih=>
  intro s u v hn hJ;refine EB (λleft x hx=>?_) (λleft y hy=>?_)
  .obtain⟨t,ht,rfl⟩:=l9.1 hx
   have:=rC ht;rcases h1 _ _ _ _ _ hJ ht with⟨u',hu,hJ'⟩|⟨v',hv,hJ'⟩
   .exact⟨_,vL.2 (.inl ⟨_,l9.2 ⟨u',hu,rfl⟩,rfl⟩),ih _ _ _ (by omega) hJ'⟩
   .exact⟨_,vL.2 (.inr ⟨_,l9.2 ⟨v',hv,rfl⟩,rfl⟩),ih _ _ _ (by omega) hJ'⟩
  .rcases vL.1 hy with⟨z,hz,rfl⟩|⟨z,hz,rfl⟩
   .obtain⟨u',hu,rfl⟩:=l9.1 hz
    obtain⟨t,ht,hJ'⟩:=h2 _ _ _ _ _ hJ hu;have:=rC ht;exact⟨_,l9.2 ⟨t,ht,rfl⟩,ih _ _ _ (by omega) hJ'⟩
   .obtain⟨v',hv,rfl⟩:=l9.1 hz
    obtain⟨t,ht,hJ'⟩:=h3 _ _ _ _ _ hJ hv;have:=rC ht;exact⟨_,l9.2 ⟨t,ht,rfl⟩,ih _ _ _ (by omega) hJ'⟩
theorem A7{u r:Stp}(h:i<u.length):(u++r)[i]?=u[i]?:=dN h
theorem uS{u r:Stp}(i:Nat):(u++r)[u.length+i]?=r[i]?:=by rw[dV (by omega)];congr 1;omega
theorem AA{u r:Stp}(h:i<u.length):(u++r).set i a=u.set i a++r:=by rw[List.set_append,if_pos h]
theorem Ez{u r:Stp}(i:Nat):(u++r).set (u.length+i) a=u++r.set i a:=by rw[List.set_append,if_neg (by omega)];congr 2;omega
theorem YC(left:Bool):o5 left≠46:=by cases left <;> decide
theorem RB(left:Bool):J8 left≠46:=by cases left <;> decide
theorem Ug(u v:Stp):Same (gS 1 (u++46 :: v)) (plus (gS 1 u) (gS 1 v)):=by
 refine EX (k:=1) (J:=λs u v=>s=u++46 :: v) ?_ ?_ ?_ _ _ u v (ai _) rfl
 .rintro s u v left t rfl ht
  obtain⟨i,j,hi,hj,rfl,hd⟩:=mD.1 ht;have mid:∀c,c≠46->(u++46 :: v)[u.length]?=some c->False:=λc hc h=>by
   have:=uS (u:=u) (r:=46 :: v) 0;rw[kS]at this;rw[this]at h;simp at h;exact hc h.symm
  by_cases h1:i<u.length
  .have h2:j<u.length:=by
    by_cases e:j=u.length
    .subst e;exact(mid _ (RB left) hj).elim
    .omega
   refine .inl ⟨(u.set i 46).set j (o5 left),mD.2 ⟨i,j,by rw[<-A7 h1];exact hi,by rw[<-A7 h2];exact hj,rfl,hd⟩,?_⟩;rw[AA h1,AA (by simpa using h2)]
  .obtain⟨i',rfl⟩:∃i',i=u.length+i':=⟨i-u.length,by omega⟩
   match i' with
   | 0=>exact(mid _ (YC left) hi).elim
   |i'+1=>
    have h2:u.length<j:=by
     by_cases e:j=u.length
     .subst e;exact(mid _ (RB left) hj).elim
     .omega
    obtain⟨j',rfl⟩:∃j',j=u.length+(j'+1):=⟨j-u.length-1,by omega⟩;rw[uS]at hi hj;simp only[dJ]at hi hj;refine .inr ⟨(v.set i' 46).set j' (o5 left),mD.2 ⟨i',j',hi,hj,rfl,by omega⟩,?_⟩;rw[Ez,Ez];simp
 .rintro s u v left u' rfl hu
  obtain⟨i,j,hi,hj,rfl,hd⟩:=mD.1 hu;have h1:=fU hi;have h2:=fU hj;refine⟨_,mD.2 ⟨i,j,by rw[A7 h1];exact hi,by rw[A7 h2];exact hj,rfl,hd⟩,?_⟩;rw[AA h1,AA (by simpa using h2)]
 .rintro s u v left v' rfl hv
  obtain⟨i,j,hi,hj,rfl,hd⟩:=mD.1 hv;refine⟨_,mD.2 ⟨u.length+(i+1),u.length+(j+1),by rw[uS];simpa using hi,by rw[uS];simpa using hj,rfl,by omega⟩,?_⟩;rw[Ez,Ez];simp
theorem Ja(hk:2<=k)(u v:Stp){x:UInt8}(hx:x≠46):Same (gS k (u++x :: v)) (plus (gS k (u++[x])) (gS k (x :: v))):=by
 refine EX (k:=k) (J:=λs a b=>∃u v x,x≠46/\s=u++x :: v/\a=u++[x]/\b=x :: v) ?_ ?_ ?_ _ _ _ _ (ai _) ⟨u,v,x,hx,rfl,rfl,rfl⟩
 .rintro s _ _ left t ⟨u,v,x,hx,rfl,rfl,rfl⟩ ht
  obtain⟨i,hi,rfl,hd⟩:=(kr hk).1 ht;by_cases h1:i<u.length
  .refine .inl ⟨u.set i (o5 left)++[x],(kr hk).2 ⟨i,by rw[A7 h1]at hi ⊢;exact hi,(AA h1).symm,λj hj h=>?_⟩,u.set i (o5 left),v,x,hx,AA h1,rfl,rfl⟩
   by_cases h2:j<u.length
   .exact hd j hj (by rw[A7 h2]at h ⊢;exact h)
   .obtain⟨j',rfl⟩:∃j',j=u.length+j':=⟨j-u.length,by omega⟩
    obtain rfl:j'=0:=(by omega);exact hd (u.length+0) hj (by rw[uS]at h ⊢;simpa using h)
  .obtain⟨i',rfl⟩:∃i',i=u.length+i':=⟨i-u.length,by omega⟩
   rw[uS]at hi
   match i' with
   | 0=>simp at hi;exact absurd hi hx
   |i'+1=>
    refine .inr ⟨x :: v.set i' (o5 left),(kr hk).2 ⟨i'+1,hi,by simp,λj hj h=>?_⟩,u,v.set i' (o5 left),x,hx,by rw[Ez];simp,rfl,rfl⟩;exact hd (u.length+j) (by omega) (by rw[uS];exact h)
 .rintro s _ _ left t ⟨u,v,x,hx,rfl,rfl,rfl⟩ ht
  obtain⟨i,hi,rfl,hd⟩:=(kr hk).1 ht;have h1:i<u.length:=by
   by_cases h1:i<u.length
   .exact h1
   .obtain⟨i',rfl⟩:∃i',i=u.length+i':=⟨i-u.length,by omega⟩
    rw[uS]at hi
    match i' with
    | 0=>simp at hi;exact absurd hi hx
    |i'+1=>simp at hi
  refine⟨_,(kr hk).2 ⟨i,by rw[A7 h1]at hi ⊢;exact hi,rfl,λj hj h=>?_⟩,u.set i (o5 left),v,x,hx,AA h1,AA h1,rfl⟩;by_cases h2:j<u.length
  .exact hd j hj (by rw[A7 h2]at h ⊢;exact h)
  .obtain⟨j',rfl⟩:∃j',j=u.length+j':=⟨j-u.length,by omega⟩
   obtain rfl:j'=0:=(by omega);exact hd (u.length+0) hj (by rw[uS]at h ⊢;simpa using h)
 .rintro s _ _ left t ⟨u,v,x,hx,rfl,rfl,rfl⟩ ht
  obtain⟨i,hi,rfl,hd⟩:=(kr hk).1 ht
  match i with
  | 0=>simp at hi;exact absurd hi hx
  |i+1=>
   refine⟨_,(kr hk).2 ⟨u.length+(i+1),by rw[uS];exact hi,rfl,λj hj h=>?_⟩,u,v.set i (o5 left),x,hx,by rw[Ez];simp,rfl,by simp⟩;obtain⟨j',rfl⟩:∃j',j=u.length+j':=⟨j-u.length,by omega⟩;exact hd j' (by omega) (by rw[uS]at h;exact h)
def dots:Stp->List Stp
 |[]=>[[]]
 |c :: s=>if c=46 then [] :: dots s else match dots s with|[]=>[[c]]|t :: l=>(c :: t):: l
def runs:Option UInt8->Stp->List Stp
 |_,[]=>[]
 |p,c :: s=>if c=46 then
  (p.toList++(c :: s.takeWhile (· == 46))++(s.dropWhile (· == 46)).head?.toList):: runs none (s.dropWhile (· == 46))
  else runs (some c) s
termination_by _ s=>s.length
decreasing_by
 .have:=(List.dropWhile_sublist (l:=s) (· == (46:UInt8))).length_le;simp;omega
 .simp
def jW(k:Nat)(s:Stp):List Stp:=if k=0 then [s]else if k=1 then dots s else runs none s
def kC(k:Nat)(s:Stp):Bool:=(jN k true s).isEmpty && (jN k false s).isEmpty
def eQ(k:Nat)(s:Stp):List Stp:=(jW k s).filter λt=>!kC k t
def sM(k:Nat)(g:Gm)(l:List Stp):Gm:=l.foldl (λg t=>plus g (gS k t)) g
theorem EN{s:Stp}(h:kC k s=true):gS k s=nM:=by
 simp only[kC,eP,List.isEmpty_iff]at h;rw[TR,h.1,h.2];rfl
theorem Ij{k:Nat}:∀(l:List Stp) {g g':Gm},iK g g'->iK (sM k g l) (sM k g' l)
 |[],_,_,h=>h
 |_ :: l,_,_,h=>Ij l (qc h (iK.refl _))
theorem zB{k:Nat}:∀(l:List Stp) (g:Gm),iK (sM k g l) (sM k g (l.filter λt=>!kC k t))
 |[],g=>iK.refl g
 |t :: l,g=>by
  show iK (sM k (plus g (gS k t)) l) _;by_cases h:kC k t=true
  .rw[List.filter_cons_of_neg (by simp[h])]
   refine(Ij l ?_).trans (zB l g);rw[EN h];exact(lY g).eqv
  .rw[List.filter_cons_of_pos (by simp[h])]
   exact zB l _
theorem tF(s:Stp):dots s≠[]:=by
 cases s with
 |nil=>simp[dots]
 |cons c s=>unfold dots;split;simp;split <;> simp
theorem Di:∀(s u:Stp) (g:Gm),iK (plus g (gS 1 (u++s))) (sM 1 g (match dots s with|[]=>[]|t :: l=>(u++t):: l))
 |[],u,g=>by simp only[dots,sM,bq,List.foldl];exact iK.refl _
 |c :: s,u,g=>by
  by_cases hc:c=46
  .subst hc
   have e:dots (46 :: s)=[] :: dots s:=(by simp[dots]);simp only[e,bq];show iK _ (sM 1 (plus g (gS 1 u)) (dots s));have ih:=Di s [] (plus g (gS 1 u));have e2:(match dots s with|[]=>[]|t :: l=>([]++t):: l)=dots s:=(by cases dots s <;> rfl);rw[e2,fB]at ih;exact(qc (iK.refl g) (Ug u s).eqv).trans ((ja g _ _).eqv.symm.trans ih)
  .have ih:=Di s (u++[c]) g
   have e:dots (c :: s)=match dots s with|[]=>[[c]]|t :: l=>(c :: t):: l:=by rw[dots,if_neg hc]
   rw[e];cases hd:dots s with
   |nil=>exact absurd hd (tF s)
   |cons t l=>
    rw[hd]at ih
    simpa using ih
theorem I5(hk:2<=k){s:Stp}(h:∀c,c∈s->c≠46):gS k s=nM:=by
 refine EN ?_;have:∀left,jN k left s=[]:=λleft=>by
  cases e:jN k left s with
  |nil=>rfl
  |cons t l=>
   obtain⟨i,hi,_⟩:=(kr hk).1 (e ▸ List.mem_cons_self ..:t∈jN k left s);exact absurd rfl (h 46 (dU hi))
 simp[kC,this]
theorem Ce{k:Nat}(hk:2<=k):∀(n:Nat) (s:Stp) (p:Option UInt8) (g:Gm),s.length<=n->(∀x,p=some x->x≠46)->iK (plus g (gS k (p.toList++s))) (sM k g (runs p s))
 |n,[],p,g,_,hp=>by
  have:gS k (p.toList++[])=nM:=I5 hk λc hc=>by
   rw[bq]at hc;cases p with
   |none=>cases hc
   |some x=>obtain rfl:c=x:=by simpa using hc
            exact hp c rfl
  rw[this];have e:runs p []=[]:=by rw[runs]
  rw[e];exact(lY g).eqv
 |n+1,c :: s,p,g,hn,hp=>by
  have hn:s.length<=n:=by simpa using hn
  by_cases hc:c=46
  .subst hc
   have e:runs p (46 :: s)=(p.toList++(46 :: s.takeWhile (· == 46))++(s.dropWhile (· == 46)).head?.toList):: runs none (s.dropWhile (· == 46)):=(by rw[runs,if_pos rfl]);rw[e];show iK _ (sM k (plus g (gS k _)) _);have hs:s.takeWhile (· == 46)++s.dropWhile (· == 46)=s:=List.takeWhile_append_dropWhile;have hl:=(List.dropWhile_sublist (l:=s) (· == (46:UInt8))).length_le;cases hd:s.dropWhile (· == 46)with
   |nil=>
    rw[hd,bq]at hs;rw[hs];have e0:runs none []=[]:=(by rw[runs]);rw[e0];simp only[List.head?_nil,Option.toList_none,bq];exact iK.refl _
   |cons y r=>
    have hy:y≠46:=λh=>by
     have:=List.head?_dropWhile_not (λc:UInt8=>c == 46) s;rw[hd]at this;simp[h]at this
    rw[hd]at hs hl;have hr:r.length<=n:=(by simp at hl;omega);have ih:=Ce hk n r (some y) (plus g (gS k (p.toList++(46 :: s.takeWhile (· == 46))++[y]))) hr (λx h=>by injection h with h;exact h ▸ hy);have e2:runs none (y :: r)=runs (some y) r:=(by rw[runs,if_neg hy]);rw[e2];refine iK.trans ?_ ih;have e3:p.toList++46 :: s=(p.toList++(46 :: s.takeWhile (· == 46)))++y :: r:=by
     rw[bY,List.cons_append,hs]
    rw[e3];refine(qc (iK.refl g) (Ja hk _ r hy).eqv).trans ?_;exact(ja g _ _).eqv.symm
  .have ih:=Ce hk n s (some c) g hn (λx h=>by injection h with h;exact h ▸ hc)
   have e:runs p (c :: s)=runs (some c) s:=(by rw[runs,if_neg hc]);rw[e];refine iK.trans ?_ ih;cases p with
   |none=>exact iK.refl _
   |some x=>
    have h1:=(Ja hk [x] s hc).eqv;have h2:gS k ([x]++[c])=nM:=I5 hk λd hd=>by
     have:d=x\/d=c:=(by simpa using hd);rcases this with rfl|rfl
     .exact hp d rfl
     .exact hc
    rw[h2]at h1;exact qc (iK.refl g) (h1.trans ((jI _ _).eqv.trans (lY _).eqv))
theorem xK(k:Nat)(s:Stp):iK (sM k nM (eQ k s)) (gS k s):=by
 refine(zB _ _).symm.trans (iK.symm ?_);have z:∀g,iK g (plus nM g):=λg=>((jI _ _).eqv.trans (lY g).eqv).symm
 unfold jW;by_cases h0:k=0
 .rw[if_pos h0];exact z _
 .rw[if_neg h0]
  by_cases h1:k=1
  .subst h1
   rw[if_pos rfl];have:=Di s [] nM;have e2:(match dots s with|[]=>[]|t :: l=>([]++t):: l)=dots s:=(by cases dots s <;> rfl);rw[e2]at this;exact(z _).trans this
  .rw[if_neg h1]
   exact(z _).trans (Ce (by omega) _ s none nM (ai _) (λ_ h=>by cases h))
end Go.Proofs.YteknjeohbcgpdaaGreatDoor.bz