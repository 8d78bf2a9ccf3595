/-
  Plain law: the form of a board of at most nine free cells is within bounds; no condition.
-/
import Derived.Test.YteknjeohbcgpdaaGreatDoorK27
namespace Go.Proofs.YteknjeohbcgpdaaGreatDoor.bO
variable {c g x:Gm} {Q:Gm->Prop} {T:Cs}
theorem SN(g:Gm):0<SizeOf.sizeOf g:=by cases g;simp;omega
theorem Bw(hc:Canon c)(h:iO c g)(h1:∀a,a∈g.l->∀b,b∈a.r->∀d,d∈b.l->Q d)(h2:∀d,Q d->∀e,e∈d.r->∀f,f∈e.l->Q f)(hx:x∈c.l):∃y,(y∈g.l\/Q y)/\iO x y:=by
 have key:∀n y,SizeOf.sizeOf y<=n->(y∈g.l\/Q y)->Ge y x->¬Ge y c->∃y,(y∈g.l\/Q y)/\iO x y:=by
  intro n
  induction n with
  |zero=>intro y hn;have:=SN y;omega
  |succ n ih=>
   intro y hn hy g1 n1;rcases rE n1 with⟨r,hr,g2⟩|⟨z,hz,g2⟩
   .rcases rE (((iD y x).1 g1).1 r hr)with⟨s,hs,g3⟩|⟨l,hl,g3⟩
    .exact absurd (dQ _ _ _ g2 g3) (hc.tight.2.2.1 x hx s hs)
    .refine ih l (by have:=Gm.jR hr;have:=Gm.jT hl;omega) (.inr ?_) g3 (((iD c r).1 g2).2 l hl)
     rcases hy with hy|hy
     .exact h1 y hy r hr l hl
     .exact h2 y hy r hr l hl
   .exact⟨y,hy,dQ _ _ _ (hc.tight.1 z x hz hx (dQ _ _ _ g2 g1)).eqv.2 g2,g1⟩
 rcases rE (λk=>nY hx (dQ _ _ _ k h.2):¬Ge x g)with⟨r,hr,g1⟩|⟨y,hy,g1⟩
 .exact absurd (dQ _ _ _ h.1 g1) (hc.tight.2.2.1 x hx r hr)
 .exact key _ y (ay _) (.inl hy) g1 (λk=>nY hy (dQ _ _ _ k h.1))
theorem Bv(hc:Canon c)(h:iO c g)(h1:∀a,a∈g.r->∀b,b∈a.l->∀d,d∈b.r->Q d)(h2:∀d,Q d->∀e,e∈d.l->∀f,f∈e.r->Q f)(hx:x∈c.r):∃y,(y∈g.r\/Q y)/\iO x y:=by
 have key:∀n y,SizeOf.sizeOf y<=n->(y∈g.r\/Q y)->Ge x y->¬Ge c y->∃y,(y∈g.r\/Q y)/\iO x y:=by
  intro n
  induction n with
  |zero=>intro y hn;have:=SN y;omega
  |succ n ih=>
   intro y hn hy g1 n1;rcases rE n1 with⟨z,hz,g2⟩|⟨l,hl,g2⟩
   .exact⟨y,hy,g1,dQ _ _ _ g2 (hc.tight.2.1 x z hx hz (dQ _ _ _ g1 g2)).eqv.2⟩
   .rcases rE (((iD x y).1 g1).2 l hl)with⟨r,hr,g3⟩|⟨s,hs,g3⟩
    .refine ih r (by have:=Gm.jT hl;have:=Gm.jR hr;omega) (.inr ?_) g3 (((iD l c).1 g2).1 r hr)
     rcases hy with hy|hy
     .exact h1 y hy l hl r hr
     .exact h2 y hy l hl r hr
    .exact absurd (dQ _ _ _ g3 g2) (hc.tight.2.2.2 x hx s hs)
 rcases rE (λk=>nX hx (dQ _ _ _ h.1 k):¬Ge g x)with⟨y,hy,g1⟩|⟨l,hl,g1⟩
 .exact key _ y (ay _) (.inl hy) g1 (λk=>nX hy (dQ _ _ _ h.2 k))
 .exact absurd (dQ _ _ _ g1 h.2) (hc.tight.2.2.2 x hx l hl)
def CE(x z:Gm):Prop:=∃y,Same x y/\Canon y/\iO y z
theorem CE.uniq{a b z:Gm}(h:CE a z)(k:CE b z):Same a b:=by
 obtain⟨y,h1,h2,h3⟩:=h;obtain⟨x,k1,k2,k3⟩:=k;exact gU h1 (gU (kL h2 k2 (h3.trans k3.symm)) (jH k1))
theorem VO(hB:Bd T)(h:cnt T<=1):gB T=.mk [] []:=by
 have none:∀left,kU left T=[]:=λleft=>by
  cases e:kU left T with
  |nil=>rfl
  |cons a l=>obtain⟨r,c,hc,_⟩:=(qg hB).1 (e ▸ mX ..:a∈kU left T);have:=iY hB hc;omega
 rw[Kv hB,none,none];rfl
def four:List Gm:=[.mk [] [],.mk [.mk [] []] [],.mk [] [.mk [] []],.mk [.mk [] []] [.mk [] []]]
theorem agL(hl:∀x,x∈g.l->x=.mk [] [])(hr:∀x,x∈g.r->x=.mk [] []):∃y,y∈four/\Same g y:=by
 obtain⟨l,r⟩:=g;have key:∀l:List Gm,(∀x,x∈l->x=.mk [] [])->∃l',(l'=[]\/l'=[.mk [] []])/\∀x,x∈l'↔x∈l:=λl h=>by
  cases l with
  |nil=>exact⟨[],.inl rfl,λ_=>Iff.rfl⟩
  |cons a l=>
   refine⟨_,.inr rfl,λx=>⟨λhx=>?_,λhx=>by rw[h x hx];simp⟩⟩;obtain rfl:x=.mk [] []:=(by simpa using hx);rw[<-h a (by simp)];simp
 obtain⟨l',el,ml⟩:=key l hl;obtain⟨r',er,mr⟩:=key r hr;refine⟨.mk l' r',?_,?_⟩
 .rcases el with rfl|rfl <;> rcases er with rfl|rfl <;> simp[four]
 .rw[same_iff]
  exact⟨λx hx=>⟨x,(ml x).2 hx,iP _⟩,λx hx=>⟨x,(ml x).1 hx,iP _⟩,λx hx=>⟨x,(mr x).2 hx,iP _⟩,λx hx=>⟨x,(mr x).1 hx,iP _⟩⟩
theorem Td(hB:Bd T)(h:cnt T<=3):∃y,y∈four/\iO (gB T) y:=by
 obtain⟨y,hy,s⟩:=agL (g:=gB T) (λx hx=>by
  obtain⟨r,c,hc,rfl⟩:=(qO hB).1 hx;have:=iY hB hc;exact VO (hB.lay r c) (by omega)) (λx hx=>by
  obtain⟨r,c,hc,rfl⟩:=(qN hB).1 hx;have:=iY hB hc;exact VO (hB.lay r c) (by omega))
 exact⟨y,hy,s.eqv⟩
def Pl(S T:Cs):Prop:=T=S\/(∃l r c,can l S r c=true/\T=lay l S r c)\/(∃l r c l' r' c',can l S r c=true/\can l' (lay l S r c) r' c'=true/\T=lay l' (lay l S r c) r' c')\/(Bd T/\cnt T<=3)
section
variable {S T:Cs} (hB:Bd S) (h9:cnt S<=9)
include hB in
theorem Pl.bd(h:Pl S T):Bd T:=by
 rcases h with rfl|⟨l,r,c,_,rfl⟩|⟨l,r,c,l',r',c',_,_,rfl⟩|h
 .exact hB
 .exact hB.lay _ _
 .exact(hB.lay _ _).lay _ _
 .exact h.1
include hB h9 in
theorem Pl.cn(h:Pl S T):cnt T<=9:=by
 rcases h with rfl|⟨l,r,c,k,rfl⟩|⟨l,r,c,l',r',c',k,k',rfl⟩|h
 .exact h9
 .have:=iY hB k;omega
 .have:=iY hB k;have:=iY (hB.lay _ _) k';omega
 .omega
include hB h9 in
theorem Pl.step(h:Pl S T){l:Bool}{r c:Nat}(k:can l T r c=true):Pl S (lay l T r c):=by
 have hT:=h.bd hB;rcases h with rfl|⟨l,r,c,k1,rfl⟩|⟨l,r,c,l',r',c',k1,k2,rfl⟩|h
 .exact .inr (.inl ⟨l,r,c,k,rfl⟩)
 .exact .inr (.inr (.inl ⟨_,_,_,_,_,_,k1,k,rfl⟩))
 .have:=iY hB k1;have:=iY (hB.lay _ _) k2;have:=iY hT k
  exact .inr (.inr (.inr ⟨hT.lay _ _,by omega⟩))
 .have:=iY hT k
  exact .inr (.inr (.inr ⟨hT.lay _ _,by omega⟩))
def Iu(y:Gm):Prop:=∃T,Bd T/\cnt T<=3/\y=gB T
theorem three{T:Cs}(hT:Bd T)(h:cnt T<=9){l l' l'':Bool}{r c r' c' r'' c'':Nat}(k:can l T r c=true)(k':can l' (lay l T r c) r' c'=true)(k'':can l'' (lay l' (lay l T r c) r' c') r'' c''=true):Iu (gB (lay l'' (lay l' (lay l T r c) r' c') r'' c'')):=by
 have:=iY hT k;have:=iY (hT.lay _ _) k';have:=iY ((hT.lay _ _).lay _ _) k'';exact⟨_,((hT.lay _ _).lay _ _).lay _ _,by omega,rfl⟩
theorem aeD{c:Gm}{T:Cs}(hT:Bd T)(h:cnt T<=9)(hc:Canon c)(e:iO c (gB T)){x:Gm}(hx:x∈c.l):∃y,(y∈(gB T).l\/Iu y)/\iO x y:=by
 refine Bw hc e (λa ha b hb d hd=>?_) (λd hd e he f hf=>?_) hx
 .obtain⟨r,c,k,rfl⟩:=(qO hT).1 ha
  obtain⟨r',c',k',rfl⟩:=(qN (hT.lay _ _)).1 hb;obtain⟨r'',c'',k'',rfl⟩:=(qO ((hT.lay _ _).lay _ _)).1 hd;exact three hT h k k' k''
 .obtain⟨U,hU,h3,rfl⟩:=hd
  obtain⟨r,c,k,rfl⟩:=(qN hU).1 he;obtain⟨r',c',k',rfl⟩:=(qO (hU.lay _ _)).1 hf;have:=iY hU k;have:=iY (hU.lay _ _) k';exact⟨_,(hU.lay _ _).lay _ _,by omega,rfl⟩
theorem aeu{c:Gm}{T:Cs}(hT:Bd T)(h:cnt T<=9)(hc:Canon c)(e:iO c (gB T)){x:Gm}(hx:x∈c.r):∃y,(y∈(gB T).r\/Iu y)/\iO x y:=by
 refine Bv hc e (λa ha b hb d hd=>?_) (λd hd e he f hf=>?_) hx
 .obtain⟨r,c,k,rfl⟩:=(qN hT).1 ha
  obtain⟨r',c',k',rfl⟩:=(qO (hT.lay _ _)).1 hb;obtain⟨r'',c'',k'',rfl⟩:=(qN ((hT.lay _ _).lay _ _)).1 hd;exact three hT h k k' k''
 .obtain⟨U,hU,h3,rfl⟩:=hd
  obtain⟨r,c,k,rfl⟩:=(qO hU).1 he;obtain⟨r',c',k',rfl⟩:=(qN (hU.lay _ _)).1 hf;have:=iY hU k;have:=iY (hU.lay _ _) k';exact⟨_,(hU.lay _ _).lay _ _,by omega,rfl⟩
theorem foot{S:Cs}(hB:Bd S){c:Nat}:∀n r,8-r<=n->S r c=true->∃r',S r' c=true/\S (r'+1) c=false:=by
 intro n
 induction n with
 |zero=>intro r hr k;have:=(hB _ _ k).1;omega
 |succ n ih=>
  intro r hr k;cases e:S (r+1) c with
  |false=>exact⟨r,k,e⟩
  |true=>exact ih (r+1) (by omega) e
theorem alb:∀c,c<8->grid.countP (λp=>p.2 == c)<=8:=by decide
theorem P6{S:Cs}(h:cnt S≠0):∃r c,S r c=true:=by
 obtain⟨p,hp,hs⟩:=List.countP_pos_iff.1 (show 0<grid.countP (λp=>S p.1 p.2) from by unfold cnt at h;omega);exact⟨p.1,p.2,hs⟩
theorem aan{S:Cs}(hB:Bd S)(h9:cnt S<=9):cnt (can true S)<=7:=by
 by_cases h0:cnt S=0
 .have:=cnt_mono (A:=can true S) (B:=S) (λx y k=>(iZ.1 k).1);omega
 .obtain⟨r,c,hs⟩:=P6 h0
  obtain⟨r1,s1,f1⟩:=foot hB _ r (ay _) hs;have no:∀{r c},S (r+1) c=false->∀x y,can true S x y=true->¬(x=r/\y=c):=λf x y k e=>by
   have:=(iZ.1 k).2;rw[e.1,e.2]at this;simp only[rD,pK,if_true]at this;rw[f]at this;cases this
  have m1:=rM (hB _ _ s1) s1;by_cases h8:cnt S<=8
  .have:=cnt_mono (A:=can true S) (B:=rm S r1 c) (λx y k=>kW.2 ⟨(iZ.1 k).1,no f1 x y k⟩)
   omega
  .have:∃r d,S r d=true/\d≠c:=uN λhn=>by
    have hc:=(hB _ _ s1).2;have:=alb c hc;have:cnt S<=grid.countP (λp=>p.2 == c):=List.countP_mono_left λp _ h=>by
     have:p.2=c:=uN λhne=>hn ⟨_,_,h,hne⟩
     simp[this]
    omega
   obtain⟨r',d,hd,hne⟩:=this;obtain⟨r2,s2,f2⟩:=foot hB _ r' (ay _) hd;have m2:=rM (S:=rm S r1 c) (hB _ _ s2) (kW.2 ⟨s2,λe=>hne e.2⟩);have:=cnt_mono (A:=can true S) (B:=rm (rm S r1 c) r2 d) (λx y k=>kW.2 ⟨kW.2 ⟨(iZ.1 k).1,no f1 x y k⟩,no f2 x y k⟩);omega
theorem GY(left:Bool){S:Cs}(hB:Bd S)(h9:cnt S<=9):(kU left S).length<=7:=by
 have e:(kU left S).length=cnt (can left S):=by
  unfold kU cnt;rw[bD,<-List.countP_eq_length_filter]
 rw[e];cases left with
 |true=>exact aan hB h9
 |false=>
  have k:=aan hB.swp (by rw[Pv hB];exact h9);have e:can false S=swp (can true (swp S)):=by funext x y;exact(ZC true S y x).symm
  rw[e,Pv (λx y k=>hB.swp x y (iZ.1 k).1)];exact k
def Yo{α:Type}:List α->List (α × α)
 |[]=>[]
 |a :: l=>l.map (λb=>(a,b))++Yo l
theorem Yn{α:Type}(l:List α):2*(Yo l).length+l.length=l.length*l.length:=by
 induction l with
 |nil=>rfl
 |cons a l ih=>
  have e:(l.length+1)*(l.length+1)=l.length*l.length+2*l.length+1:=by simp only[kS,Nat.mul_add];omega
  simp only[Yo,aK,bD,fQ];omega
theorem Ym{α:Type}{x y:α}(ne:x≠y):∀l,x∈l->y∈l->(x,y)∈Yo l\/(y,x)∈Yo l:=by
 intro l
 induction l with
 |nil=>intro h;cases h
 |cons a l ih=>
  intro hx hy;simp only[Yo,bq,aH];rcases eT.1 hx with rfl|hx'
  .rcases eT.1 hy with rfl|hy'
   .exact absurd rfl ne
   .exact .inl (.inl ⟨y,hy',rfl⟩)
  .rcases eT.1 hy with rfl|hy'
   .exact .inr (.inl ⟨x,hx',rfl⟩)
   .exact(ih hx' hy').imp .inr .inr
def Ud(S:Cs):List (Bool × Nat × Nat):=(grid.filter λp=>can true S p.1 p.2).map (λp=>(true,p.1,p.2))++(grid.filter λp=>can false S p.1 p.2).map (λp=>(false,p.1,p.2))
def ly(S:Cs)(m:Bool × Nat × Nat):Cs:=lay m.1 S m.2.1 m.2.2
theorem Yu{S:Cs}(hB:Bd S)(h9:cnt S<=9):(Ud S).length<=14:=by
 have h1:=GY true hB h9;have h2:=GY false hB h9;unfold kU at h1 h2;unfold Ud;simp only[aK,bD]at *;omega
theorem GX{S:Cs}(hB:Bd S){l:Bool}{r c:Nat}(h:can l S r c=true):(l,r,c)∈Ud S:=by
 have hg:(r,c)∈grid:=Dr.2 (hB _ _ (iZ.1 h).1);unfold Ud;cases l with
 |true=>exact lW _ (aH.2 ⟨(r,c),fU.2 ⟨hg,h⟩,rfl⟩)
 |false=>exact nH _ (aH.2 ⟨(r,c),fU.2 ⟨hg,h⟩,rfl⟩)
theorem Yw(S:Cs)(m k:Bool × Nat × Nat):ly (ly S m) k=ly (ly S k) m:=by
 apply AQ;intro x y;unfold ly;rw[lI,lI,lI,lI];constructor <;> rintro⟨⟨a,b,c⟩,d,e⟩ <;> exact⟨⟨a,d,e⟩,b,c⟩
def WN(S:Cs):List Gm:=gB S :: ((Ud S).map (λm=>gB (ly S m))++((Yo (Ud S)).map (λp=>gB (ly (ly S p.1) p.2))++four))
include hB h9 in
theorem ZO:(WN S).length<=110:=by
 have h:=Yu hB h9;have k:=Yn (Ud S);have:=gZ (Ud S).length h;simp only[WN,fQ,aK,bD,four,List.length_nil];omega
include hB in
theorem ZP(h:Pl S T):∃y,y∈WN S/\iO (gB T) y:=by
 unfold WN;rcases h with rfl|⟨l,r,c,k,rfl⟩|⟨l,r,c,l',r',c',k,k',rfl⟩|h
 .exact⟨_,mX ..,iO.refl _⟩
 .exact⟨_,lV _ (lW _ (aH.2 ⟨_,GX hB k,rfl⟩)),iO.refl _⟩
 .obtain⟨k1,k2⟩:=iZ.1 k'
  have ks:can l' S r' c'=true:=iZ.2 ⟨(lI.1 k1).1,(lI.1 k2).1⟩;have hne:(l,r,c)≠(l',r',c'):=λe=>by
   injection e with e1 e2;injection e2 with e2 e3;subst e1;subst e2;subst e3;exact(lI.1 k1).2.1 ⟨rfl,rfl⟩
  have hin:∀p:(Bool × Nat × Nat) × (Bool × Nat × Nat),p∈Yo (Ud S)->gB (ly (ly S p.1) p.2)∈gB S :: ((Ud S).map (λm=>gB (ly S m))++((Yo (Ud S)).map (λp=>gB (ly (ly S p.1) p.2))++four)):=λp hp=>
   lV _ (nH _ (lW _ (aH.2 ⟨p,hp,rfl⟩)))
  rcases Ym hne _ (GX hB k) (GX hB ks)with hp|hp
  .exact⟨_,hin _ hp,iO.refl _⟩
  .refine⟨_,hin _ hp,?_⟩
   rw[Yw];exact iO.refl _
 .obtain⟨y,hy,e⟩:=Td h.1 h.2
  exact⟨y,lV _ (nH _ (nH _ hy)),e⟩
include hB h9 in
theorem TZ{F:dH}(hF:fO F (gB S)):∀i,i<F.length->∃c T,Same (vl F i) c/\Canon c/\Pl S T/\iO c (gB T):=by
 obtain⟨hI,c,h1,h2,h3⟩:=hF;intro i hi;have hr:=hI.reach i hi;clear hi
 induction hr with
 |here=>exact⟨c,S,h1,h2,.inl rfl,h3⟩
 |left hr hd hk ih=>
  obtain⟨c',T,s,hc,hp,e⟩:=ih;rw[same_iff,ow hI.good.wf hd]at s;obtain⟨y,hy,t⟩:=s.1 _ (bE hk);obtain⟨z,hz,e2⟩:=aeD (hp.bd hB) (hp.cn hB h9) hc e hy;rcases hz with hz|⟨U,hU,h3,rfl⟩
  .obtain⟨r,c,k,rfl⟩:=(qO (hp.bd hB)).1 hz
   exact⟨y,_,t,hc.l hy,hp.step hB h9 k,e2⟩
  .exact⟨y,U,t,hc.l hy,.inr (.inr (.inr ⟨hU,h3⟩)),e2⟩
 |right hr hd hk ih=>
  obtain⟨c',T,s,hc,hp,e⟩:=ih;rw[same_iff,ou hI.good.wf hd]at s;obtain⟨y,hy,t⟩:=s.2.2.1 _ (bE hk);obtain⟨z,hz,e2⟩:=aeu (hp.bd hB) (hp.cn hB h9) hc e hy;rcases hz with hz|⟨U,hU,h3,rfl⟩
  .obtain⟨r,c,k,rfl⟩:=(qN (hp.bd hB)).1 hz
   exact⟨y,_,t,hc.r hy,hp.step hB h9 k,e2⟩
  .exact⟨y,U,t,hc.r hy,.inr (.inr (.inr ⟨hU,h3⟩)),e2⟩
theorem GR{E:dH}(hE:Good E){l:List Nat}{m:List Gm}(hl:Asc l)(hlt:∀x,x∈l->x<E.length)(h:∀x,x∈l->∃y,y∈m/\CE (vl E x) y):l.length<=m.length:=by
 have:=Ib (n:=l.length) (at_:=List.range m.length) (R:=λi j=>∃(hi:i<l.length) (hj:j<m.length),CE (vl E l[i]) m[j]) (λi hi=>?_) (λi i' j hi hi' h1 h2=>?_)
 .simpa using this
 .obtain⟨y,hy,s⟩:=h _ (ai hi)
  obtain⟨j,hj,rfl⟩:=aW.1 hy;exact⟨j,dM.2 hj,hi,hj,s⟩
 .obtain⟨_,_,s1⟩:=h1
  obtain⟨_,_,s2⟩:=h2;have:=mO hE _ _ (hlt _ (ai hi)) (hlt _ (ai hi')) (s1.uniq s2);have hp:=dx.1 hl;rcases Nat.lt_trichotomy i i' with c|c|c
  .have:=hp i i' hi hi' c;omega
  .exact c
  .have:=hp i' i hi' hi c;omega
include hB h9 in
theorem NH{F:dH}(hF:fO F (gB S)):iQ F=true:=by
 have hI:=hF.1;have hn:=TZ hB h9 hF;have h0:=kQ.2 hI.ne;have hlen:F.length<=110:=by
  refine dn ?_ (ZO hB h9);have:=GR (m:=WN S) hI.good (l:=List.range F.length) List.pairwise_lt_range (λx hx=>dM.1 hx) (λx hx=>by
   obtain⟨c,T,s,hc,hp,e⟩:=hn x (dM.1 hx);obtain⟨y,hy,e2⟩:=ZP hB hp;exact⟨y,hy,c,s,hc,e.trans e2⟩)
  simpa using this
 have hop:∀i (hi:i<F.length),(F[i]).1.length<=11/\(F[i]).2.length<=11:=λi hi=>by
  obtain⟨c,T,s,hc,hp,e⟩:=hn i hi;have hd:F[i]?=some F[i]:=aa hi;obtain⟨w1,w2⟩:=hI.good.wf i _ hd;have hT:=hp.bd hB;have hT9:=hp.cn hB h9;rw[same_iff,ow hI.good.wf hd,ou hI.good.wf hd]at s;have m1:=GY true hT hT9;have m2:=GY false hT hT9;have Pp:∀{y:Gm},Iu y->∃z,z∈four/\iO y z:=λ⟨U,hU,h3,e⟩=>by subst e;exact Td hU h3
  constructor
  .have:=GR (m:=(gB T).l++four) hI.good (hI.good.Cf _ (ai hi)).1 (λx hx=>by have:=w1 x hx;omega) (λx hx=>by
    obtain⟨y,hy,t⟩:=s.1 _ (bE hx);obtain⟨z,hz,e2⟩:=aeD hT hT9 hc e hy;rcases hz with hz|hz
    .exact⟨z,lW _ hz,y,t,hc.l hy,e2⟩
    .obtain⟨u,hu,e3⟩:=Pp hz
     exact⟨u,nH _ hu,y,t,hc.l hy,e2.trans e3⟩)
   rw[Kv hT]at this;simp only[Gm.l,aK,bD,four,fQ,List.length_nil]at this;omega
  .have:=GR (m:=(gB T).r++four) hI.good (hI.good.Cf _ (ai hi)).2 (λx hx=>by have:=w2 x hx;omega) (λx hx=>by
    obtain⟨y,hy,t⟩:=s.2.2.1 _ (bE hx);obtain⟨z,hz,e2⟩:=aeu hT hT9 hc e hy;rcases hz with hz|hz
    .exact⟨z,lW _ hz,y,t,hc.r hy,e2⟩
    .obtain⟨u,hu,e3⟩:=Pp hz
     exact⟨u,nH _ hu,y,t,hc.r hy,e2.trans e3⟩)
   rw[Kv hT]at this;simp only[Gm.r,aK,bD,four,fQ,List.length_nil]at this;omega
 unfold iQ;exact decide_eq_true ⟨h0,by omega,λi hi=>⟨by have:=(hop i hi).1;omega,by have:=(hop i hi).2;omega⟩⟩
end
end Go.Proofs.YteknjeohbcgpdaaGreatDoor.bO