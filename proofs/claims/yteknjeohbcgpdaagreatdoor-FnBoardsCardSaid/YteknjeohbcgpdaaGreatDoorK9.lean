/-
  Plain law: what hangs together with a cell; no condition. (4 texts.)
-/
import Derived.Test.YteknjeohbcgpdaaGreatDoorK2
namespace Go.Proofs.YteknjeohbcgpdaaGreatDoor.bO
variable {r c x y:Nat} {left:Bool}
abbrev Cs:=Nat->Nat->Bool
def rm(S:Cs)(r c:Nat):Cs:=λx y=>S x y && !(x == r && y == c)
def rD(left:Bool)(r:Nat):Nat:=if left then r+1 else r
def pK(left:Bool)(c:Nat):Nat:=if left then c else c+1
def can(left:Bool)(S:Cs)(r c:Nat):Bool:=S r c && S (rD left r) (pK left c)
def lay(left:Bool)(S:Cs)(r c:Nat):Cs:=rm (rm S r c) (rD left r) (pK left c)
def Bd(S:Cs):Prop:=∀r c,S r c=true->r<8/\c<8
def grid:List (Nat × Nat):=(List.range 8).flatMap λr=>(List.range 8).map λc=>(r,c)
def cnt(S:Cs):Nat:=grid.countP λp=>S p.1 p.2
def kU(left:Bool)(S:Cs):List Cs:=(grid.filter λp=>can left S p.1 p.2).map λp=>lay left S p.1 p.2
def gF:Nat->Cs->Gm
 | 0,_=>.mk [] []
 |n+1,S=>.mk ((kU true S).map (gF n)) ((kU false S).map (gF n))
def gB(S:Cs):Gm:=gF (cnt S) S
theorem Dr:(r,c)∈grid↔r<8/\c<8:=by simp[grid]
theorem Nr:grid.Nodup:=by decide
theorem abF(left:Bool)(r c:Nat):¬(rD left r=r/\pK left c=c):=by cases left <;> simp[rD,pK]
theorem aev{S:Cs}(h:rm S r c x y=true):S x y=true/\¬(x=r/\y=c):=by
 simp only[rm,dK,l7,Bool.and_eq_false_iff,beq_eq_false_iff_ne]at h;exact⟨h.1,λe=>by rcases h.2 with k|k;exact k e.1;exact k e.2⟩
theorem kW{S:Cs}:rm S r c x y=true↔S x y=true/\¬(x=r/\y=c):=
 ⟨aev,λ⟨h,k⟩=>by
  simp only[rm,dK,l7,Bool.and_eq_false_iff,beq_eq_false_iff_ne];refine⟨h,?_⟩;by_cases e:x=r
  .exact .inr λe'=>k ⟨e,e'⟩
  .exact .inl e⟩
theorem iZ{S:Cs}:can left S r c=true↔S r c=true/\S (rD left r) (pK left c)=true:=by simp[can]
theorem lI{S:Cs}:lay left S r c x y=true↔S x y=true/\¬(x=r/\y=c)/\¬(x=rD left r/\y=pK left c):=by
 rw[lay,kW,kW,and_assoc]
theorem AQ{A B:Cs}(h:∀x y,A x y=true↔B x y=true):A=B:=by
 funext x y;have:=h x y;cases hA:A x y <;> cases hB:B x y <;> simp_all
theorem Bd.lay{left:Bool}{S:Cs}(h:Bd S)(r c:Nat):Bd (lay left S r c):=λx y k=>h x y (lI.1 k).1
theorem V8{l:List (Nat × Nat)}(hn:l.Nodup){S:Cs}(hm:(r,c)∈l)(hs:S r c=true):l.countP (λp=>rm S r c p.1 p.2)+1=l.countP λp=>S p.1 p.2:=by
 induction l with
 |nil=>cases hm
 |cons q l ih=>
  obtain⟨hq,hn⟩:=List.nodup_cons.1 hn;rw[j6,j6];by_cases e:q=(r,c)
  .subst e
   have h0:l.countP (λp=>rm S r c p.1 p.2)=l.countP λp=>S p.1 p.2:=by
    apply List.countP_congr;intro p hp;rw[kW];exact⟨λh=>h.1,λh=>⟨h,λe=>hq (by rw[<-e.1,<-e.2];exact hp)⟩⟩
   have h1:rm S r c r c=false:=(by simp[rm]);simp[h0,h1,hs]
  .have hm':(r,c)∈l:=by rcases eT.1 hm with h|h;exact absurd h.symm e;exact h
   have h1:rm S r c q.1 q.2=S q.1 q.2:=by
    have:¬(q.1=r/\q.2=c):=λk=>e (by rw[<-k.1,<-k.2])
    cases hS:S q.1 q.2 with
    |true=>exact kW.2 ⟨hS,this⟩
    |false=>simp[rm,hS]
   rw[h1];have:=ih hn hm';omega
theorem rM{S:Cs}(hb:r<8/\c<8)(hs:S r c=true):cnt (rm S r c)+1=cnt S:=V8 Nr (Dr.2 hb) hs
theorem iY{S:Cs}(hB:Bd S)(h:can left S r c=true):cnt (lay left S r c)+2=cnt S:=by
 obtain⟨h1,h2⟩:=iZ.1 h;have a:=rM (hB _ _ h1) h1;have b:=rM (S:=rm S r c) (hB _ _ h2) (kW.2 ⟨h2,abF left r c⟩);unfold lay;omega
theorem xx{S:Cs}(hB:Bd S)(h:S r c=true):0<cnt S:=by
 have:=rM (hB _ _ h) h;omega
theorem qg{S x:Cs}(hB:Bd S):x∈kU left S↔∃r c,can left S r c=true/\x=lay left S r c:=by
 unfold kU;rw[aH];constructor
 .rintro⟨⟨r,c⟩,h,rfl⟩
  exact⟨r,c,(fU.1 h).2,rfl⟩
 .rintro⟨r,c,h,rfl⟩
  exact⟨(r,c),fU.2 ⟨Dr.2 (hB _ _ (iZ.1 h).1),h⟩,rfl⟩
theorem F7:∀n m {S:Cs},Bd S->cnt S<=n->cnt S<=m->gF n S=gF m S:=by
 have none:∀{S:Cs} (left:Bool),Bd S->cnt S=0->kU left S=[]:=λleft hB h=>by
  cases e:kU left _ with
  |nil=>rfl
  |cons a l=>obtain⟨r,c,hc,_⟩:=(qg hB).1 (e ▸ mX ..:a∈kU left _);have:=xx hB (iZ.1 hc).1;omega
 intro n
 induction n with
 |zero=>
  intro m S hB hn hm;cases m with
  |zero=>rfl
  |succ m=>simp[gF,none true hB (by omega),none false hB (by omega)]
 |succ n ih=>
  intro m S hB hn hm;cases m with
  |zero=>simp[gF,none true hB (by omega),none false hB (by omega)]
  |succ m=>
   rw[gF,gF];congr 1
   all_goals
    apply df;intro x hx;obtain⟨r,c,hc,rfl⟩:=(qg hB).1 hx;have:=iY hB hc;exact ih m (hB.lay r c) (by omega) (by omega)
theorem Kv{S:Cs}(hB:Bd S):gB S=.mk ((kU true S).map gB) ((kU false S).map gB):=by
 rw[gB,F7 (cnt S) (cnt S+1) hB (ay _) (by omega),gF];congr 1
 all_goals
  apply df;intro x hx;obtain⟨r,c,hc,rfl⟩:=(qg hB).1 hx;have:=iY hB hc;exact F7 _ _ (hB.lay r c) (by omega) (ay _)
theorem qO{S:Cs}(hB:Bd S){x:Gm}:x∈(gB S).l↔∃r c,can true S r c=true/\x=gB (lay true S r c):=by
 rw[Kv hB];simp only[Gm.l,aH,qg hB];exact⟨λ⟨_,⟨r,c,h,e⟩,k⟩=>⟨r,c,h,by rw[<-k,e]⟩,λ⟨r,c,h,e⟩=>⟨_,⟨r,c,h,rfl⟩,e.symm⟩⟩
theorem qN{S:Cs}(hB:Bd S){x:Gm}:x∈(gB S).r↔∃r c,can false S r c=true/\x=gB (lay false S r c):=by
 rw[Kv hB];simp only[Gm.r,aH,qg hB];exact⟨λ⟨_,⟨r,c,h,e⟩,k⟩=>⟨r,c,h,by rw[<-k,e]⟩,λ⟨r,c,h,e⟩=>⟨_,⟨r,c,h,rfl⟩,e.symm⟩⟩
theorem Fj{A B:Cs}(hA:Bd A)(hB:Bd B)(h:∀left r c,can left A r c=true->∃r' c',can left B r' c'=true/\Same (gB (lay left A r c)) (gB (lay left B r' c')))
 (k:∀left r c,can left B r c=true->∃r' c',can left A r' c'=true/\Same (gB (lay left A r' c')) (gB (lay left B r c))):Same (gB A) (gB B):=by
 rw[same_iff];refine⟨λx hx=>?_,λy hy=>?_,λx hx=>?_,λy hy=>?_⟩
 .obtain⟨r,c,h1,rfl⟩:=(qO hA).1 hx
  obtain⟨r',c',h2,h3⟩:=h _ _ _ h1;exact⟨_,(qO hB).2 ⟨r',c',h2,rfl⟩,h3⟩
 .obtain⟨r,c,h1,rfl⟩:=(qO hB).1 hy
  obtain⟨r',c',h2,h3⟩:=k _ _ _ h1;exact⟨_,(qO hA).2 ⟨r',c',h2,rfl⟩,h3⟩
 .obtain⟨r,c,h1,rfl⟩:=(qN hA).1 hx
  obtain⟨r',c',h2,h3⟩:=h _ _ _ h1;exact⟨_,(qN hB).2 ⟨r',c',h2,rfl⟩,h3⟩
 .obtain⟨r,c,h1,rfl⟩:=(qN hB).1 hy
  obtain⟨r',c',h2,h3⟩:=k _ _ _ h1;exact⟨_,(qN hA).2 ⟨r',c',h2,rfl⟩,h3⟩
theorem LY:∀n {S T:Cs} {a b:Nat},cnt S<=n->Bd S->Bd T->(∀r c,S r c=true->a<=r/\b<=c)->(∀r c,T r c=S (r+a) (c+b))->Same (gB T) (gB S):=by
 intro n
 induction n with
 |zero=>
  intro S T a b hn hS hT _ hST;have e:∀r c,S r c=false:=λr c=>by
   cases h:S r c with
   |false=>rfl
   |true=>have:=xx hS h;omega
  have hno:∀left r c,can left S r c=false:=λleft r c=>by simp[can,e]
  have ajy:∀left r c,can left T r c=false:=λleft r c=>by simp[can,hST,e]
  exact Fj hT hS (λleft r c h=>by rw[ajy]at h;cases h) (λleft r c h=>by rw[hno]at h;cases h)
 |succ n ih=>
  intro S T a b hn hS hT hab hST;have DT:∀left r c,can left T r c=can left S (r+a) (c+b):=λleft r c=>by
   unfold can;rw[hST,hST];have e1:rD left r+a=rD left (r+a):=(by cases left <;> simp[rD];omega);have e2:pK left c+b=pK left (c+b):=(by cases left <;> simp[pK];omega);rw[e1,e2]
  have step:∀left r c,can left S (r+a) (c+b)=true->Same (gB (lay left T r c)) (gB (lay left S (r+a) (c+b))):=λleft r c h=>by
   have:=iY hS h;refine ih (a:=a) (b:=b) (by omega) (hS.lay _ _) (hT.lay _ _) (λx y k=>hab x y (lI.1 k).1) (λx y=>?_);have:lay left T r c x y=true↔lay left S (r+a) (c+b) (x+a) (y+b)=true:=by
    rw[lI,lI,hST];have e1:rD left (r+a)=rD left r+a:=(by cases left <;> simp[rD];omega);have e2:pK left (c+b)=pK left c+b:=(by cases left <;> simp[pK];omega);rw[e1,e2];simp only[Nat.add_right_cancel_iff]
   cases h1:lay left T r c x y <;> cases h2:lay left S (r+a) (c+b) (x+a) (y+b)<;> simp_all
  refine Fj hT hS (λleft r c h=>⟨r+a,c+b,by rw[<-DT];exact h,step left r c (by rw[<-DT];exact h)⟩) (λleft r c h=>?_);obtain⟨h1,h2⟩:=hab r c (iZ.1 h).1;obtain⟨r',rfl⟩:∃r',r=r'+a:=⟨r-a,by omega⟩;obtain⟨c',rfl⟩:∃c',c=c'+b:=⟨c-b,by omega⟩;exact⟨r',c',by rw[DT];exact h,step left r' c' h⟩
def uL(A B:Cs):Cs:=λx y=>A x y || B x y
theorem jY{A B:Cs}:uL A B x y=true↔A x y=true\/B x y=true:=by simp[uL]
def IA(r c x y:Nat):Prop:=(∃left,x=rD left r/\y=pK left c)\/∃left,r=rD left x/\c=pK left y
theorem IA.symm(h:IA r c x y):IA x y r c:=h.elim .inr .inl
structure Apart(A B:Cs):Prop where
 no:∀r c,A r c=true->B r c=true->False
 by_:∀r c x y,A r c=true->B x y=true->IA r c x y->False
theorem Apart.sub{A B A' B':Cs}(h:Apart A B)(hA:∀x y,A' x y=true->A x y=true)(hB:∀x y,B' x y=true->B x y=true):Apart A' B':=
 ⟨λr c a b=>h.no r c (hA _ _ a) (hB _ _ b),λr c x y a b=>h.by_ r c x y (hA _ _ a) (hB _ _ b)⟩
theorem Apart.symm{A B:Cs}(h:Apart A B):Apart B A:=⟨λr c a b=>h.no r c b a,λr c x y a b n=>h.by_ x y r c b a n.symm⟩
theorem Bd.uL{A B:Cs}(hA:Bd A)(hB:Bd B):Bd (uL A B):=λr c h=>(jY.1 h).elim (hA r c) (hB r c)
theorem KD(A B:Cs):uL A B=uL B A:=by funext x y;simp[uL,Bool.or_comm]
theorem q8{A B:Cs}(h:Apart A B):can left (uL A B) r c=true↔can left A r c=true\/can left B r c=true:=by
 rw[iZ,iZ,iZ,jY,jY];constructor
 .rintro⟨a|a,b|b⟩
  .exact .inl ⟨a,b⟩
  .exact(h.by_ _ _ _ _ a b (.inl ⟨left,rfl,rfl⟩)).elim
  .exact(h.by_ _ _ _ _ b a (.inr ⟨left,rfl,rfl⟩)).elim
  .exact .inr ⟨a,b⟩
 .rintro(⟨a,b⟩|⟨a,b⟩)
  .exact⟨.inl a,.inl b⟩
  .exact⟨.inr a,.inr b⟩
theorem OG{A B:Cs}(h:Apart A B)(k:can left A r c=true):lay left (uL A B) r c=uL (lay left A r c) B:=by
 obtain⟨k1,k2⟩:=iZ.1 k;apply AQ;intro x y;rw[lI,jY,jY,lI];constructor
 .rintro⟨a|a,b⟩
  .exact .inl ⟨a,b⟩
  .exact .inr a
 .rintro(⟨a,b⟩|a)
  .exact⟨.inl a,b⟩
  .exact⟨.inr a,λ⟨e1,e2⟩=>by subst e1;subst e2;exact h.no _ _ k1 a,λ⟨e1,e2⟩=>by subst e1;subst e2;exact h.no _ _ k2 a⟩
theorem Apart.lay{left:Bool}{A B:Cs}(h:Apart A B)(r c:Nat):Apart (lay left A r c) B:=h.sub (λ_ _ k=>(lI.1 k).1) (λ_ _ k=>k)
theorem KC:∀n {A B:Cs},cnt A+cnt B<=n->Bd A->Bd B->Apart A B->Same (gB (uL A B)) (plus (gB A) (gB B)):=by
 intro n
 induction n with
 |zero=>
  intro A B hn hA hB hap;have eA:∀r c,A r c=false:=λr c=>by
   cases h:A r c with
   |false=>rfl
   |true=>have:=xx hA h;omega
  have eB:∀r c,B r c=false:=λr c=>by
   cases h:B r c with
   |false=>rfl
   |true=>have:=xx hB h;omega
  have nA:∀left r c,can left A r c=true->False:=λleft r c h=>by rw[iZ,eA]at h;exact absurd h.1 (by simp)
  have nB:∀left r c,can left B r c=true->False:=λleft r c h=>by rw[iZ,eB]at h;exact absurd h.1 (by simp)
  rw[same_iff];refine⟨λx hx=>?_,λy hy=>?_,λx hx=>?_,λy hy=>?_⟩
  .obtain⟨r,c,h,_⟩:=(qO (hA.uL hB)).1 hx
   exact((q8 hap).1 h).elim (λh=>(nA _ _ _ h).elim) (λh=>(nB _ _ _ h).elim)
  .rcases kr.1 hy with⟨z,hz,_⟩|⟨z,hz,_⟩
   .obtain⟨r,c,h,_⟩:=(qO hA).1 hz;exact(nA _ _ _ h).elim
   .obtain⟨r,c,h,_⟩:=(qO hB).1 hz;exact(nB _ _ _ h).elim
  .obtain⟨r,c,h,_⟩:=(qN (hA.uL hB)).1 hx
   exact((q8 hap).1 h).elim (λh=>(nA _ _ _ h).elim) (λh=>(nB _ _ _ h).elim)
  .rcases ko.1 hy with⟨z,hz,_⟩|⟨z,hz,_⟩
   .obtain⟨r,c,h,_⟩:=(qN hA).1 hz;exact(nA _ _ _ h).elim
   .obtain⟨r,c,h,_⟩:=(qN hB).1 hz;exact(nB _ _ _ h).elim
 |succ n ih=>
  intro A B hn hA hB hap;have sA:∀left r c,can left A r c=true->Same (gB (lay left (uL A B) r c)) (plus (gB (lay left A r c)) (gB B)):=λleft r c h=>by
   rw[OG hap h];have:=iY hA h;exact ih (by omega) (hA.lay r c) hB (hap.lay r c)
  have sB:∀left r c,can left B r c=true->Same (gB (lay left (uL A B) r c)) (plus (gB A) (gB (lay left B r c))):=λleft r c h=>by
   rw[KD A B,OG hap.symm h,KD _ A];have:=iY hB h;exact ih (by omega) hA (hB.lay r c) (hap.symm.lay r c).symm
  rw[same_iff];refine⟨λx hx=>?_,λy hy=>?_,λx hx=>?_,λy hy=>?_⟩
  .obtain⟨r,c,h,rfl⟩:=(qO (hA.uL hB)).1 hx
   rcases(q8 hap).1 h with h|h
   .exact⟨_,kr.2 (.inl ⟨_,(qO hA).2 ⟨r,c,h,rfl⟩,rfl⟩),sA _ _ _ h⟩
   .exact⟨_,kr.2 (.inr ⟨_,(qO hB).2 ⟨r,c,h,rfl⟩,rfl⟩),sB _ _ _ h⟩
  .rcases kr.1 hy with⟨z,hz,rfl⟩|⟨z,hz,rfl⟩
   .obtain⟨r,c,h,rfl⟩:=(qO hA).1 hz
    exact⟨_,(qO (hA.uL hB)).2 ⟨r,c,(q8 hap).2 (.inl h),rfl⟩,sA _ _ _ h⟩
   .obtain⟨r,c,h,rfl⟩:=(qO hB).1 hz
    exact⟨_,(qO (hA.uL hB)).2 ⟨r,c,(q8 hap).2 (.inr h),rfl⟩,sB _ _ _ h⟩
  .obtain⟨r,c,h,rfl⟩:=(qN (hA.uL hB)).1 hx
   rcases(q8 hap).1 h with h|h
   .exact⟨_,ko.2 (.inl ⟨_,(qN hA).2 ⟨r,c,h,rfl⟩,rfl⟩),sA _ _ _ h⟩
   .exact⟨_,ko.2 (.inr ⟨_,(qN hB).2 ⟨r,c,h,rfl⟩,rfl⟩),sB _ _ _ h⟩
  .rcases ko.1 hy with⟨z,hz,rfl⟩|⟨z,hz,rfl⟩
   .obtain⟨r,c,h,rfl⟩:=(qN hA).1 hz
    exact⟨_,(qN (hA.uL hB)).2 ⟨r,c,(q8 hap).2 (.inl h),rfl⟩,sA _ _ _ h⟩
   .obtain⟨r,c,h,rfl⟩:=(qN hB).1 hz
    exact⟨_,(qN (hA.uL hB)).2 ⟨r,c,(q8 hap).2 (.inr h),rfl⟩,sB _ _ _ h⟩
theorem Zw{A B:Cs}(h:Apart A B):cnt (uL A B)=cnt A+cnt B:=by
 unfold cnt;have key:∀l:List (Nat × Nat),l.countP (λp=>uL A B p.1 p.2)=l.countP (λp=>A p.1 p.2)+l.countP λp=>B p.1 p.2:=by
  intro l
  induction l with
  |nil=>rfl
  |cons q l ih=>
   rw[j6,j6,j6,ih];have:=h.no q.1 q.2;cases hA:A q.1 q.2 <;> cases hB:B q.1 q.2 <;> simp_all [uL] <;> omega
 exact key _
theorem cnt_mono{A B:Cs}(h:∀x y,A x y=true->B x y=true):cnt A<=cnt B:=List.countP_mono_left λ_ _ k=>h _ _ k
theorem Rb{S T:Cs}{a b:Nat}(hS:Bd S)(hab:∀r c,S r c=true->a<=r/\b<=c)(hST:∀r c,T r c=S (r+a) (c+b)):cnt T=cnt S:=by
 have hT:Bd T:=λr c h=>by rw[hST]at h;have:=hS _ _ h;omega
 have key:∀n {S T:Cs},cnt S<=n->Bd S->Bd T->(∀r c,S r c=true->a<=r/\b<=c)->(∀r c,T r c=S (r+a) (c+b))->cnt T=cnt S:=by
  intro n
  induction n with
  |zero=>
   intro S T hn hS hT hab hST;have e:∀r c,S r c=false:=λr c=>by
    cases h:S r c with
    |false=>rfl
    |true=>have:=xx hS h;omega
   have:cnt T=0:=(by unfold cnt;rw[List.countP_eq_zero];intro p _;simp[hST,e]);omega
  |succ n ih=>
   intro S T hn hS hT hab hST;by_cases h0:cnt S=0
   .exact ih (by omega) hS hT hab hST
   .obtain⟨p,hp,hs⟩:=List.countP_pos_iff.1 (show 0<grid.countP (λp=>S p.1 p.2) from by unfold cnt at h0;omega)
    obtain⟨r,c⟩:=p;obtain⟨h1,h2⟩:=hab r c hs;obtain⟨r',rfl⟩:∃r',r=r'+a:=⟨r-a,by omega⟩;obtain⟨c',rfl⟩:∃c',c=c'+b:=⟨c-b,by omega⟩;have hs':T r' c'=true:=(by rw[hST];exact hs);have a1:=rM (hS _ _ hs) hs;have a2:=rM (hT _ _ hs') hs';have:=ih (S:=rm S (r'+a) (c'+b)) (T:=rm T r' c') (by simp only at a1;omega) (λx y k=>hS x y (kW.1 k).1) (λx y k=>hT x y (kW.1 k).1) (λx y k=>hab x y (kW.1 k).1) (λx y=>by
     have e:∀u v w:Nat,(u+w == v+w)=(u == v):=λu v w=>by rw[jy];simp
     simp only[rm,hST,e])
    simp only at a1;omega
 exact key _ (ay _) hS hT hab hST
end Go.Proofs.YteknjeohbcgpdaaGreatDoor.bO
namespace Go.Proofs.YteknjeohbcgpdaaGreatDoor.bO
variable {S P U:Cs} {r c x y a b:Nat}
structure Grown(S P P':Cs):Prop where
 more:∀x y,P x y=true->P' x y=true
 only:∀x y,P' x y=true->P x y=true\/S x y=true
 shut:∀x y u v,P' x y=true->P x y=false->IA x y u v->S u v=true->P' u v=true
theorem Grown.refl(S P:Cs):Grown S P P:=⟨λ_ _ h=>h,λ_ _ h=>.inl h,λx y _ _ h k=>by rw[h]at k;cases k⟩
theorem Grown.trans{Q R:Cs}(h:Grown S P Q)(k:Grown S Q R):Grown S P R:=by
 refine⟨λx y a=>k.more _ _ (h.more _ _ a),λx y a=>?_,λx y u v a b n s=>?_⟩
 .rcases k.only _ _ a with e|e
  .exact h.only _ _ e
  .exact .inr e
 .cases e:Q x y with
  |true=>exact k.more _ _ (h.shut _ _ _ _ e b n s)
  |false=>exact k.shut _ _ _ _ a e n s
def ad(P:Cs)(r c:Nat):Cs:=λx y=>P x y || (x == r && y == c)
theorem qD:ad P r c x y=true↔P x y=true\/(x=r/\y=c):=by simp[ad]
theorem oO:IA r c x y↔(x+1=r/\y=c)\/(x=r+1/\y=c)\/(x=r/\y+1=c)\/(x=r/\y=c+1):=by
 constructor
 .rintro(⟨left,e,f⟩|⟨left,e,f⟩)<;> cases left <;> simp[rD,pK]at e f <;> omega
 .rintro(⟨e,f⟩|⟨e,f⟩|⟨e,f⟩|⟨e,f⟩)
  .exact .inr ⟨true,by simp[rD];omega,by simp[pK];omega⟩
  .exact .inl ⟨true,by simp[rD];omega,by simp[pK];omega⟩
  .exact .inr ⟨false,by simp[rD];omega,by simp[pK];omega⟩
  .exact .inl ⟨false,by simp[rD];omega,by simp[pK];omega⟩
theorem ni{P4:Cs}(hs:S r c=true)(h:Grown S (ad P r c) P4)(hn:∀x y,IA r c x y->S x y=true->P4 x y=true):Grown S P P4:=by
 refine⟨λx y a=>h.more _ _ (qD.2 (.inl a)),λx y a=>?_,λx y u v a b n s=>?_⟩
 .rcases h.only _ _ a with e|e
  .rcases qD.1 e with e|⟨rfl,rfl⟩
   .exact .inl e
   .exact .inr hs
  .exact .inr e
 .by_cases e:x=r/\y=c
  .obtain⟨rfl,rfl⟩:=e;exact hn _ _ n s
  .exact h.shut _ _ _ _ a (by cases k:ad P r c x y with|false=>rfl|true=>rcases qD.1 k with k|k;(rw[k]at b;cases b);exact absurd k e) n s
def sub(S U:Cs):Cs:=λx y=>S x y && !U x y
theorem mo:sub S U x y=true↔S x y=true/\U x y=false:=by simp[sub]
def none_:Cs:=λ_ _=>false
def D6:List Cs->Cs
 |[]=>none_
 |P :: l=>uL (D6 l) P
def uz:List Cs->Prop
 |[]=>True
 |P :: l=>Apart (D6 l) P/\uz l
def Ba(S U:Cs):Prop:=(∀x y,U x y=true->S x y=true)/\∀x y u v,U x y=true->IA x y u v->S u v=true->U u v=true
theorem P9(S:Cs):Ba S none_:=⟨λ_ _ h=>(by cases h),λ_ _ _ _ h=>(by cases h)⟩
theorem LX(hU:Ba S U)(h:Grown (sub S U) none_ P):Ba S (uL U P)/\Apart U P:=by
 have hP:∀x y,P x y=true->S x y=true/\U x y=false:=λx y k=>by
  rcases h.only _ _ k with e|e
  .cases e
  .exact mo.1 e
 refine⟨⟨λx y k=>?_,λx y u v k n s=>?_⟩,λx y a b=>?_,λx y u v a b n=>?_⟩
 .rcases jY.1 k with k|k
  .exact hU.1 _ _ k
  .exact(hP _ _ k).1
 .rcases jY.1 k with k|k
  .exact jY.2 (.inl (hU.2 _ _ _ _ k n s))
  .cases e:U u v with
   |true=>exact jY.2 (.inl e)
   |false=>exact jY.2 (.inr (h.shut _ _ _ _ k rfl n (mo.2 ⟨s,e⟩)))
 .have:=(hP _ _ b).2;rw[a]at this;cases this
 .have:=hU.2 _ _ _ _ a n (hP _ _ b).1
  rw[(hP _ _ b).2]at this;cases this
theorem Yd(S U P:Cs):sub (sub S U) P=sub S (uL U P):=by
 funext x y;simp[sub,uL,Bool.and_assoc]
theorem Pt:∀{l:List Cs},(∀P,P∈l->Bd P)->Bd (D6 l)
 |[],_=>λ_ _ h=>by cases h
 |_ :: _,h=>Bd.uL (Pt λP hP=>h P (lV _ hP)) (h _ (mX ..))
theorem KJ:cnt none_=0:=by unfold cnt;rw[List.countP_eq_zero];simp[none_]
theorem Pk:gB none_=I7:=by rw[gB,KJ];rfl
def kB:Nat->Nat
 | 0=>1
 | 1=>1
 |n+2=>1+2*(n+2)*kB n
theorem Uw(h:a+b<=9):kB a*kB b<=kB (a+b):=by
 have:∀a,a<10->∀b,b<10->a+b<=9->kB a*kB b<=kB (a+b):=by decide
 exact this a (by omega) b (by omega) h
theorem abL(h:a+b<=9)(ha:0<a)(hb:0<b):kB a+kB b<=kB (a+b):=by
 have:∀a,a<10->∀b,b<10->a+b<=9->0<a->0<b->kB a+kB b<=kB (a+b):=by decide
 exact this a (by omega) b (by omega) h ha hb
theorem YI(h:a<=b)(hb:b<=9):kB a<=kB b:=by
 have:∀b,b<10->∀a,a<10->a<=b->kB a<=kB b:=by decide
 exact this b (by omega) a (by omega) h
theorem kB_9{n:Nat}(h:n<=9):kB n<=17911:=by
 have:∀n,n<10->kB n<=17911:=by decide
 exact this n (by omega)
end Go.Proofs.YteknjeohbcgpdaaGreatDoor.bO
namespace Go.Proofs.YteknjeohbcgpdaaGreatDoor.bO
variable {h w r c:Nat} {left:Bool} {x:List UInt8}
abbrev fw:=List (List UInt8)
structure GB(b:fw)(h w:Nat):Prop where
 hgt:b.length=h
 h1:1<=h/\h<=8
 w1:1<=w/\w<=8
 row:∀r,r∈b->r.length=w/\∀c,c∈r->c=46\/c=35
def at_(b:fw)(r c:Nat):UInt8:=(b.getD r []).getD c 0
def fr(b:fw):Cs:=λr c=>at_ b r c == 46
def mH(b:fw)(r c:Nat):fw:=b.set r ((b.getD r []).set c 35)
def wS(left:Bool)(b:fw)(r c:Nat):fw:=mH (mH b r c) (rD left r) (pK left c)
def gX(b:fw):Nat:=(b.map λr=>r.countP (· == 46)).sum
theorem GB.Az{b:fw}(g:GB b h w)(k:fr b r c=true):r<h/\c<w:=by
 unfold fr at_ at k;by_cases hr:r<b.length
 .rw[aj,aj,aa hr]at k
  simp only[bW]at k;have:=(g.row _ (ai hr)).1;by_cases hc:c<(b[r]).length
  .exact⟨by have:=g.hgt;omega,by omega⟩
  .rw[ek (by omega)]at k;exact absurd k (by decide)
 .rw[aj,aj (l:=b),ek (Nat.le_of_not_lt hr)]at k;exact absurd k (by simp)
theorem GB.bd{b:fw}(g:GB b h w):Bd (fr b):=λr c k=>by
 have:=g.Az k;have:=g.h1;have:=g.w1;omega
theorem A7{b:fw}(hr:r<b.length)(c:Nat):at_ b r c=(b[r]).getD c 0:=by
 unfold at_;rw[aj (l:=b),aa hr];rfl
theorem GB.mH{b:fw}{h w:Nat}(g:GB b h w)(r c:Nat):GB (mH b r c) h w:=by
 refine⟨by simp[bO.mH,g.hgt],g.h1,g.w1,λx hx=>?_⟩;unfold bO.mH at hx;rcases List.mem_or_eq_of_mem_set hx with e|e
 .exact g.row x e
 .by_cases hr:r<b.length
  .have hg:=g.row _ (ai hr)
   rw[aj,aa hr,bW]at e;subst e;refine⟨by rw[eO];exact hg.1,λc hc=>?_⟩;rcases List.mem_or_eq_of_mem_set hc with k|k
   .exact hg.2 c k
   .exact .inr k
  .rw[List.set_eq_of_length_le (by omega)]at hx
   exact g.row x hx
theorem Pn{b:fw}(g:GB b h w)(hr:r<h):fr (mH b r c)=rm (fr b) r c:=by
 have hb:=g.hgt;apply AQ;intro x y;rw[kW];unfold fr;by_cases hx:x<b.length
 .have hx':x<(mH b r c).length:=by simp[mH];exact hx
  rw[A7 hx',A7 hx];by_cases e:x=r
  .subst e
   have h1:(mH b x c)[x]=(b[x]).set c 35:=by
    simp only[mH,List.getElem_set_self,aj,aa hx,bW]
   rw[h1,aj,aj,eX];by_cases e2:y=c
   .subst e2
    simp only[true_and,not_true_eq_false,and_false,iff_false,if_true];by_cases hy:y<(b[x]).length <;> simp[hy]
   .have:¬c=y:=λk=>e2 k.symm
    simp[this,e2]
  .have h1:(mH b r c)[x]=b[x]:=by
    simp only[mH];rw[List.getElem_set_ne (λk=>e k.symm)]
   rw[h1];simp[e]
 .have h1:at_ (mH b r c) x y=0:=by
   unfold at_;rw[aj (l:=mH b r c),ek (by simp[mH];omega)];rfl
  have h2:at_ b x y=0:=by
   unfold at_;rw[aj (l:=b),ek (by omega)];rfl
  rw[h1,h2];simp
theorem GB.wS{b:fw}{h w:Nat}(g:GB b h w)(left:Bool)(r c:Nat):GB (wS left b r c) h w:=(g.mH r c).mH _ _
theorem Ns{b:fw}(g:GB b h w)(k:can left (fr b) r c=true):fr (wS left b r c)=lay left (fr b) r c:=by
 obtain⟨k1,k2⟩:=iZ.1 k;unfold bO.wS lay;rw[Pn (g.mH r c) (g.Az k2).1,Pn g (g.Az k1).1]
def pq(left:Bool)(b:fw)(r k:Nat):List fw:=((List.range k).filter λc=>can left (fr b) r c).map λc=>wS left b r c
def iM(left:Bool)(b:fw)(w k:Nat):List fw:=(List.range k).flatMap λr=>pq left b r w
theorem FP(left:Bool)(b:fw)(r k:Nat):pq left b r (k+1)=pq left b r k++if can left (fr b) r k=true then [wS left b r k]else []:=by
 unfold pq;rw[qK,List.filter_append,bG];by_cases h:can left (fr b) r k=true <;> simp[h]
theorem su(left:Bool)(b:fw)(w k:Nat):iM left b w (k+1)=iM left b w k++pq left b k w:=by
 unfold iM;rw[qK,List.flatMap_append];simp
theorem vk{b:fw}(g:GB b h w){x:fw}:x∈iM left b w h↔∃r c,can left (fr b) r c=true/\x=wS left b r c:=by
 unfold iM pq;simp only[List.mem_flatMap,dM,aH,fU];constructor
 .rintro⟨r,_,c,⟨_,k⟩,rfl⟩;exact⟨r,c,k,rfl⟩
 .rintro⟨r,c,k,rfl⟩
  obtain⟨k1,_⟩:=iZ.1 k;have:=g.Az k1;exact⟨r,this.1,c,⟨this.2,k⟩,rfl⟩
theorem zq(left:Bool)(b:fw)(r k:Nat):(pq left b r k).length<=k:=by
 unfold pq;rw[bD];exact dn (rz _ _) (by simp)
theorem vw(left:Bool)(b:fw)(w k:Nat):(iM left b w k).length<=k*w:=by
 induction k with
 |zero=>simp[iM]
 |succ k ih=>rw[su,aK,uI];have:=zq left b k w;omega
theorem DY{b:fw}(g:GB b h w)(left:Bool){x:Gm}:x∈(if left then(gB (fr b)).l else(gB (fr b)).r)↔∃y,y∈iM left b w h/\x=gB (fr y):=by
 have key:(∃r c,can left (fr b) r c=true/\x=gB (lay left (fr b) r c))↔∃y,y∈iM left b w h/\x=gB (fr y):=by
  constructor
  .rintro⟨r,c,k,e⟩;exact⟨_,(vk g).2 ⟨r,c,k,rfl⟩,by rw[e,Ns g k]⟩
  .rintro⟨y,hy,e⟩
   obtain⟨r,c,k,rfl⟩:=(vk g).1 hy;exact⟨r,c,k,by rw[e,Ns g k]⟩
 cases left with
 |true=>simp only[if_true];rw[qO g.bd];exact key
 |false=>simp only[lF,if_false];rw[qN g.bd];exact key
theorem FD{α:Type}(d:α)(f:α->Nat)(hf:f d=0):∀(n:Nat) (l:List α),l.length<=n->((List.range n).map λi=>f (l.getD i d)).sum=(l.map f).sum:=by
 intro n
 induction n with
 |zero=>intro l hl;have:l=[]:=fK (by omega);subst this;rfl
 |succ n ih=>
  intro l hl;cases l with
  |nil=>
   have:=ih [] (by simp);rw[qK,bG,List.sum_append,this];simp[hf]
  |cons a l=>
   rw[List.range_succ_eq_map,lM,gM,List.sum_cons,lM,List.sum_cons];congr 1;have:=ih l (by simpa using hl);rw[<-this];congr 1
theorem AR{b:fw}(g:GB b h w):cnt (fr b)=gX b:=by
 unfold cnt grid gX;rw[List.countP_flatMap];have h8:b.length<=8:=by rw[g.hgt];exact g.h1.2
 rw[<-FD [] (λr=>r.countP (· == 46)) (by simp) 8 b h8];congr 1;apply df;intro r hr;simp only[Function.comp_def,List.countP_map];have hl:(b.getD r []).length<=8:=by
  rw[aj];by_cases c:r<b.length
  .rw[aa c];simp only[bW];have:=(g.row _ (ai c)).1;have:=g.w1;omega
  .rw[ek (by omega)];simp
 have:=FD (0:UInt8) (λc=>if c == 46 then 1 else 0) (by decide) 8 (b.getD r []) hl;have key:∀{α:Type} (p:α->Bool) (l:List α),l.countP p=(l.map λx=>if p x then 1 else 0).sum:=by
  intro α p l
  induction l with
  |nil=>rfl
  |cons a l ih=>rw[j6,lM,List.sum_cons,ih];cases p a <;> simp <;> omega
 rw[key,key];exact this
def rowOk(w:Nat)(r:List UInt8):Bool:=decide (1<=r.length) && decide (r.length<=8) && decide (r.length=w) && r.all λc=>c == 46 || c == 35
def iG(b:fw):Bool:=decide (1<=b.length) && decide (b.length<=8) && b.all (rowOk (b.getD 0 []).length)
theorem nK{b:fw}:iG b=true↔∃h w,GB b h w:=by
 unfold iG rowOk;simp only[dK,decide_eq_true_eq,mM,Bool.or_eq_true,beq_iff_eq];constructor
 .rintro⟨⟨h1,h2⟩,h3⟩
  have h0:0<b.length:=by omega
  have e:b.getD 0 []=b[0]:=by rw[aj,aa h0];rfl
  have q:=h3 _ (ai h0);refine⟨b.length,(b.getD 0 []).length,rfl,⟨h1,h2⟩,by rw[e];exact⟨q.1.1.1,q.1.1.2⟩,λr hr=>⟨(h3 r hr).1.2,(h3 r hr).2⟩⟩
 .rintro⟨h,w,g⟩
  have h0:0<b.length:=by have:=g.hgt;have:=g.h1;omega
  have e:b.getD 0 []=b[0]:=by rw[aj,aa h0];rfl
  have q:=(g.row _ (ai h0)).1;have:=g.hgt;have:=g.h1;have:=g.w1;exact⟨⟨by omega,by omega⟩,λr hr=>⟨⟨⟨by rw[(g.row r hr).1];omega,by rw[(g.row r hr).1];omega⟩,by rw[e,q,(g.row r hr).1]⟩,(g.row r hr).2⟩⟩
def fD:fw->List UInt8
 |[]=>[]
 |[r]=>r
 |r :: s :: t=>r++47 :: fD (s :: t)
theorem kV(r s:List UInt8)(t:fw):fD (r :: s :: t)=r++47 :: fD (s :: t):=rfl
theorem PV(b:fw)(r:List UInt8)(h:b≠[]):fD (b++[r])=fD b++47 :: r:=by
 induction b with
 |nil=>exact absurd rfl h
 |cons a b ih=>
  cases b with
  |nil=>rfl
  |cons c b=>rw[List.cons_append,List.cons_append,kV,<-List.cons_append,ih (by simp),kV];simp
theorem Qe{r r' x':List UInt8}(h:∀c,c∈r->c≠47)(h':∀c,c∈r'->c≠47)(e:r++47 :: x=r'++47 :: x'):r=r'/\x=x':=by
 induction r generalizing r' with
 |nil=>
  cases r' with
  |nil=>simp at e;exact⟨rfl,e⟩
  |cons a l=>simp at e;exact absurd e.1.symm (h' a (by simp))
 |cons a l ih=>
  cases r' with
  |nil=>simp at e;exact absurd e.1 (h a (by simp))
  |cons a' l'=>
   simp only[List.cons_append,jQ]at e;obtain⟨rfl,e⟩:=e;obtain⟨k1,k2⟩:=ih (λc hc=>h c (by simp[hc])) (λc hc=>h' c (by simp[hc])) e;exact⟨by rw[k1],k2⟩
theorem Jc:∀{b b':fw},(∀r,r∈b->∀c,c∈r->c≠47)->(∀r,r∈b'->∀c,c∈r->c≠47)->b≠[]->b'≠[]->fD b=fD b'->b=b'
 |[],_,_,_,h,_,_=>absurd rfl h
 |_,[],_,_,_,h,_=>absurd rfl h
 |[r],[r'],_,_,_,_,e=>by simp only[fD]at e;rw[e]
 |[r],r' :: s' :: t',h,_,_,_,e=>by
  simp only[fD]at e;exact absurd rfl (h r (by simp) 47 (by rw[e];simp))
 |r :: s :: t,[r'],_,h',_,_,e=>by
  simp only[fD]at e;exact absurd rfl (h' r' (by simp) 47 (by rw[<-e];simp))
 |r :: s :: t,r' :: s' :: t',h,h',_,_,e=>by
  rw[kV,kV]at e;obtain⟨k1,k2⟩:=Qe (h r (by simp)) (h' r' (by simp)) e;have:=Jc (λx hx=>h x (by simp only[eT]at hx ⊢;exact .inr hx)) (λx hx=>h' x (by simp only[eT]at hx ⊢;exact .inr hx)) (by simp) (by simp) k2;rw[k1,this]
theorem GB.abE{b:fw}(g:GB b h w):∀r,r∈b->∀c,c∈r->c≠47:=λr hr c hc e=>by
 rcases(g.row r hr).2 c hc with k|k <;> rw[e]at k <;> exact absurd k (by decide)
theorem GB.ne{b:fw}(g:GB b h w):b≠[]:=λe=>by have:=g.hgt;have:=g.h1;rw[e]at *;simp at *;omega
theorem GB.inj{b b':fw}{h' w':Nat}(g:GB b h w)(g':GB b' h' w')(e:fD b=fD b'):b=b':=Jc g.abE g'.abE g.ne g'.ne e
theorem CS(b:fw):(fD b).countP (· == 46)=gX b:=by
 unfold gX
 induction b with
 |nil=>rfl
 |cons r t ih=>
  cases t with
  |nil=>simp[fD]
  |cons s t=>
   rw[kV,List.countP_append,j6,ih];simp
def vary:List UInt8->List (List UInt8)
 |[]=>[[]]
 |c :: t=>if c=46 then(vary t).map (46 :: ·)++(vary t).map (35 :: ·)else(vary t).map (c :: ·)
theorem Sw(l:List UInt8):(vary l).length=2 ^ l.countP (· == 46):=by
 induction l with
 |nil=>rfl
 |cons c t ih=>
  rw[vary,j6];by_cases h:c=46
  .rw[if_pos h];simp[h,ih,Nat.pow_succ];omega
  .rw[if_neg h];simp[h,ih]
theorem PT(l:List UInt8):l∈vary l:=by
 induction l with
 |nil=>simp[vary]
 |cons c t ih=>
  rw[vary];by_cases h:c=46
  .subst h;simp[ih]
  .rw[if_neg h];simp[ih]
inductive Marks:List UInt8->List UInt8->Prop
 |nil:Marks [] []
 |cons (c:UInt8) {x y:List UInt8}:Marks x y->Marks (c :: x) (c :: y)
 |mark {x y:List UInt8}:Marks x y->Marks (46 :: x) (35 :: y)
theorem Marks.refl:∀l,Marks l l
 |[]=>.nil
 |c :: l=>.cons c (Marks.refl l)
theorem Marks.app{a b c d:List UInt8}(h:Marks a b)(k:Marks c d):Marks (a++c) (b++d):=by
 induction h with
 |nil=>exact k
 |cons c _ ih=>exact .cons c ih
 |mark _ ih=>exact .mark ih
theorem PS{m m':List UInt8}(h:m∈vary x)(k:Marks m m'):m'∈vary x:=by
 induction x generalizing m m' with
 |nil=>
  simp only[vary,lC]at h;subst h;cases k;simp[vary]
 |cons c t ih=>
  rw[vary]at h ⊢;by_cases e:c=46
  .rw[if_pos e,bq,aH,aH]at h ⊢
   rcases h with⟨a,ha,rfl⟩|⟨a,ha,rfl⟩
   .cases k with
    |cons _ k=>exact .inl ⟨_,ih ha k,rfl⟩
    |mark k=>exact .inr ⟨_,ih ha k,rfl⟩
   .cases k with
    |cons _ k=>exact .inr ⟨_,ih ha k,rfl⟩
  .rw[if_neg e,aH]at h ⊢
   obtain⟨a,ha,rfl⟩:=h;cases k with
   |cons _ k=>exact⟨_,ih ha k,rfl⟩
   |mark k=>exact absurd rfl e
theorem Marks.set{r:List UInt8}{c:Nat}(h:∀x,x∈r->x=46\/x=35):Marks r (r.set c 35):=by
 induction r generalizing c with
 |nil=>exact .nil
 |cons a t ih=>
  cases c with
  |zero=>
   rcases h a (by simp)with e|e
   .subst e;exact .mark (Marks.refl t)
   .subst e;exact .cons _ (Marks.refl t)
  |succ c=>exact .cons _ (ih λx hx=>h x (by simp[hx]))
theorem Marks.trans{y z:List UInt8}(h:Marks x y)(k:Marks y z):Marks x z:=by
 induction h generalizing z with
 |nil=>exact k
 |cons c _ ih=>
  cases k with
  |cons _ k=>exact .cons _ (ih k)
  |mark k=>exact .mark (ih k)
 |mark _ ih=>
  cases k with
  |cons _ k=>exact .mark (ih k)
theorem CR:∀{b b':fw},b.length=b'.length->(∀i (h:i<b.length) (h':i<b'.length),Marks b[i] b'[i])->Marks (fD b) (fD b')
 |[],[],_,_=>.nil
 |[],_ :: _,h,_=>by simp at h
 |_ :: _,[],h,_=>by simp at h
 |[r],[r'],_,k=>k 0 (by simp) (by simp)
 |[_],_ :: _ :: _,h,_=>by simp at h
 |_ :: _ :: _,[_],h,_=>by simp at h
 |r :: s :: t,r' :: s' :: t',h,k=>by
  rw[kV,kV];exact(k 0 (by simp) (by simp)).app (.cons 47 (CR (by simpa using h) λi h1 h2=>k (i+1) (by simp at h1 ⊢;omega) (by simp at h2 ⊢;omega)))
theorem CY{b:fw}(g:GB b h w)(r c:Nat):Marks (fD b) (fD (mH b r c)):=by
 refine CR (by simp[mH]) λi h1 h2=>?_
 by_cases e:r=i
 .subst e
  have q:(mH b r c)[r]=(b[r]).set c 35:=by
   simp only[mH,List.getElem_set_self,aj,aa h1,bW]
  rw[q];exact Marks.set (g.row _ (ai h1)).2
 .have q:(mH b r c)[i]=b[i]:=by simp only[mH];rw[List.getElem_set_ne e]
  rw[q];exact Marks.refl _
theorem Qm{b:fw}(g:GB b h w)(left:Bool)(r c:Nat):Marks (fD b) (fD (wS left b r c)):=(CY g r c).trans (CY (g.mH r c) _ _)
end Go.Proofs.YteknjeohbcgpdaaGreatDoor.bO
namespace Go.Proofs.YteknjeohbcgpdaaGreatDoor
open bO
variable {S:Cs} {r c x y a b:Nat}
inductive kZ(S:Cs)(r c:Nat):Nat->Nat->Prop
 |here:S r c=true->kZ S r c r c
 |step {x y u v:Nat}:kZ S r c x y->IA x y u v->S u v=true->kZ S r c u v
theorem kZ.cell(h:kZ S r c x y):S x y=true:=by cases h <;> assumption
theorem kZ.start(h:kZ S r c x y):S r c=true:=by
 induction h with
 |here h=>exact h
 |step _ _ _ ih=>exact ih
theorem kZ.cons(hs:S r c=true)(n:IA r c a b)(h:kZ S a b x y):kZ S r c x y:=by
 induction h with
 |here h=>exact .step (.here hs) n h
 |step _ n' s ih=>exact .step ih n' s
theorem kZ.trans(h:kZ S r c a b)(k:kZ S a b x y):kZ S r c x y:=by
 induction k with
 |here _=>exact h
 |step _ n s ih=>exact .step ih n s
theorem kZ.symm{S:Cs}{r c x y:Nat}(h:kZ S r c x y):kZ S x y r c:=by
 induction h with
 |here h=>exact .here h
 |step h n s ih=>exact kZ.cons s n.symm ih
theorem Hy{U:Cs}(hU:∀x y u v,U x y=true->IA x y u v->S u v=true->U u v=true)(h:kZ S r c x y)(k:U r c=true):U x y=true:=by
 induction h with
 |here _=>exact k
 |step _ n s ih=>exact hU _ _ _ _ ih n s
theorem Gh(hs:S r c=true)(hn:(a=r/\b=c)\/IA r c a b)(h:kZ S a b x y):kZ S r c x y:=by
 rcases hn with⟨rfl,rfl⟩|hn
 .exact h
 .exact kZ.cons hs hn h
end Go.Proofs.YteknjeohbcgpdaaGreatDoor