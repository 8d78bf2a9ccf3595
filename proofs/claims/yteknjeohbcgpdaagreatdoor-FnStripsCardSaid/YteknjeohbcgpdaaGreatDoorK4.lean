/-
  Plain law: boards as rows of letters, their free cells, the domino laid on them, their texts; no condition. (6 texts.)
-/
import Derived.Test.YteknjeohbcgpdaaGreatDoorK3
namespace Go.Proofs.YteknjeohbcgpdaaGreatDoor.bz
variable {g h k x:Gm}
theorem EI(SL:Gm->Prop)
 (cover:∀l,l∈g.l->∃i,SL i/\Ge i l)
 (step:∀i,SL i->(∃x,x∈h.l/\Ge x i)\/(∃k,k∈i.r/\Ge g k/\∀x,x∈k.l->SL x))
 (QZ:∀r,r∈h.r->¬Ge g r):Ge h g:=by
 have main:∀n i,sizeOf i<n->SL i->¬Ge i h:=by
  intro n
  induction n with
  |zero=>intro i h0;omega
  |succ n ih=>
   intro i hn hi hg;rcases step i hi with⟨x,hx,k⟩|⟨k,hk,hgk,hc⟩
   .exact nV hx (dW _ _ _ k hg)
   .refine((iU i h).1 hg).1 k hk ?_
    rw[iU];refine⟨λr hr c=>QZ r hr (dW _ _ _ hgk c),λx hx c=>?_⟩;have h1:=Gm.kL hk;have h2:=Gm.kM hx;exact ih x (by omega) (hc x hx) c
 rw[iU];refine⟨QZ,λl hl c=>?_⟩;obtain⟨i,hi,k⟩:=cover l hl;exact main _ i (uh _) hi (dW _ _ _ k c)
theorem EH(SR:Gm->Prop)
 (cover:∀r,r∈g.r->∃i,SR i/\Ge r i)
 (step:∀i,SR i->(∃x,x∈h.r/\Ge i x)\/(∃k,k∈i.l/\Ge k g/\∀x,x∈k.r->SR x))
 (Q0:∀l,l∈h.l->¬Ge l g):Ge g h:=by
 have main:∀n i,sizeOf i<n->SR i->¬Ge h i:=by
  intro n
  induction n with
  |zero=>intro i h0;omega
  |succ n ih=>
   intro i hn hi hg;rcases step i hi with⟨x,hx,k⟩|⟨k,hk,hgk,hc⟩
   .exact nU hx (dW _ _ _ hg k)
   .refine((iU h i).1 hg).2 k hk ?_
    rw[iU];refine⟨λx hx c=>?_,λl hl c=>Q0 l hl (dW _ _ _ c hgk)⟩;have h1:=Gm.kM hk;have h2:=Gm.kL hx;exact ih x (by omega) (hc x hx) c
 rw[iU];refine⟨λr hr c=>?_,Q0⟩;obtain⟨i,hi,k⟩:=cover r hr;exact main _ i (uh _) hi (dW _ _ _ c k)
theorem MX(hk:Ge g k)(hx:x∈k.l):¬Ge x g:=λc=>nV hx (dW _ _ _ c hk)
theorem MW(hk:Ge k g)(hx:x∈k.r):¬Ge g x:=λc=>nU hx (dW _ _ _ hk c)
theorem stays{α:Type}(ge:α->α->Prop)(refl:∀a,ge a a)(trans:∀a b c,ge a b->ge b c->ge a c)
 (l:List α) (Xa:∀a b,a∈l->b∈l->ge a b->ge b a->a=b):
 ∀a,a∈l->∃b,b∈l/\ge b a/\∀c,c∈l->ge c b->c=b:=by
 classical
 have main:∀n a,a∈l->(l.filter (λc=>decide (ge c a))).length<=n->∃b,b∈l/\ge b a/\∀c,c∈l->ge c b->c=b:=by
  intro n
  induction n with
  |zero=>
   intro a ha hn;have:a∈l.filter (λc=>decide (ge c a)):=(by simp[ha,refl]);have:=List.length_pos_of_mem this;omega
  |succ n ih=>
   intro a ha hn;by_cases h:∃c,c∈l/\ge c a/\c≠a
   .obtain⟨c,hc,Vg,hne⟩:=h
    have hlt:(l.filter (λd=>decide (ge d c))).length<(l.filter (λd=>decide (ge d a))).length:=by
     have e:l.filter (λd=>decide (ge d c))=(l.filter (λd=>decide (ge d a))).filter (λd=>decide (ge d c)):=by
      rw[List.filter_filter];refine List.filter_congr λd _=>?_
      by_cases h1:ge d c
      .simp[h1,trans _ _ _ h1 Vg]
      .simp[h1]
     rw[e];have hm:a∈l.filter (λd=>decide (ge d a)):=(by simp[ha,refl]);have hna:¬ge a c:=λk=>hne (Xa c a hc ha Vg k)
     refine Nat.lt_of_le_of_ne (jQ _ _) λe2=>?_
     have:=(List.filter_eq_self.1 (List.filter_sublist.eq_of_length e2)) a hm;simp[hna]at this
    obtain⟨b,hb,hbc,hmax⟩:=ih c hc (by omega);exact⟨b,hb,trans _ _ _ hbc Vg,hmax⟩
   .exact⟨a,ha,refl a,λc hc Vg=>Classical.byContradiction λhne=>h ⟨c,hc,Vg,hne⟩⟩
 intro a ha;exact main _ a ha (ai _)
end Go.Proofs.YteknjeohbcgpdaaGreatDoor.bz
namespace Go.Proofs.YteknjeohbcgpdaaGreatDoor.bz
variable {a b x:Gm}
def plus:Gm->Gm->Gm
 |a,b=>.mk ((a.l.attach.map λx=>plus x.1 b)++b.l.attach.map λy=>plus a y.1) ((a.r.attach.map λx=>plus x.1 b)++b.r.attach.map λy=>plus a y.1)
termination_by a b=>sizeOf a+sizeOf b
decreasing_by
 .have:=Gm.kM x.2;omega
 .have:=Gm.kM y.2;omega
 .have:=Gm.kL x.2;omega
 .have:=Gm.kL y.2;omega
theorem FU(a b:Gm):plus a b=.mk ((a.l.map λx=>plus x b)++b.l.map λy=>plus a y) ((a.r.map λx=>plus x b)++b.r.map λy=>plus a y):=by
 rw[plus];simp
theorem iw:x∈(plus a b).l↔(∃y,y∈a.l/\plus y b=x)\/(∃y,y∈b.l/\plus a y=x):=by
 rw[FU];simp[Gm.l]
theorem iq:x∈(plus a b).r↔(∃y,y∈a.r/\plus y b=x)\/(∃y,y∈b.r/\plus a y=x):=by
 rw[FU];simp[Gm.r]
theorem mI{a a' b b':Gm}(h:Same a a')(k:Same b b'):Same (plus a b) (plus a' b'):=by
 rw[same_iff];obtain⟨h1,h2,h3,h4⟩:=(same_iff _ _).1 h;obtain⟨k1,k2,k3,k4⟩:=(same_iff _ _).1 k;refine⟨λx hx=>?_,λy hy=>?_,λx hx=>?_,λy hy=>?_⟩
 .rcases iw.1 hx with⟨z,hz,rfl⟩|⟨z,hz,rfl⟩
  .obtain⟨u,hu,s⟩:=h1 z hz;exact⟨_,iw.2 (.inl ⟨u,hu,rfl⟩),mI s k⟩
  .obtain⟨u,hu,s⟩:=k1 z hz;exact⟨_,iw.2 (.inr ⟨u,hu,rfl⟩),mI h s⟩
 .rcases iw.1 hy with⟨z,hz,rfl⟩|⟨z,hz,rfl⟩
  .obtain⟨u,hu,s⟩:=h2 z hz;exact⟨_,iw.2 (.inl ⟨u,hu,rfl⟩),mI s k⟩
  .obtain⟨u,hu,s⟩:=k2 z hz;exact⟨_,iw.2 (.inr ⟨u,hu,rfl⟩),mI h s⟩
 .rcases iq.1 hx with⟨z,hz,rfl⟩|⟨z,hz,rfl⟩
  .obtain⟨u,hu,s⟩:=h3 z hz;exact⟨_,iq.2 (.inl ⟨u,hu,rfl⟩),mI s k⟩
  .obtain⟨u,hu,s⟩:=k3 z hz;exact⟨_,iq.2 (.inr ⟨u,hu,rfl⟩),mI h s⟩
 .rcases iq.1 hy with⟨z,hz,rfl⟩|⟨z,hz,rfl⟩
  .obtain⟨u,hu,s⟩:=h4 z hz;exact⟨_,iq.2 (.inl ⟨u,hu,rfl⟩),mI s k⟩
  .obtain⟨u,hu,s⟩:=k4 z hz;exact⟨_,iq.2 (.inr ⟨u,hu,rfl⟩),mI h s⟩
termination_by sizeOf a+sizeOf b
decreasing_by
 all_goals first
  |(have:=Gm.kM hz;omega)
  |(have:=Gm.kM hu;omega)
  |(have:=Gm.kL hz;omega)
  |(have:=Gm.kL hu;omega)
theorem jI(a b:Gm):Same (plus a b) (plus b a):=by
 rw[same_iff];refine⟨λx hx=>?_,λy hy=>?_,λx hx=>?_,λy hy=>?_⟩
 .rcases iw.1 hx with⟨z,hz,rfl⟩|⟨z,hz,rfl⟩
  .exact⟨_,iw.2 (.inr ⟨z,hz,rfl⟩),jI _ _⟩
  .exact⟨_,iw.2 (.inl ⟨z,hz,rfl⟩),jI _ _⟩
 .rcases iw.1 hy with⟨z,hz,rfl⟩|⟨z,hz,rfl⟩
  .exact⟨_,iw.2 (.inr ⟨z,hz,rfl⟩),jI _ _⟩
  .exact⟨_,iw.2 (.inl ⟨z,hz,rfl⟩),jI _ _⟩
 .rcases iq.1 hx with⟨z,hz,rfl⟩|⟨z,hz,rfl⟩
  .exact⟨_,iq.2 (.inr ⟨z,hz,rfl⟩),jI _ _⟩
  .exact⟨_,iq.2 (.inl ⟨z,hz,rfl⟩),jI _ _⟩
 .rcases iq.1 hy with⟨z,hz,rfl⟩|⟨z,hz,rfl⟩
  .exact⟨_,iq.2 (.inr ⟨z,hz,rfl⟩),jI _ _⟩
  .exact⟨_,iq.2 (.inl ⟨z,hz,rfl⟩),jI _ _⟩
termination_by sizeOf a+sizeOf b
decreasing_by
 all_goals first
  |(have:=Gm.kM hz;omega)
  |(have:=Gm.kL hz;omega)
theorem qC(x y b:Gm):Ge (plus x b) (plus y b)↔Ge x y:=by
 constructor
 .intro h
  obtain⟨h1,h2⟩:=(iU _ _).1 h;rw[iU];exact⟨λr hr g=>h1 _ (iq.2 (.inl ⟨r,hr,rfl⟩)) ((qC y r b).2 g),λl hl g=>h2 _ (iw.2 (.inl ⟨l,hl,rfl⟩)) ((qC l x b).2 g)⟩
 .intro h
  obtain⟨h1,h2⟩:=(iU _ _).1 h;rw[iU];refine⟨λr hr g=>?_,λl hl g=>?_⟩
  .rcases iq.1 hr with⟨z,hz,rfl⟩|⟨z,hz,rfl⟩
   .exact h1 z hz ((qC y z b).1 g)
   .exact((iU _ _).1 g).1 _ (iq.2 (.inr ⟨z,hz,rfl⟩)) ((qC x y z).2 h)
  .rcases iw.1 hl with⟨z,hz,rfl⟩|⟨z,hz,rfl⟩
   .exact h2 z hz ((qC z x b).1 g)
   .exact((iU _ _).1 g).2 _ (iw.2 (.inr ⟨z,hz,rfl⟩)) ((qC x y z).2 h)
termination_by sizeOf x+sizeOf y+sizeOf b
decreasing_by
 all_goals first
  |(have:=Gm.kL hr;omega)
  |(have:=Gm.kM hl;omega)
  |(have:=Gm.kL hz;omega)
  |(have:=Gm.kM hz;omega)
theorem qc{a' b':Gm}(h:iK a a')(k:iK b b'):iK (plus a b) (plus a' b'):=by
 have p:∀{u v:Gm} (c:Gm),iK u v->iK (plus u c) (plus v c):=λc e=>⟨(qC _ _ c).2 e.1,(qC _ _ c).2 e.2⟩
 exact(p b h).trans ((jI a' b).eqv.trans ((p a' k).trans (jI b' a').eqv))
def nM:Gm:=.mk [] []
theorem lY(a:Gm):Same (plus a nM) a:=by
 rw[same_iff];refine⟨λx hx=>?_,λy hy=>⟨_,iw.2 (.inl ⟨y,hy,rfl⟩),lY y⟩,λx hx=>?_,λy hy=>⟨_,iq.2 (.inl ⟨y,hy,rfl⟩),lY y⟩⟩
 .rcases iw.1 hx with⟨z,hz,rfl⟩|⟨z,hz,rfl⟩
  .exact⟨z,hz,lY z⟩
  .cases hz
 .rcases iq.1 hx with⟨z,hz,rfl⟩|⟨z,hz,rfl⟩
  .exact⟨z,hz,lY z⟩
  .cases hz
termination_by sizeOf a
decreasing_by
 all_goals first
  |exact Gm.kM hy
  |exact Gm.kL hy
  |exact Gm.kM hz
  |exact Gm.kL hz
end Go.Proofs.YteknjeohbcgpdaaGreatDoor.bz
namespace Go.Proofs.YteknjeohbcgpdaaGreatDoor
open bz (dC Gm Canon iK fq eu Same plus)
variable {F G:dC} {g:Gm}
def gQ(F:dC):Bool:=decide (1<=F.length/\F.length<=120/\∀i (h:i<F.length),(F[i]).1.length<=24/\(F[i]).2.length<=24)
def fu(F:dC)(g:Gm):Prop:=fq F/\∃c,Same (eu F) c/\Canon c/\iK c g
theorem fu.eqv{F:dC}{g:Gm}(h:fu F g):iK (eu F) g:=by
 obtain⟨_,c,h1,_,h2⟩:=h;exact h1.eqv.trans h2
theorem fu.to{g':Gm}(h:fu F g)(e:iK g g'):fu F g':=by
 obtain⟨i,c,h1,h2,h3⟩:=h;exact⟨i,c,h1,h2,h3.trans e⟩
theorem fu.unique(h:fu F g)(k:fu G g):F=G:=by
 obtain⟨i1,g1,s1,c1,e1⟩:=h;obtain⟨i2,g2,s2,c2,e2⟩:=k;exact bz.A9 i1 i2 (bz.ik s1 (bz.ik (bz.kQ c1 c2 (e1.trans e2.symm)) (bz.kJ s2)))
theorem fu.sum{H F':dC}{a b:Gm}(hF:fu F a)(hG:fu G b)(hH:Same (eu H) (plus (eu F) (eu G)))(i:fq F')(s:Same (eu F') g)(c:Canon g)(e:iK g (eu H)):fu F' (plus a b):=
 ⟨i,g,s,c,e.trans (hH.eqv.trans (bz.qc hF.eqv hG.eqv))⟩
end Go.Proofs.YteknjeohbcgpdaaGreatDoor
namespace Go.Proofs.YteknjeohbcgpdaaGreatDoor.bz
variable {r c x y:Nat}
abbrev Cs:=Nat->Nat->Bool
def rm(S:Cs)(r c:Nat):Cs:=λx y=>S x y && !(x == r && y == c)
def VH(left:Bool)(r:Nat):Nat:=if left then r+1 else r
def VI(left:Bool)(c:Nat):Nat:=if left then c else c+1
def can(left:Bool)(S:Cs)(r c:Nat):Bool:=S r c && S (VH left r) (VI left c)
def lay(left:Bool)(S:Cs)(r c:Nat):Cs:=rm (rm S r c) (VH left r) (VI left c)
def Bd(S:Cs):Prop:=∀r c,S r c=true->r<8/\c<8
def grid:List (Nat × Nat):=(List.range 8).flatMap λr=>(List.range 8).map λc=>(r,c)
def cnt(S:Cs):Nat:=grid.countP λp=>S p.1 p.2
def Nc(left:Bool)(S:Cs):List Cs:=(grid.filter λp=>can left S p.1 p.2).map λp=>lay left S p.1 p.2
def gF:Nat->Cs->Gm
 | 0,_=>.mk [] []
 |n+1,S=>.mk ((Nc true S).map (gF n)) ((Nc false S).map (gF n))
def gB(S:Cs):Gm:=gF (cnt S) S
theorem aa7{S:Cs}(h:rm S r c x y=true):S x y=true/\¬(x=r/\y=c):=by
 simp only[rm,eP,mi,Bool.and_eq_false_iff,beq_eq_false_iff_ne]at h;exact⟨h.1,λe=>by rcases h.2 with k|k;exact k e.1;exact k e.2⟩
theorem Rj{S:Cs}:rm S r c x y=true↔S x y=true/\¬(x=r/\y=c):=
 ⟨aa7,λ⟨h,k⟩=>by
  simp only[rm,eP,mi,Bool.and_eq_false_iff,beq_eq_false_iff_ne];refine⟨h,?_⟩;by_cases e:x=r
  .exact .inr λe'=>k ⟨e,e'⟩
  .exact .inl e⟩
theorem Nr{left:Bool}{S:Cs}:lay left S r c x y=true↔S x y=true/\¬(x=r/\y=c)/\¬(x=VH left r/\y=VI left c):=by
 rw[lay,Rj,Rj,and_assoc]
theorem ZV{A B:Cs}(h:∀x y,A x y=true↔B x y=true):A=B:=by
 funext x y;have:=h x y;cases hA:A x y <;> cases hB:B x y <;> simp_all
theorem Bd.lay{left:Bool}{S:Cs}(h:Bd S)(r c:Nat):Bd (lay left S r c):=λx y k=>h x y (Nr.1 k).1
def ZU(A B:Cs):Cs:=λx y=>A x y || B x y
theorem WO{A B:Cs}:ZU A B x y=true↔A x y=true\/B x y=true:=by simp[ZU]
def Nbr(r c x y:Nat):Prop:=(∃left,x=VH left r/\y=VI left c)\/∃left,r=VH left x/\c=VI left y
theorem Nbr.symm(h:Nbr r c x y):Nbr x y r c:=h.elim .inr .inl
structure Apart(A B:Cs):Prop where
 no:∀r c,A r c=true->B r c=true->False
 by_:∀r c x y,A r c=true->B x y=true->Nbr r c x y->False
theorem Apart.sub{A B A' B':Cs}(h:Apart A B)(hA:∀x y,A' x y=true->A x y=true)(hB:∀x y,B' x y=true->B x y=true):Apart A' B':=
 ⟨λr c a b=>h.no r c (hA _ _ a) (hB _ _ b),λr c x y a b=>h.by_ r c x y (hA _ _ a) (hB _ _ b)⟩
theorem Apart.symm{A B:Cs}(h:Apart A B):Apart B A:=⟨λr c a b=>h.no r c b a,λr c x y a b n=>h.by_ x y r c b a n.symm⟩
theorem Bd.ZU{A B:Cs}(hA:Bd A)(hB:Bd B):Bd (ZU A B):=λr c h=>(WO.1 h).elim (hA r c) (hB r c)
theorem Apart.lay{left:Bool}{A B:Cs}(h:Apart A B)(r c:Nat):Apart (lay left A r c) B:=h.sub (λ_ _ k=>(Nr.1 k).1) (λ_ _ k=>k)
end Go.Proofs.YteknjeohbcgpdaaGreatDoor.bz
namespace Go.Proofs.YteknjeohbcgpdaaGreatDoor.bz
variable {S P:Cs} {r c:Nat}
structure Grown(S P P':Cs):Prop where
 more:∀x y,P x y=true->P' x y=true
 only:∀x y,P' x y=true->P x y=true\/S x y=true
 shut:∀x y u v,P' x y=true->P x y=false->Nbr x y u v->S u v=true->P' u v=true
theorem Grown.refl(S P:Cs):Grown S P P:=⟨λ_ _ h=>h,λ_ _ h=>.inl h,λx y _ _ h k=>by rw[h]at k;cases k⟩
theorem Grown.trans{Q R:Cs}(h:Grown S P Q)(k:Grown S Q R):Grown S P R:=by
 refine⟨λx y a=>k.more _ _ (h.more _ _ a),λx y a=>?_,λx y u v a b n s=>?_⟩
 .rcases k.only _ _ a with e|e
  .exact h.only _ _ e
  .exact .inr e
 .cases e:Q x y with
  |true=>exact k.more _ _ (h.shut _ _ _ _ e b n s)
  |false=>exact k.shut _ _ _ _ a e n s
def ad(P:Cs)(r c:Nat):Cs:=λx y=>P x y || (x == r && y == c)
theorem MF{x y:Nat}:ad P r c x y=true↔P x y=true\/(x=r/\y=c):=by simp[ad]
theorem qm{P4:Cs}(hs:S r c=true)(h:Grown S (ad P r c) P4)(hn:∀x y,Nbr r c x y->S x y=true->P4 x y=true):Grown S P P4:=by
 refine⟨λx y a=>h.more _ _ (MF.2 (.inl a)),λx y a=>?_,λx y u v a b n s=>?_⟩
 .rcases h.only _ _ a with e|e
  .rcases MF.1 e with e|⟨rfl,rfl⟩
   .exact .inl e
   .exact .inr hs
  .exact .inr e
 .by_cases e:x=r/\y=c
  .obtain⟨rfl,rfl⟩:=e;exact hn _ _ n s
  .exact h.shut _ _ _ _ a (by cases k:ad P r c x y with|false=>rfl|true=>rcases MF.1 k with k|k;(rw[k]at b;cases b);exact absurd k e) n s
def sub(S U:Cs):Cs:=λx y=>S x y && !U x y
def none_:Cs:=λ_ _=>false
def WN:List Cs->Cs
 |[]=>none_
 |P :: l=>ZU (WN l) P
def GQ:List Cs->Prop
 |[]=>True
 |P :: l=>Apart (WN l) P/\GQ l
def Z9(S U:Cs):Prop:=(∀x y,U x y=true->S x y=true)/\∀x y u v,U x y=true->Nbr x y u v->S u v=true->U u v=true
def kB:Nat->Nat
 | 0=>1
 | 1=>1
 |n+2=>1+2*(n+2)*kB n
end Go.Proofs.YteknjeohbcgpdaaGreatDoor.bz
namespace Go.Proofs.YteknjeohbcgpdaaGreatDoor.bz
variable {h w:Nat}
abbrev rZ:=List (List UInt8)
structure GB(b:rZ)(h w:Nat):Prop where
 hgt:b.length=h
 h1:1<=h/\h<=8
 w1:1<=w/\w<=8
 row:∀r,r∈b->r.length=w/\∀c,c∈r->c=46\/c=35
def at_(b:rZ)(r c:Nat):UInt8:=(b.getD r []).getD c 0
def fr(b:rZ):Cs:=λr c=>at_ b r c == 46
def FN(b:rZ)(r c:Nat):rZ:=b.set r ((b.getD r []).set c 35)
def plc(left:Bool)(b:rZ)(r c:Nat):rZ:=FN (FN b r c) (VH left r) (VI left c)
def adh(b:rZ):Nat:=(b.map λr=>r.countP (· == 46)).sum
theorem GB.in_{b:rZ}(g:GB b h w){r c:Nat}(k:fr b r c=true):r<h/\c<w:=by
 unfold fr at_ at k;by_cases hr:r<b.length
 .rw[aV,aV,aa hr]at k
  simp only[gz]at k;have:=(g.row _ (ah hr)).1;by_cases hc:c<(b[r]).length
  .exact⟨by have:=g.hgt;omega,by omega⟩
  .rw[iC (by omega)]at k;exact absurd k (by decide)
 .rw[aV,aV (l:=b),iC (Nat.le_of_not_lt hr)]at k;exact absurd k (by simp)
theorem GB.bd{b:rZ}(g:GB b h w):Bd (fr b):=λr c k=>by
 have:=g.in_ k;have:=g.h1;have:=g.w1;omega
theorem GB.FN{b:rZ}{h w:Nat}(g:GB b h w)(r c:Nat):GB (FN b r c) h w:=by
 refine⟨by simp[bz.FN,g.hgt],g.h1,g.w1,λx hx=>?_⟩;unfold bz.FN at hx;rcases List.mem_or_eq_of_mem_set hx with e|e
 .exact g.row x e
 .by_cases hr:r<b.length
  .have hg:=g.row _ (ah hr)
   rw[aV,aa hr,gz]at e;subst e;refine⟨by rw[gH];exact hg.1,λc hc=>?_⟩;rcases List.mem_or_eq_of_mem_set hc with k|k
   .exact hg.2 c k
   .exact .inr k
  .rw[List.set_eq_of_length_le (by omega)]at hx
   exact g.row x hx
theorem GB.plc{b:rZ}{h w:Nat}(g:GB b h w)(left:Bool)(r c:Nat):GB (plc left b r c) h w:=(g.FN r c).FN _ _
def VL(left:Bool)(b:rZ)(r k:Nat):List rZ:=((List.range k).filter λc=>can left (fr b) r c).map λc=>plc left b r c
def YD(left:Bool)(b:rZ)(w k:Nat):List rZ:=(List.range k).flatMap λr=>VL left b r w
def rowOk(w:Nat)(r:List UInt8):Bool:=decide (1<=r.length) && decide (r.length<=8) && decide (r.length=w) && r.all λc=>c == 46 || c == 35
def TL(b:rZ):Bool:=decide (1<=b.length) && decide (b.length<=8) && b.all (rowOk (b.getD 0 []).length)
def qM:rZ->List UInt8
 |[]=>[]
 |[r]=>r
 |r :: s :: t=>r++47 :: qM (s :: t)
theorem Er(r s:List UInt8)(t:rZ):qM (r :: s :: t)=r++47 :: qM (s :: t):=rfl
theorem OC{r r' x x':List UInt8}(h:∀c,c∈r->c≠47)(h':∀c,c∈r'->c≠47)(e:r++47 :: x=r'++47 :: x'):r=r'/\x=x':=by
 induction r generalizing r' with
 |nil=>
  cases r' with
  |nil=>simp at e;exact⟨rfl,e⟩
  |cons a l=>simp at e;exact absurd e.1.symm (h' a (by simp))
 |cons a l ih=>
  cases r' with
  |nil=>simp at e;exact absurd e.1 (h a (by simp))
  |cons a' l'=>
   simp only[List.cons_append,jU]at e;obtain⟨rfl,e⟩:=e;obtain⟨k1,k2⟩:=ih (λc hc=>h c (by simp[hc])) (λc hc=>h' c (by simp[hc])) e;exact⟨by rw[k1],k2⟩
theorem Ic:∀{b b':rZ},(∀r,r∈b->∀c,c∈r->c≠47)->(∀r,r∈b'->∀c,c∈r->c≠47)->b≠[]->b'≠[]->qM b=qM b'->b=b'
 |[],_,_,_,h,_,_=>absurd rfl h
 |_,[],_,_,_,h,_=>absurd rfl h
 |[r],[r'],_,_,_,_,e=>by simp only[qM]at e;rw[e]
 |[r],r' :: s' :: t',h,_,_,_,e=>by
  simp only[qM]at e;exact absurd rfl (h r (by simp) 47 (by rw[e];simp))
 |r :: s :: t,[r'],_,h',_,_,e=>by
  simp only[qM]at e;exact absurd rfl (h' r' (by simp) 47 (by rw[<-e];simp))
 |r :: s :: t,r' :: s' :: t',h,h',_,_,e=>by
  rw[Er,Er]at e;obtain⟨k1,k2⟩:=OC (h r (by simp)) (h' r' (by simp)) e;have:=Ic (λx hx=>h x (by simp only[dD]at hx ⊢;exact .inr hx)) (λx hx=>h' x (by simp only[dD]at hx ⊢;exact .inr hx)) (by simp) (by simp) k2;rw[k1,this]
theorem GB.abf{b:rZ}(g:GB b h w):∀r,r∈b->∀c,c∈r->c≠47:=λr hr c hc e=>by
 rcases(g.row r hr).2 c hc with k|k <;> rw[e]at k <;> exact absurd k (by decide)
theorem GB.ne{b:rZ}(g:GB b h w):b≠[]:=λe=>by have:=g.hgt;have:=g.h1;rw[e]at *;simp at *;omega
theorem GB.inj{b b':rZ}{h' w':Nat}(g:GB b h w)(g':GB b' h' w')(e:qM b=qM b'):b=b':=Ic g.abf g'.abf g.ne g'.ne e
end Go.Proofs.YteknjeohbcgpdaaGreatDoor.bz