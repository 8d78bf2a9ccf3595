/-
  The program's pool with its map of negatives: what a call of neg leaves, its own two lists; no condition. (6 texts.)
-/
import Derived.Test.YteknjeohbcgpdaaGreatDoorK31
namespace Go.Proofs.YteknjeohbcgpdaaGreatDoor.bz
def ng:Gm->Gm
 | .mk l r=>.mk (r.attach.map λx=>ng x.1) (l.attach.map λx=>ng x.1)
termination_by g=>SizeOf.sizeOf g
decreasing_by
 .have:=List.sizeOf_lt_of_mem x.2;simp;omega
 .have:=List.sizeOf_lt_of_mem x.2;simp;omega
end Go.Proofs.YteknjeohbcgpdaaGreatDoor.bz
namespace Go.Proofs.YteknjeohbcgpdaaGreatDoor
open bz
end Go.Proofs.YteknjeohbcgpdaaGreatDoor
namespace Go.Proofs.YteknjeohbcgpdaaGreatDoor.bz
def CE(x z:Gm):Prop:=∃y,Same x y/\Canon y/\iK y z
theorem CE.uniq{a b z:Gm}(h:CE a z)(k:CE b z):Same a b:=by
 obtain⟨y,h1,h2,h3⟩:=h;obtain⟨x,k1,k2,k3⟩:=k;exact ik h1 (ik (kQ h2 k2 (h3.trans k3.symm)) (kJ k1))
section
variable {S T:Cs} (hB:Bd S) (h9:cnt S<=9)
def ly(S:Cs)(m:Bool × Nat × Nat):Cs:=lay m.1 S m.2.1 m.2.2
theorem FZ{E:dC}(hE:Good E){l:List Nat}{m:List Gm}(hl:Asc l)(hlt:∀x,x∈l->x<E.length)(h:∀x,x∈l->∃y,y∈m/\CE (vl E x) y):l.length<=m.length:=by
 have:=BM (n:=l.length) (at_:=List.range m.length) (R:=λi j=>∃(hi:i<l.length) (hj:j<m.length),CE (vl E l[i]) m[j]) (λi hi=>?_) (λi i' j hi hi' h1 h2=>?_)
 .simpa using this
 .obtain⟨y,hy,s⟩:=h _ (ah hi)
  obtain⟨j,hj,rfl⟩:=aO.1 hy;exact⟨j,dA.2 hj,hi,hj,s⟩
 .obtain⟨_,_,s1⟩:=h1
  obtain⟨_,_,s2⟩:=h2;have:=mW hE _ _ (hlt _ (ah hi)) (hlt _ (ah hi')) (s1.uniq s2);have hp:=dh.1 hl;rcases qZ i i' with c|c|c
  .have:=hp i i' hi hi' c;omega
  .exact c
  .have:=hp i' i hi' hi c;omega
end
end Go.Proofs.YteknjeohbcgpdaaGreatDoor.bz
namespace Go.Proofs.YteknjeohbcgpdaaGreatDoor.bz
variable {k:Nat} {s T:Stp} {x c:Gm} {C:Stp->Prop} {F:dC} {l:List Stp}
theorem PI:x∈(gS k s).l↔∃t,t∈jN k true s/\x=gS k t:=l9 (left:=true)
theorem PH:x∈(gS k s).r↔∃t,t∈jN k false s/\x=gS k t:=l9 (left:=false)
def Cov(k:Nat)(left:Bool)(T:Stp)(C:Stp->Prop):Prop:=(∀t,t∈jN k left T->C t)/\∀U,C U->∀b,b∈jN k (!left) U->∀d,d∈jN k left b->C d
theorem X9(hC:Cov k true T C)(hc:Canon c)(e:iK c (gS k T))(hx:x∈c.l):∃U,C U/\iK x (gS k U):=by
 obtain⟨y,hy,e2⟩:=AO (Q:=λd=>∃U,C U/\d=gS k U) hc e (λa ha b hb d hd=>by
  obtain⟨t,ht,rfl⟩:=PI.1 ha;obtain⟨u,hu,rfl⟩:=PH.1 hb;obtain⟨v,hv,rfl⟩:=PI.1 hd;exact⟨v,hC.2 t (hC.1 t ht) u hu v hv,rfl⟩) (λd hd e he f hf=>by
  obtain⟨t,ht,rfl⟩:=hd;obtain⟨u,hu,rfl⟩:=PH.1 he;obtain⟨v,hv,rfl⟩:=PI.1 hf;exact⟨v,hC.2 t ht u hu v hv,rfl⟩) hx
 rcases hy with hy|⟨U,hU,rfl⟩
 .obtain⟨t,ht,rfl⟩:=PI.1 hy
  exact⟨t,hC.1 t ht,e2⟩
 .exact⟨U,hU,e2⟩
theorem X8(hC:Cov k false T C)(hc:Canon c)(e:iK c (gS k T))(hx:x∈c.r):∃U,C U/\iK x (gS k U):=by
 obtain⟨y,hy,e2⟩:=AL (Q:=λd=>∃U,C U/\d=gS k U) hc e (λa ha b hb d hd=>by
  obtain⟨t,ht,rfl⟩:=PH.1 ha;obtain⟨u,hu,rfl⟩:=PI.1 hb;obtain⟨v,hv,rfl⟩:=PH.1 hd;exact⟨v,hC.2 t (hC.1 t ht) u hu v hv,rfl⟩) (λd hd e he f hf=>by
  obtain⟨t,ht,rfl⟩:=hd;obtain⟨u,hu,rfl⟩:=PI.1 he;obtain⟨v,hv,rfl⟩:=PH.1 hf;exact⟨v,hC.2 t ht u hu v hv,rfl⟩) hx
 rcases hy with hy|⟨U,hU,rfl⟩
 .obtain⟨t,ht,rfl⟩:=PH.1 hy
  exact⟨t,hC.1 t ht,e2⟩
 .exact⟨U,hU,e2⟩
theorem I6(hC:∀left t u,C t->u∈jN k left t->C u)(hs:C s)(hF:fu F (gS k s)):∀i,i<F.length->∃c T,Same (vl F i) c/\Canon c/\C T/\iK c (gS k T):=by
 obtain⟨hI,c,h1,h2,h3⟩:=hF;intro i hi;have hr:=hI.reach i hi;clear hi
 induction hr with
 |here=>exact⟨c,s,h1,h2,hs,h3⟩
 |left hr hd hk ih=>
  obtain⟨c',T,s,hc,hp,e⟩:=ih;rw[same_iff,om hI.good.wf hd]at s;obtain⟨y,hy,t⟩:=s.1 _ (aW hk);obtain⟨U,hU,e2⟩:=X9 (C:=C) ⟨λt ht=>hC _ _ _ hp ht,λU hU b hb d hd=>hC _ _ _ (hC _ _ _ hU hb) hd⟩ hc e hy;exact⟨y,U,t,hc.l hy,hU,e2⟩
 |right hr hd hk ih=>
  obtain⟨c',T,s,hc,hp,e⟩:=ih;rw[same_iff,oh hI.good.wf hd]at s;obtain⟨y,hy,t⟩:=s.2.2.1 _ (aW hk);obtain⟨U,hU,e2⟩:=X8 (C:=C) ⟨λt ht=>hC _ _ _ hp ht,λU hU b hb d hd=>hC _ _ _ (hC _ _ _ hU hb) hd⟩ hc e hy;exact⟨y,U,t,hc.r hy,hU,e2⟩
theorem Dh(hC:∀left t u,C t->u∈jN k left t->C u)(hl:∀t,C t->t∈l)(hs:C s)(hF:fu F (gS k s)):F.length<=l.length:=by
 have hn:=I6 hC hs hF;have:=FZ (m:=l.map (gS k)) hF.1.good (l:=List.range F.length) List.pairwise_lt_range (λx hx=>dA.1 hx) (λx hx=>by
  obtain⟨c,T,s,hc,hp,e⟩:=hn x (dA.1 hx);exact⟨_,aW (hl T hp),c,s,hc,e⟩)
 simpa using this
theorem Gn(hs:mU k s)(hF:fu F (gS k s)):F.length<=3 ^ live k s:=
 bU (Dh (C:=λt=>t∈rW k s) (λ_ _ _ ht hu=>oH ht hu) (λ_ h=>h) (rV hs) hF) (Du k s)
theorem NR(hC:∀left t u,C t->u∈jN k left t->C u)(hl:∀t,C t->t∈l)(hl2:l.length<=120)
 (ho:∀left T,C T->∃m:List Stp,m.length<=24/\Cov k left T λU=>U∈m) (hs:C s) (hF:fu F (gS k s)):gQ F=true:=by
 have hI:=hF.1;have hn:=I6 hC hs hF;have hlen:=Dh hC hl hs hF;have h0:=iY.2 hI.ne;unfold gQ;refine decide_eq_true ⟨h0,by omega,λi hi=>?_⟩;obtain⟨c,T,s,hc,hp,e⟩:=hn i hi;have hd:F[i]?=some F[i]:=aa hi;obtain⟨w1,w2⟩:=hI.good.wf i _ hd;rw[same_iff,om hI.good.wf hd,oh hI.good.wf hd]at s;have ha:=hI.good.BP _ (ah hi);refine⟨?_,?_⟩
 .obtain⟨m,hm,Zk⟩:=ho true T hp
  refine bU (FZ (m:=m.map (gS k)) hI.good ha.1 (λx hx=>Nat.lt_trans (w1 x hx) hi) (λx hx=>?_)) (by simpa using hm);obtain⟨y,hy,t⟩:=s.1 _ (aW hx);obtain⟨U,hU,e2⟩:=X9 Zk hc e hy;exact⟨_,aW hU,y,t,hc.l hy,e2⟩
 .obtain⟨m,hm,Zk⟩:=ho false T hp
  refine bU (FZ (m:=m.map (gS k)) hI.good ha.2 (λx hx=>Nat.lt_trans (w2 x hx) hi) (λx hx=>?_)) (by simpa using hm);obtain⟨y,hy,t⟩:=s.2.2.1 _ (aW hx);obtain⟨U,hU,e2⟩:=X8 Zk hc e hy;exact⟨_,aW hU,y,t,hc.r hy,e2⟩
end Go.Proofs.YteknjeohbcgpdaaGreatDoor.bz
namespace Go.Proofs.YteknjeohbcgpdaaGreatDoor.bz
theorem CF(k:Nat)(left:Bool)(s:Stp):(jN k left s).length<=2*s.length:=by
 have h1:∀i,(jH k left s i).length<=2:=λi=>by
  unfold jH;split
  .unfold gP;split
   .split
    .simp
    .split <;> simp
   .simp
  .split
   .unfold tJ fQ;rw[aj];split <;> split <;> simp
   .unfold lN;split <;> simp
 have key:∀n,((List.range n).flatMap (jH k left s)).length<=2*n:=λn=>by
  induction n with
  |zero=>simp
  |succ n ih=>rw[wV,List.flatMap_append,aj];have:=h1 n;simp only[gV,List.flatMap_nil,bq];omega
 exact key _
def F4(n:Nat):List Stp:=List.replicate n 46 :: (List.range n).flatMap λi=>[(List.replicate n (46:UInt8)).set i 76,(List.replicate n (46:UInt8)).set i 82]
theorem RG(n:Nat):(F4 n).length=1+2*n:=by
 have key:∀m,((List.range m).flatMap λi=>[(List.replicate n (46:UInt8)).set i 76,(List.replicate n (46:UInt8)).set i 82]).length=2*m:=λm=>by
  induction m with
  |zero=>simp
  |succ m ih=>rw[wV,List.flatMap_append,aj,ih];simp;omega
 simp only[F4,dO,key];omega
theorem sV(c:UInt8)(s:Stp):mS 1 (c :: s)=(if c=46 then 0 else 1)+mS 1 s:=by
 have sh:∀(s:Stp) (n m i j:Nat),sm (wt 1 n) i s=sm (wt 1 m) j s:=λs=>by
  induction s with
  |nil=>intro n m i j;rfl
  |cons x s ih=>intro n m i j;simp only[sm];rw[ih n m (i+1) (j+1)];simp[wt]
 unfold mS;simp only[sm];rw[sh s _ s.length _ 0];simp[wt]
theorem abj(s:Stp):mS 1 s<=s.length:=by
 induction s with
 |nil=>simp[mS,sm]
 |cons c s ih=>rw[sV,dO];split <;> omega
theorem Ht:∀{s:Stp},mS 1 s=0->s=List.replicate s.length 46
 |[],_=>rfl
 |c :: s,h=>by
  rw[sV]at h;by_cases hc:c=46
  .subst hc
   rw[if_pos rfl]at h;have:=Ht (s:=s) (by omega);rw[dO,kY,<-this]
  .rw[if_neg hc]at h;omega
theorem M8:∀{s:Stp},mU 1 s->mS 1 s<=1->s∈F4 s.length
 |[],_,_=>by simp[F4]
 |c :: s,hL,h=>by
  rw[sV]at h;have hs:mU 1 s:=λx hx=>hL x (by simp[hx])
  by_cases hc:c=46
  .subst hc
   have ih:=M8 hs (by omega);simp only[F4,dD,lH,dA]at ih ⊢;rcases ih with ih|⟨i,hi,ih⟩
   .left;rw[dO,kY,<-ih]
   .right
    refine⟨i+1,by simp;omega,?_⟩;rw[dO,kY,List.set_cons_succ,List.set_cons_succ];rcases ih with ih|ih|ih
    .left;rw[<-ih]
    .right;left;rw[<-ih]
    .cases ih
  .rw[if_neg hc]at h
   have hz:=Ht (s:=s) (by omega);have hm:c=46\/c=76\/c=82:=(by have:=hL c (by simp);simpa [qh]using this);simp only[F4,dD,lH,dA];right;refine⟨0,by simp,?_⟩;rw[dO,kY,List.set_cons_zero,List.set_cons_zero,<-hz];rcases hm with hm|hm|hm
   .exact absurd hm hc
   .left;rw[hm]
   .right;left;rw[hm]
theorem PT{t:Stp}(hL:mU 1 t)(h4:t.length<=4){F:dC}(hF:fu F (gS 1 t)):gQ F=true:=by
 refine NR (C:=λu=>u∈rW 1 t) (λ_ _ _ ht hu=>oH ht hu) (λ_ h=>h) ?_ (λleft T hT=>?_) (rV hL) hF
 .refine bU (Du 1 t) ?_
  rw[uH];exact bU (nY (by omega) h4) (by decide)
 .have hlT:T.length<=4:=by rw[Av hT];exact h4
  have hLT:=ve hL hT;refine⟨jN 1 left T++F4 T.length,?_,λt ht=>sJ _ ht,λU hU b hb d hd=>?_⟩
  .rw[aj,RG]
   have:=CF 1 left T;omega
  .have h1:=rC hb
   have h2:=rC hd;have hlb:=vS hb;have hld:=vS hd;have key:mS 1 U<=3/\mU 1 U/\U.length=T.length:=by
    rcases aK.1 hU with hU|hU
    .have:=rC hU;have:=abj T
     exact⟨by omega,rD hLT hU,vS hU⟩
    .refine⟨?_,?_⟩
     .have e:∀n,mS 1 (List.replicate n (46:UInt8))=0:=λn=>by
       induction n with
       |zero=>rfl
       |succ n ih=>rw[kY,sV,ih];rfl
      simp only[F4,dD,lH,dA]at hU;rcases hU with rfl|⟨i,hi,hU⟩
      .rw[e];omega
      .have g:=λa:UInt8=>Cb (wt 1 T.length) (List.replicate T.length 46) 0 i a 46 (by simp[hi])
       have z:mS 1 (List.replicate T.length (46:UInt8))=0:=e _;have w46:wt 1 T.length (0+i) 46=0:=(by simp[wt]);have w1:∀a,wt 1 T.length (0+i) a<=1:=λa=>by unfold wt;simp;split <;> omega
       unfold mS at z ⊢;rw[List.length_replicate]at z;rcases hU with rfl|rfl|hU
       .have:=g 76;have:=w1 76;rw[gH,List.length_replicate];omega
       .have:=g 82;have:=w1 82;rw[gH,List.length_replicate];omega
       .cases hU
     .simp only[F4,dD,lH,dA]at hU
      rcases hU with rfl|⟨i,hi,rfl|rfl|hU⟩
      .exact⟨λc hc=>by rw[(List.mem_replicate.1 hc).2];decide,by simp⟩
      .refine⟨λc hc=>?_,by simp⟩
       rcases List.mem_or_eq_of_mem_set hc with k|k
       .rw[(List.mem_replicate.1 k).2];decide
       .rw[k];decide
      .refine⟨λc hc=>?_,by simp⟩
       rcases List.mem_or_eq_of_mem_set hc with k|k
       .rw[(List.mem_replicate.1 k).2];decide
       .rw[k];decide
      .cases hU
   obtain⟨k1,k2,k3⟩:=key;refine nJ _ ?_;have:=M8 (s:=d) (rD (rD k2 hb) hd) (by omega);rw[hld,hlb,k3]at this;exact this
end Go.Proofs.YteknjeohbcgpdaaGreatDoor.bz
namespace Go.Proofs.YteknjeohbcgpdaaGreatDoor.bz
variable {k:Nat} {c:UInt8} {s t:Stp} {F:dC}
def okp(k:Nat)(c d:UInt8):Bool:=c == 46 || d == 46 || (if k=2 then c != d else c == d)
def nQ(k:Nat):Stp->Bool
 |[]=>true
 |[_]=>true
 |c :: d :: s=>okp k c d && nQ k (d :: s)
theorem Ep{k:Nat}:∀{s:Stp},nQ k s=true↔∀(i:Nat) (c d:UInt8),s[i]?=some c->s[i+1]?=some d->okp k c d=true
 |[]=>⟨λ_ i c d h=>by simp at h,λ_=>rfl⟩
 |[x]=>⟨λ_ i c d _ h=>by simp at h,λ_=>rfl⟩
 |x :: y :: s=>by
  rw[nQ,eP,Ep (s:=y :: s)];constructor
  .rintro⟨h1,h2⟩ i c d hc hd
   cases i with
   |zero=>simp at hc hd;subst hc;subst hd;exact h1
   |succ i=>exact h2 i c d (by simpa using hc) (by simpa using hd)
  .intro h
   exact⟨h 0 x y rfl rfl,λi c d hc hd=>h (i+1) c d (by simpa using hc) (by simpa using hd)⟩
theorem O9(hk:2<=k)(left:Bool)(h:c∈qh k):c=46\/c=o5 left\/c=J8 left:=by
 unfold qh at h;rw[if_neg (by omega)]at h;simp only[dD,List.not_mem_nil,or_false]at h;rcases h with h|h|h
 .exact .inl h
 .cases left
  .exact .inr (.inr h)
  .exact .inr (.inl h)
 .cases left
  .exact .inr (.inl h)
  .exact .inr (.inr h)
theorem M9(hk:2<=k)(left:Bool)(h:c∈qh k)(hb:c≠rU k left):okp k c (o5 left)=true/\okp k (o5 left) c=true:=by
 have hne:o5 left≠J8 left:=by cases left <;> decide
 unfold rU at hb;unfold okp;rcases O9 hk left h with rfl|rfl|rfl
 .simp
 .by_cases k2:k=2
  .rw[if_pos k2]at hb;exact absurd rfl hb
  .simp[k2]
 .by_cases k2:k=2
  .simp[k2,hne,Ne.symm hne]
  .rw[if_neg k2]at hb;exact absurd rfl hb
theorem sK(hk:2<=k){left:Bool}(hL:mU k s)(hv:nQ k s=true)(ht:t∈jN k left s):nQ k t=true:=by
 obtain⟨i,hi,rfl,hd⟩:=(kr hk).1 ht;have il:=fU hi;rw[Ep]at hv ⊢;intro j c d hc hd2;have get:∀(q:Nat) (x:UInt8),(s.set i (o5 left))[q]?=some x->(q=i/\x=o5 left)\/(q≠i/\s[q]?=some x):=λq x h=>by
  by_cases e:q=i
  .subst e
   rw[List.getElem?_set_self il]at h;exact .inl ⟨rfl,by injection h with h;exact h.symm⟩
  .rw[List.getElem?_set_ne (Ne.symm e)]at h;exact .inr ⟨e,h⟩
 have mem:∀(q:Nat) (x:UInt8),s[q]?=some x->x∈qh k:=λq x h=>hL x (dU h)
 rcases get j c hc with⟨e1,rfl⟩|⟨e1,h1⟩
 .rcases get (j+1) d hd2 with⟨e2,_⟩|⟨e2,h2⟩
  .omega
  .exact(M9 hk left (mem _ _ h2) (λe=>hd (j+1) (.inr (by omega)) (by rw[h2,e]))).2
 .rcases get (j+1) d hd2 with⟨e2,rfl⟩|⟨e2,h2⟩
  .exact(M9 hk left (mem _ _ h1) (λe=>hd j (.inl (by omega)) (by rw[h1,e]))).1
  .exact hv j c d h1 h2
def dw(left:Bool)(c:UInt8):Int:=if c=o5 left then 1 else if c=J8 left then -1 else 0
def df(left:Bool):Stp->Int
 |[]=>0
 |c :: s=>dw left c+df left s
theorem Mm(left:Bool):∀{s:Stp} {i:Nat} {a c:UInt8},s[i]?=some c->df left (s.set i a)+dw left c=df left s+dw left a
 |[],i,_,_,h=>by simp at h
 |x :: s,0,a,c,h=>by
  simp only[dQ,bJ]at h;subst h;simp only[List.set_cons_zero,df];omega
 |x :: s,i+1,a,c,h=>by
  simp only[dJ]at h;have:=Mm left (a:=a) h;simp only[List.set_cons_succ,df];omega
theorem Gr(hk:2<=k)(left:Bool):(t∈jN k left s->df left t=df left s+1)/\(t∈jN k (!left) s->df left t=df left s-1):=by
 constructor
 .intro h
  obtain⟨i,hi,rfl,_⟩:=(kr hk).1 h;have:=Mm left (a:=o5 left) hi;have e1:dw left 46=0:=by cases left <;> decide
  have e2:dw left (o5 left)=1:=by cases left <;> decide
  omega
 .intro h
  obtain⟨i,hi,rfl,_⟩:=(kr hk).1 h;have:=Mm left (a:=o5 (!left)) hi;have e1:dw left 46=0:=by cases left <;> decide
  have e2:dw left (o5 (!left))=-1:=by cases left <;> decide
  omega
def nD:Nat->Int->Nat
 | 0,x=>if x=0 then 1 else 0
 |m+1,x=>nD m x+nD m (x-1)+nD m (x+1)
theorem JK{k:Nat}(hk:2<=k)(left:Bool):∀(s:Stp) (d:Int),(rW k s).countP (λu=>df left u == d)=nD (live k s) (d-df left s)
 |[],d=>by
  show List.countP (λu=>df left u == d) [[]]=_;have:live k []=0:=rfl;rw[this];by_cases h:d=0
  .subst h;simp[df,nD]
  .simp[df,nD,h,Ne.symm h]
 |c :: s,d=>by
  have ih:=λd=>JK hk left s d
  unfold rW at ih ⊢;rw[oQ,List.countP_flatMap];have e46:dw left 46=0:=by cases left <;> decide
  have beq:∀a b x y:Int,(a=b↔x=y)->(a == b)=(x == y):=λa b x y h=>by
   rw[iW];simpa using h
  by_cases hc:c=46
  .subst hc
   have ho:oS k 46=[46,76,82]:=(by unfold oS qh;rw[if_pos (.inr rfl),if_neg (by omega)]);have hlv:live k (46 :: s)=live k s+1:=(by simp[live,tY]);rw[hlv,nD];have hone:∀t:Stp,List.countP (λu=>df left u == d) ((oS k 46).map λe=>e :: t)=(if (df left t == d)=true then 1 else 0)+(if (df left t == d-1)=true then 1 else 0)+(if (df left t == d+1)=true then 1 else 0):=λt=>by
    rw[ho];have e76:dw left 76=if left then 1 else -1:=by cases left <;> decide
    have e82:dw left 82=if left then -1 else 1:=by cases left <;> decide
    have q0:(df left (46 :: t)== d)=(df left t == d):=beq _ _ _ _ (by rw[df,e46];omega);cases left
    .have q1:(df false (76 :: t)== d)=(df false t == d+1):=beq _ _ _ _ (by rw[df,e76,if_neg (by decide)];omega)
     have q2:(df false (82 :: t)== d)=(df false t == d-1):=beq _ _ _ _ (by rw[df,e82,if_neg (by decide)];omega);simp only[eZ,lU,lJ,List.countP_nil,q0,q1,q2];omega
    .have q1:(df true (76 :: t)== d)=(df true t == d-1):=beq _ _ _ _ (by rw[df,e76,if_pos rfl];omega)
     have q2:(df true (82 :: t)== d)=(df true t == d+1):=beq _ _ _ _ (by rw[df,e82,if_pos rfl];omega);simp only[eZ,lU,lJ,List.countP_nil,q0,q1,q2];omega
   have hsum:∀l:List Stp,(l.map (List.countP (λu=>df left u == d) ∘ λt=>(oS k 46).map λe=>e :: t)).sum=l.countP (λu=>df left u == d)+l.countP (λu=>df left u == d-1)+l.countP (λu=>df left u == d+1):=λl=>by
    induction l with
    |nil=>rfl
    |cons t l ihl=>
     rw[eZ,jS,ihl,Function.comp,hone,lJ,lJ,lJ];omega
   rw[hsum,ih,ih,ih,df,e46];congr 1
   .congr 1
    .congr 1;omega
    .congr 1;omega
   .congr 1;omega
  .have hn:¬(k<=1\/c=46):=λh=>h.elim (λh=>by omega) hc
   have ho:oS k c=[c]:=(by unfold oS;rw[if_neg hn]);have hlv:live k (c :: s)=live k s:=by
    have:¬k<=1:=(by omega);simp[live,tY,hc,this]
   rw[hlv];have hone:∀t:Stp,List.countP (λu=>df left u == d) ((oS k c).map λe=>e :: t)=(if (df left t == d-dw left c)=true then 1 else 0):=λt=>by
    rw[ho];have q:(df left (c :: t)== d)=(df left t == d-dw left c):=beq _ _ _ _ (by rw[df];omega);simp only[eZ,lU,lJ,List.countP_nil,q,gK]
   have hsum:∀l:List Stp,(l.map (List.countP (λu=>df left u == d) ∘ λt=>(oS k c).map λe=>e :: t)).sum=l.countP (λu=>df left u == d-dw left c):=λl=>by
    induction l with
    |nil=>rfl
    |cons t l ihl=>
     rw[eZ,jS,ihl,Function.comp,hone,lJ];omega
   rw[hsum,ih,df];congr 1;omega
theorem RN:∀m,m<=4->nD m 1<=24:=by decide
theorem Af{k:Nat}(hk:2<=k):∀{s t:Stp},t∈rW k s->live k s<=live k t->t=s/\live k t=live k s
 |[],t,h,_=>by
  obtain rfl:t=[]:=by simpa [rW,oQ]using h
  exact⟨rfl,rfl⟩
 |c :: s,t,h,hl=>by
  obtain⟨d,u,rfl,hd,hu⟩:=jB.1 h;have lc:∀(x:UInt8) (r:Stp),live k (x :: r)=live k r+if x=46 then 1 else 0:=λx r=>by
   have:¬k<=1:=(by omega);by_cases e:x=46 <;> simp[live,tY,e,this]
  have le:∀{s t:Stp},t∈rW k s->live k t<=live k s:=λ{s}=>by
   induction s with
   |nil=>intro t h;obtain rfl:t=[]:=by simpa [rW,oQ]using h
         exact ai _
   |cons c s ih=>
    intro t h;obtain⟨d,u,rfl,hd,hu⟩:=jB.1 h;have:=ih hu;rw[lc,lc];by_cases hc:c=46
    .rw[if_pos hc];split <;> omega
    .unfold oS at hd
     rw[if_neg (λh=>h.elim (λh=>by omega) hc),eH]at hd;subst hd;rw[if_neg hc];omega
  have h1:=le hu;rw[lc,lc]at hl;by_cases hc:c=46
  .subst hc
   rw[if_pos rfl]at hl;by_cases hd6:d=46
   .subst hd6
    rw[if_pos rfl]at hl;obtain⟨e,e2⟩:=Af hk hu (by omega);subst e;exact⟨rfl,rfl⟩
   .rw[if_neg hd6]at hl;omega
  .unfold oS at hd
   rw[if_neg (λh=>h.elim (λh=>by omega) hc),eH]at hd;subst hd;rw[if_neg hc]at hl;obtain⟨e,e2⟩:=Af hk hu (by omega);subst e;exact⟨rfl,rfl⟩
def ends:List (Option UInt8):=[none,some 76,some 82]
theorem TU:∀k,k∈[2,3]->∀p,p∈ends->∀q,q∈ends->((rW k (p.toList++List.replicate 5 46++q.toList)).filter (nQ k)).length<=120:=by decide +kernel
theorem PM:∀k,k∈[2,3]->∀p,p∈ends->∀q,q∈ends->∀left,left∈[true,false]->((rW k (p.toList++List.replicate 5 46++q.toList)).filter λu=>nQ k u && df left u == df left (p.toList++List.replicate 5 46++q.toList)+1).length<=24:=by decide +kernel
theorem Oi(k:Nat)(hk:k=2\/k=3):∀n,n<=5->1<=n->∀p,p∈ends->∀q,q∈ends->nQ k (p.toList++List.replicate n 46++q.toList)=true:=by
 have:∀k,k∈[2,3]->∀n,n<6->1<=n->∀p,p∈ends->∀q,q∈ends->nQ k (p.toList++List.replicate n 46++q.toList)=true:=by decide +kernel
 exact λn h1 h2 p hp q hq=>this k (by rcases hk with rfl|rfl <;> simp) n (by omega) h2 p hp q hq
theorem I9(hk:2<=k){p:Option UInt8}(h1:∀x,p=some x->x≠46)(h2:∀c,c∈p.toList->c∈qh k):p∈ends:=by
 cases p with
 |none=>simp[ends]
 |some x=>
  have:=h1 x rfl;have h:=h2 x (by simp);unfold qh at h;rw[if_neg (by omega)]at h;simp only[dD,List.not_mem_nil,or_false]at h;rcases h with h|h|h
  .exact absurd h this
  .subst h;simp[ends]
  .subst h;simp[ends]
theorem Q6{n:Nat}(hk:k=2\/k=3)(hL:mU k t)(hr:Fp n t)(h1:1<=n)(h5:n<=5)(hF:fu F (gS k t)):gQ F=true:=by
 have hk2:2<=k:=by omega
 have hlive:=hr.live hk2;obtain⟨p,q,hp,hq,rfl⟩:=hr;have mp:=I9 hk2 hp λc hc=>hL c (by simp only[aK];exact .inl (.inl hc))
 have mq:=I9 hk2 hq λc hc=>hL c (by simp only[aK];exact .inr hc)
 have hv:=Oi k hk n h5 h1 p mp q mq;have mk:k∈[2,3]:=by rcases hk with rfl|rfl <;> simp
 generalize ht:p.toList++List.replicate n 46++q.toList=t at *;refine NR (C:=λu=>u∈rW k t/\nQ k u=true) (l:=(rW k t).filter (nQ k)) (λleft a b ha hb=>⟨oH ha.1 hb,sK hk2 (ve hL ha.1) ha.2 hb⟩) (λu hu=>eU.2 hu) ?_ (λleft T hT=>?_) ⟨rV hL,hv⟩ hF
 .by_cases e:n=5
  .subst e;rw[<-ht];exact TU k mk p mp q mq
  .refine bU (jQ _ _) (bU (Du k t) ?_)
   rw[hlive];exact bU (nY (by omega) (show n<=4 by omega)) (by decide)
 .have hLT:=ve hL hT.1
  refine⟨(rW k T).filter λu=>nQ k u && df left u == df left T+1,?_,λu hu=>?_,λU hU b hb d hd=>?_⟩
  .by_cases e:live k T<=4
   .refine bU ?_ (RN _ e)
    have:=JK hk2 left T (df left T+1);rw[show df left T+1-df left T=1 by omega]at this;rw[<-this,List.countP_eq_length_filter];exact(List.Sublist.length_le (by
     rw[show((rW k T).filter λu=>nQ k u && df left u == df left T+1)=((rW k T).filter λu=>df left u == df left T+1).filter (nQ k) by rw[List.filter_filter]];exact List.filter_sublist))
   .obtain⟨e1,e2⟩:=Af hk2 hT.1 (by omega)
    subst e1;obtain rfl:n=5:=(by omega);rw[<-ht];exact PM k mk p mp q mq left (by cases left <;> simp)
  .refine eU.2 ⟨oH (rV hLT) hu,?_⟩
   rw[eP];exact⟨sK hk2 hLT hT.2 hu,by rw[(Gr hk2 left).1 hu];simp⟩
  .obtain⟨u1,u2⟩:=eU.1 hU
   rw[eP]at u2;have hLU:=ve hLT u1;have v1:=sK hk2 hLU u2.1 hb;have hLb:=rD hLU hb;refine eU.2 ⟨oH (oH u1 hb) hd,?_⟩;rw[eP];refine⟨sK hk2 hLb v1 hd,?_⟩;have e0:df left U=df left T+1:=(by simpa using u2.2);rw[(Gr hk2 left).1 hd,(Gr hk2 left).2 hb,e0];simp
theorem OP(hk:k<=3)(hL:mU k s)(h7:s.length<=7)(h2:2<=(eQ k s).length)(ht:t∈eQ k s)(hF:fu F (gS k t)):gQ F=true:=by
 obtain⟨ho,_,hl⟩:=oz.2 t ht;rcases OI h2 h7 ht with⟨rfl,h4⟩|⟨hk2,n,h5,hr⟩
 .exact PT (hl hL) h4 hF
 .rcases kg n with h0|h0
  .subst h0
   obtain⟨p,q,hp,hq,rfl⟩:=hr;have:kC k (p.toList++List.replicate 0 46++q.toList)=true:=by
    have hno:∀c,c∈p.toList++List.replicate 0 46++q.toList->c≠46:=λc hc=>by
     simp only[List.replicate_zero,bq,aK,Option.mem_toList]at hc;rcases hc with hc|hc
     .exact hp c hc
     .exact hq c hc
    have hm:∀left,jN k left (p.toList++List.replicate 0 46++q.toList)=[]:=λleft=>by
     cases e:jN k left (p.toList++List.replicate 0 46++q.toList)with
     |nil=>rfl
     |cons u l=>
      obtain⟨i,hi,_⟩:=(kr hk2).1 (e ▸ List.mem_cons_self ..:u∈jN k left (p.toList++List.replicate 0 46++q.toList));exact absurd rfl (hno 46 (dU hi))
    rw[kC,hm,hm];rfl
   rw[this]at ho;cases ho
  .exact Q6 (by omega) (hl hL) hr h0 h5 hF
end Go.Proofs.YteknjeohbcgpdaaGreatDoor.bz
namespace Go.Proofs.YteknjeohbcgpdaaGreatDoor
open Go.RowKit
open bz (dC Nd Gm vl Same ng)
variable {G:Nat->Prop} {pp h:Nat} {s s' s0:iQ} {w w' wr w2 wa:World} {lv rv:Value} {L R:List Nat}
theorem fe.up{F:Nat->Prop}{a b:World}(h:fe F a b)(k:∀x,F x->G x):fe G a b:=⟨h.os,h.tape,h.output,h.size,λb hb hn=>h.block b hb λc=>hn (k b c)⟩
structure Ob(pp h:Nat)(s:iQ)(w:World)(s':iQ)(w':World):Prop where
 pool:dm w' pp h s'
 keep:fe (λb=>jP pp h s b\/b=h+1+1+1+1) w w'
 own:∀b,jP pp h s' b->jP pp h s b\/w.heap.size<=b
 old:∀b,s.S b->s'.S b
 lists:∀b,s'.S b->s.S b\/w.heap.size<=b
 more:∃E,s'.D=s.D++E
theorem jK.n(k:jK pp h s w s' w'):Ob pp h s w s' w':=⟨k.pool,k.keep.up λ_ h=>.inl h,k.own,k.old,k.lists,k.more⟩
theorem Ob.trans{w1 w2 w3:World}{pp h:Nat}{s1 s2 s3:iQ}(k:Ob pp h s1 w1 s2 w2)(m:Ob pp h s2 w2 s3 w3):Ob pp h s1 w1 s3 w3:=by
 have hz:=k.keep.size;refine⟨m.pool,k.keep.trans m.keep (λx hx hi=>by
  rcases hi with hi|hi
  .rcases k.own x hi with h|h
   .exact .inl h
   .omega
  .exact .inr hi),λx hx=>?_,λb hb=>m.old b (k.old b hb),λx hx=>?_,?_⟩
 .rcases m.own x hx with h1|h1
  .exact k.own x h1
  .exact .inr (by omega)
 .rcases m.lists x hx with h1|h1
  .exact k.lists x h1
  .exact .inr (by omega)
 .obtain⟨E,h1⟩:=k.more
  obtain⟨E',h2⟩:=m.more;exact⟨E++E',by rw[h2,h1,bY]⟩
theorem Ob.len(k:Ob pp h s w s' w'):s.D.length<=s'.D.length:=by obtain⟨E,h⟩:=k.more;rw[h];simp
theorem Ob.vl{w w':World}{pp h:Nat}{s s':iQ}(k:Ob pp h s w s' w')(hw:bz.WF s.D){i:Nat}(hi:i<s.D.length):vl s'.D i=vl s.D i:=by
 obtain⟨E,h⟩:=k.more;have hg:=k.pool.good.wf;rw[h]at hg ⊢;exact bz.ib hw hg i hi
theorem Ob.sup{A:World->Prop}(a:oP s0.S A w)(k:Ob pp h s w s' w')(hP:dm w pp h s)(ho:∀b,s0.S b->s.S b):oP s0.S A w':=
 a.keep k.keep λb hb=>by
  rintro(c|c)
  .exact hP.Z5 b (ho b hb) c
  .have:=hP.ap6 b (ho b hb);omega
structure kz(pp h:Nat)(s:iQ)(w wr:World)(lv rv:Value)(L R:List Nat):Prop where
 l:wr.ownsRow w.heap.size 3 1 lv L.length ((dx L).map (Value.int .i64))
 r:wr.ownsRow w.heap.size 3 1 rv R.length ((dx R).map (Value.int .i64))
 ap:∀b,lv.ownBlock=some b->rv.ownBlock≠some b
 uW:Ku pp h s wr (λb=>lv.ownBlock=some b\/rv.ownBlock=some b)
theorem kz.swap(m:kz pp h s w wr lv rv L R):kz pp h s w wr rv lv R L:=
 ⟨m.r,m.l,λb h1 h2=>m.ap b h2 h1,λb hb=>m.uW b (hb.symm)⟩
theorem kz.keep(m:kz pp h s w wr lv rv L R)(hk:fe G wr w2)(hG:∀b,lv.ownBlock=some b\/rv.ownBlock=some b->¬G b)
 (hc:Ku pp h s' w2 (λb=>lv.ownBlock=some b\/rv.ownBlock=some b)):kz pp h s' w w2 lv rv L R:=
 ⟨bO m.l hk (λb hb=>hG b (.inl hb)),bO m.r hk (λb hb=>hG b (.inr hb)),m.ap,hc⟩
theorem kz.ext{pp h:Nat}{s:iQ}{w wr w2:World}{lv rv:Value}{L R:List Nat}(m:kz pp h s w wr lv rv L R)(hx:Ext wr w2):kz pp h s w w2 lv rv L R:=
 m.keep (fV (F:=λ_=>False) hx) (λ_ _=>id) (m.uW.ext hx)
theorem kz.lo(m:kz pp h s w wr lv rv L R){b:Nat}(hb:lv.ownBlock=some b\/rv.ownBlock=some b):w.heap.size<=b:=by
 rcases hb with hb|hb
 .exact(m.l.lt b hb).1
 .exact(m.r.lt b hb).1
theorem kz.go(m:kz pp h s w wr lv rv L R)(hh:h+1+1+1+1<w.heap.size)(g:Ob pp h s wr s' w2):kz pp h s' w w2 lv rv L R:=by
 have hz:=g.keep.size;refine m.keep g.keep (λb hb=>?_) (λb hb=>?_)
 .rintro(c|c)
  .exact(m.uW b hb).2.1 c
  .have:=m.lo hb;omega
 .obtain⟨c1,c2,c3⟩:=m.uW b hb
  refine⟨by omega,λc=>?_,λc=>?_⟩
  .rcases g.own b c with c|c
   .exact c2 c
   .omega
  .rcases g.lists b c with c|c
   .exact c3 c
   .omega
theorem kz.push{VM:Value}{news:List Nat}{n:Nat}{ys:List Value}(m:kz pp h s w wr lv rv L R)(hP:dm wr pp h s)(hx:Ext wr wa)(hg:wa.grownBy w2 lv.ownBlock)
 (ho:w2.ownsRow w.heap.size 3 1 VM n ys) (hn:n=(L++news).length) (hy:ys=(dx (L++news)).map (Value.int .i64)) (hl:mM wa lv VM):kz pp h s w w2 VM rv (L++news) R:=by
 have hz:=hx.size;have hz2:=hg.size;have hL:∀b,VM.ownBlock=some b->lv.ownBlock=some b\/wr.heap.size<=b:=λb hb=>by
  rcases hl with e|⟨g,e,k⟩
  .exact .inl (e ▸ hb)
  .rw[e]at hb;injection hb with hb;exact .inr (by omega)
 have m1:=m.ext hx;have hkg:=fD hg;have hcm:=m.uW;refine⟨FW ho hn hy,bO m1.r hkg (λb hb hq=>m.ap b hq hb),λb hb hc=>?_,λb hb=>?_⟩
 .rcases hL b hb with h1|h1
  .exact m.ap b h1 hc
  .have:=(hcm b (.inr hc)).1;omega
 .have hlt:=ho.lt
  rcases hb with hb|hb
  .refine⟨(hlt b hb).2,?_⟩
   rcases hL b hb with h1|h1
   .exact(hcm b (.inl h1)).2
   .exact hP.new h1
  .have:=hcm b (.inr hb);exact⟨by omega,this.2⟩
theorem kz.side(m:kz pp h s w wr lv rv L R)(g:Ob pp h s0 w s wr)(hx:Ext wr wa)(hg:wa.grownBy w2 lv.ownBlock):Ob pp h s0 w s w2:=by
 have hkg:=fD hg;have hz:=hx.size;have hP:=g.pool.ext hx;refine⟨hP.keep hkg (λb hb hc=>(m.uW b (.inl hc)).2.1 hb) (λb hb hc=>(m.uW b (.inl hc)).2.2 hb),?_,g.own,g.old,g.lists,g.more⟩;have k1:=(g.keep.trans (fV (F:=λ_=>False) hx) (λ_ _ h=>h.elim)).trans hkg (G:=λb=>lv.ownBlock=some b) (λx hx hc=>by have:=m.lo (.inl hc);omega);exact k1
theorem dm.c7(k:dm w pp h s):w.cell? ⟨pp,7,none⟩=some (.map (some (h+1+1+1+1))):=cell_of_row w pp 7 _ _ _ k.box
end Go.Proofs.YteknjeohbcgpdaaGreatDoor