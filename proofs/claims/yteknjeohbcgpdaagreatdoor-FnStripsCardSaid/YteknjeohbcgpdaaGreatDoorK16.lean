/-
  Plain law, no program in sight: the cells between empty ones and the runs of empty cells, told by places; no condition. (3 texts.)
-/
import Derived.Test.YteknjeohbcgpdaaGreatDoorK15
namespace Go.Proofs.YteknjeohbcgpdaaGreatDoor.bz
variable {o:UInt8->List UInt8} {s t:Stp} {k:Nat} {left:Bool}
def oQ(o:UInt8->List UInt8):Stp->List Stp
 |[]=>[[]]
 |c :: s=>(oQ o s).flatMap λt=>(o c).map λd=>d :: t
theorem jB{c:UInt8}:t∈oQ o (c :: s)↔∃d u,t=d :: u/\d∈o c/\u∈oQ o s:=by
 simp only[oQ,lH,aI];constructor
 .rintro⟨u,hu,d,hd,rfl⟩;exact⟨d,u,rfl,hd,hu⟩
 .rintro⟨d,u,rfl,hd,hu⟩;exact⟨u,hu,d,hd,rfl⟩
theorem q8{o:UInt8->List UInt8}:∀{s t:Stp} {i:Nat} {a c:UInt8},t∈oQ o s->s[i]?=some c->a∈o c->t.set i a∈oQ o s
 |[],_,i,_,_,_,h,_=>by simp at h
 |x :: s,t,i,a,c,ht,h,ha=>by
  obtain⟨d,u,rfl,hd,hu⟩:=jB.1 ht;cases i with
  |zero=>
   simp only[dQ,bJ]at h;subst h;exact jB.2 ⟨a,u,rfl,ha,hu⟩
  |succ i=>
   simp only[dJ]at h;exact jB.2 ⟨d,u.set i a,rfl,hd,q8 hu h ha⟩
theorem yg{o:UInt8->List UInt8}:∀{s t:Stp} {i:Nat} {d:UInt8},t∈oQ o s->t[i]?=some d->∃c,s[i]?=some c/\d∈o c
 |[],t,i,d,ht,h=>by
  obtain rfl:t=[]:=by simpa [oQ]using ht
  simp at h
 |x :: s,t,i,d,ht,h=>by
  obtain⟨e,u,rfl,he,hu⟩:=jB.1 ht;cases i with
  |zero=>simp only[dQ,bJ]at h;subst h;exact⟨x,by simp,he⟩
  |succ i=>simp only[dJ]at h ⊢;exact yg hu h
theorem Av{o:UInt8->List UInt8}:∀{s t:Stp},t∈oQ o s->t.length=s.length
 |[],t,h=>by obtain rfl:t=[]:=by simpa [oQ]using h
             rfl
 |x :: s,t,h=>by
  obtain⟨e,u,rfl,_,hu⟩:=jB.1 h;simp[Av hu]
theorem Eo{o:UInt8->List UInt8}:∀{s:Stp},(∀c,c∈s->c∈o c)->s∈oQ o s
 |[],_=>by simp[oQ]
 |x :: s,h=>jB.2 ⟨x,s,rfl,h x (by simp),Eo λc hc=>h c (by simp[hc])⟩
theorem xE{o:UInt8->List UInt8}{p:UInt8->Bool}:∀{s:Stp},(∀c,c∈s->(o c).length<=if p c then 3 else 1)->(oQ o s).length<=3 ^ s.countP p
 |[],_=>by simp[oQ]
 |x :: s,h=>by
  have ih:=xE (s:=s) λc hc=>h c (by simp[hc])
  have hx:=h x (by simp);have e:(oQ o (x :: s)).length=(oQ o s).length*(o x).length:=by
   simp only[oQ,List.length_flatMap,aJ]
   induction oQ o s with
   |nil=>simp
   |cons a l ih=>simp only[eZ,jS,dO,ih,nZ,Nat.one_mul];omega
  rw[e,lJ];cases hp:p x with
  |true=>
   rw[hp,if_pos rfl]at hx;simp only[if_true];exact jR ih hx
  |false=>
   rw[hp]at hx;simp only[Bool.false_eq_true,if_false]at hx ⊢;rw[kS];have:=jR ih hx;omega
def qh(k:Nat):List UInt8:=if k=0 then [46,84,70]else [46,76,82]
def mU(k:Nat)(s:Stp):Prop:=∀c,c∈s->c∈qh k
def oS(k:Nat)(c:UInt8):List UInt8:=if k<=1\/c=46 then qh k else [c]
def tY(k:Nat)(c:UInt8):Bool:=decide (k<=1\/c=46)
def live(k:Nat)(s:Stp):Nat:=s.countP (tY k)
def rW(k:Nat)(s:Stp):List Stp:=oQ (oS k) s
theorem Nk(k:Nat):(qh k).length=3:=by unfold qh;split <;> rfl
theorem Du(k:Nat)(s:Stp):(rW k s).length<=3 ^ live k s:=xE λc _=>by
 unfold oS tY;by_cases h:k<=1\/c=46
 .simp[h,Nk]
 .simp[h]
theorem rV(h:mU k s):s∈rW k s:=Eo λc hc=>by
 unfold oS;split
 .exact h c hc
 .simp
theorem Nh(hk:k≠0)(left:Bool):o5 left∈qh k:=by unfold qh;rw[if_neg hk];cases left <;> simp[o5]
theorem VK(left:Bool):wJ left∈qh 0:=by cases left <;> simp[wJ,qh]
theorem NT(k:Nat):(46:UInt8)∈qh k:=by unfold qh;split <;> simp
theorem Bv{i:Nat}{d:UInt8}(h:t∈oQ o s)(hi:t[i]?=some d):∃c,s[i]?=some c:=by
 obtain⟨c,h,_⟩:=yg h hi;exact⟨c,h⟩
theorem oH{u:Stp}(ht:t∈rW k s)(hu:u∈jN k left t):u∈rW k s:=by
 match k with
 | 0=>
  obtain⟨i,j,h1,h2,rfl,_⟩:=CG.1 hu;obtain⟨c,hc⟩:=Bv ht h1;obtain⟨d,hd⟩:=Bv ht h2;exact q8 (q8 ht hc (by simp[oS,NT])) hd (by simp[oS,VK])
 | 1=>
  obtain⟨i,j,h1,h2,rfl,_⟩:=mD.1 hu;obtain⟨c,hc⟩:=Bv ht h1;obtain⟨d,hd⟩:=Bv ht h2;exact q8 (q8 ht hc (by simp[oS,NT])) hd (by simp[oS,Nh])
 |k+2=>
  obtain⟨i,h1,rfl,_⟩:=(kr (by omega)).1 hu;obtain⟨c,hc,hd⟩:=yg ht h1;refine q8 ht hc ?_;unfold oS at hd ⊢;by_cases h:k+2<=1\/c=46
  .rw[if_pos h];exact Nh (by omega) _
  .rw[if_neg h,eH]at hd
   exact absurd (.inr hd.symm) h
theorem ve(h:mU k s)(ht:t∈rW k s):mU k t:=λd hd=>by
 obtain⟨i,hi⟩:=List.mem_iff_getElem?.1 hd;obtain⟨c,hc,hm⟩:=yg ht hi;unfold oS at hm;split at hm
 .exact hm
 .rw[eH]at hm;subst hm;exact h _ (dU hc)
theorem rD(h:mU k s)(ht:t∈jN k left s):mU k t:=ve h (oH (rV h) ht)
theorem F8(k:Nat)(s:Stp):live k s<=s.length:=List.countP_le_length
def mg(k:Nat)(l:List Stp):Nat:=(l.map (live k)).sum
theorem qE(k:Nat)(p:Stp->Bool):∀l:List Stp,mg k (l.filter p)<=mg k l
 |[]=>ai _
 |t :: l=>by
  have:=qE k p l;rw[List.filter_cons];split
  .simp only[mg,eZ,jS]at *;omega
  .simp only[mg,eZ,jS]at *;omega
theorem oW(k:Nat)(s t:Stp):live k (s++t)=live k s+live k t:=List.countP_append
theorem uH(s:Stp):live 1 s=s.length:=by unfold live;rw[List.countP_eq_length];intro c _;simp[tY]
theorem zQ(hk:2<=k){p:Option UInt8}(hp:∀x,p=some x->x≠46):live k p.toList=0:=by
 cases p with
 |none=>rfl
 |some x=>have:=hp x rfl;simp[live,tY];exact⟨by omega,this⟩
theorem rT:∀s:Stp,mg 1 (dots s)+(dots s).length=s.length+1
 |[]=>by simp[dots,mg,live]
 |c :: s=>by
  have ih:=rT s;unfold dots;split
  .simp only[mg,eZ,jS,dO]at *
   have:live 1 []=0:=rfl;omega
  .cases hd:dots s with
   |nil=>exact absurd hd (tF s)
   |cons t l=>
    rw[hd]at ih;simp only[mg,eZ,jS,dO,uH]at *;omega
theorem uU:∀{s t:Stp},t∈dots s->(∀c,c∈t->c∈s/\c≠46)/\t.length<=s.length
 |[],t,h=>by obtain rfl:t=[]:=by simpa [dots]using h
             simp
 |c :: s,t,h=>by
  unfold dots at h;split at h
  .rcases dD.1 h with rfl|h
   .simp
   .obtain⟨h1,h2⟩:=uU h
    exact⟨λc hc=>⟨by simp[(h1 c hc).1],(h1 c hc).2⟩,by simp;omega⟩
  .rename_i hne
   cases hd:dots s with
   |nil=>exact absurd hd (tF s)
   |cons u l=>
    rw[hd]at h;simp only at h;have hm:∀t,t∈u :: l->t∈dots s:=λt ht=>by rw[hd];exact ht
    rcases dD.1 h with rfl|h
    .obtain⟨h1,h2⟩:=uU (hm u (by simp))
     refine⟨λx hx=>?_,by simp;omega⟩;rcases dD.1 hx with rfl|hx
     .exact⟨by simp,hne⟩
     .exact⟨by simp[(h1 x hx).1],(h1 x hx).2⟩
    .obtain⟨h1,h2⟩:=uU (hm t (by simp[h]))
     exact⟨λc hc=>⟨by simp[(h1 c hc).1],(h1 c hc).2⟩,by simp;omega⟩
def Fp(n:Nat)(t:Stp):Prop:=∃p q:Option UInt8,(∀x,p=some x->x≠46)/\(∀x,q=some x->x≠46)/\t=p.toList++List.replicate n 46++q.toList
theorem Fp.live{k n:Nat}{t:Stp}(hk:2<=k)(h:Fp n t):live k t=n:=by
 obtain⟨p,q,hp,hq,rfl⟩:=h;rw[oW,oW,zQ hk hp,zQ hk hq];simp[bz.live,List.countP_replicate,tY]
theorem Ig(s:Stp):s.takeWhile (· == (46:UInt8))=List.replicate (s.takeWhile (· == (46:UInt8))).length 46:=by
 rw[List.eq_replicate_iff];refine⟨rfl,λc hc=>?_⟩;have:=List.all_eq_true.1 (List.all_takeWhile (p:=λc:UInt8=>c == 46) (l:=s)) c hc
 simpa using this
theorem PQ{x:UInt8}(h:(s.dropWhile (· == (46:UInt8))).head?=some x):x≠46:=λe=>by
 have:=List.head?_dropWhile_not (λc:UInt8=>c == 46) s;rw[h]at this;simp[e]at this
theorem ru{k:Nat}(hk:2<=k):∀(m:Nat) (s:Stp) (p:Option UInt8),s.length<=m->(∀x,p=some x->x≠46)->
 mg k (runs p s)<=live k s/\∀t,t∈runs p s->(∃n,Fp (n+1) t)/\t.length<=p.toList.length+s.length/\∀c,c∈t->c∈p.toList++s
 |_,[],p,_,_=>by rw[runs];exact⟨az _,λt ht=>by cases ht⟩
 |m+1,c :: s,p,hm,hp=>by
  have hm:s.length<=m:=by simpa using hm
  by_cases hc:c=46
  .subst hc
   have hs:s.takeWhile (· == 46)++s.dropWhile (· == 46)=s:=List.takeWhile_append_dropWhile;have hl:=congrArg List.length hs;rw[aj]at hl;obtain⟨i1,i2⟩:=ru hk m (s.dropWhile (· == 46)) none (by omega) (λ_ h=>by cases h);have hsub:∀c,c∈s.dropWhile (· == 46)->c∈s:=λc hc=>by rw[<-hs];exact nJ _ hc
   have hsub2:∀c,c∈s.takeWhile (· == 46)->c∈s:=λc hc=>by rw[<-hs];exact sJ _ hc
   have hr:Fp ((s.takeWhile (· == 46)).length+1) (p.toList++(46 :: s.takeWhile (· == 46))++(s.dropWhile (· == 46)).head?.toList):=by
    refine⟨p,(s.dropWhile (· == 46)).head?,hp,λx hx=>PQ hx,?_⟩;rw[kY,<-Ig]
   have hlive:live k (46 :: s)=(s.takeWhile (· == 46)).length+1+live k (s.dropWhile (· == 46)):=by
    conv=>lhs;rw[<-hs]
    show live k ([46]++(_++_))=_;rw[oW,oW];have e1:live k [46]=1:=(by simp[live,tY]);have e2:live k (s.takeWhile (· == 46))=(s.takeWhile (· == 46)).length:=by
     conv=>lhs;rw[Ig]
     simp[live,List.countP_replicate,tY]
    omega
   rw[runs,if_pos rfl];refine⟨?_,λt ht=>?_⟩
   .simp only[mg,eZ,jS]at i1 ⊢
    rw[hr.live hk,hlive];omega
   .rcases dD.1 ht with rfl|ht
    .refine⟨⟨_,hr⟩,?_,λc hc=>?_⟩
     .have:(s.dropWhile (· == 46)).head?.toList.length<=(s.dropWhile (· == 46)).length:=by cases s.dropWhile (· == 46)<;> simp
      simp only[aj,dO];omega
     .rcases aK.1 hc with hc|hc
      .rcases aK.1 hc with hc|hc
       .exact sJ _ hc
       .refine nJ _ ?_
        rcases dD.1 hc with rfl|hc
        .simp
        .exact sI _ (hsub2 c hc)
      .refine nJ _ (sI _ (hsub c ?_))
       cases hd:s.dropWhile (· == 46)with
       |nil=>rw[hd]at hc;cases hc
       |cons y r=>
        rw[hd]at hc;obtain rfl:c=y:=(by simpa using hc);simp
    .obtain⟨a,b,c⟩:=i2 t ht
     exact⟨a,by simp at b ⊢;omega,λx hx=>nJ _ (sI _ (hsub x (by simpa using c x hx)))⟩
  .obtain⟨i1,i2⟩:=ru hk m s (some c) hm (λx h=>by injection h with h;exact h ▸ hc)
   rw[runs,if_neg hc];have hlive:live k (c :: s)=live k s:=by
    show live k ([c]++s)=_;rw[oW,show live k [c]=0 from zQ hk (p:=some c) (λx h=>by injection h with h;exact h ▸ hc)];omega
   refine⟨by rw[hlive];exact i1,λt ht=>?_⟩;obtain⟨a,b,d⟩:=i2 t ht;exact⟨a,by simp at b ⊢;omega,λx hx=>nJ _ (by simpa using d x hx)⟩
theorem oz:mg k (eQ k s)<=live k s/\∀t,t∈eQ k s->kC k t=false/\t.length<=s.length/\(mU k s->mU k t):=by
 have f:∀t,t∈eQ k s->t∈jW k s/\kC k t=false:=λt ht=>by
  obtain⟨a,b⟩:=eU.1 ht;exact⟨a,by simpa using b⟩
 have l:mg k (eQ k s)<=mg k (jW k s):=qE k _ _;unfold jW at f l;by_cases h0:k=0
 .rw[if_pos h0]at f l
  refine⟨bU l (by simp[mg]),λt ht=>?_⟩;obtain⟨a,b⟩:=f t ht;obtain rfl:t=s:=by simpa using a
  exact⟨b,ai _,id⟩
 .rw[if_neg h0]at f l
  by_cases h1:k=1
  .subst h1
   rw[if_pos rfl]at f l;have:=rT s;have hne:=iY.2 (tF s);refine⟨by rw[uH];omega,λt ht=>?_⟩;obtain⟨a,b⟩:=f t ht;obtain⟨c,d⟩:=uU a;exact⟨b,d,λh x hx=>h x (c x hx).1⟩
  .rw[if_neg h1]at f l
   obtain⟨i1,i2⟩:=ru (k:=k) (by omega) _ s none (ai _) (λ_ h=>by cases h);refine⟨bU l i1,λt ht=>?_⟩;obtain⟨a,b⟩:=f t ht;obtain⟨_,c,d⟩:=i2 t a;exact⟨b,by simpa using c,λh x hx=>h x (by simpa using d x hx)⟩
end Go.Proofs.YteknjeohbcgpdaaGreatDoor.bz
namespace Go.Proofs.YteknjeohbcgpdaaGreatDoor.bz
variable {t s:Stp} {k:Nat}
theorem vE{α:Type}{f:α->Nat}{a:Nat}:∀{l:List α} {t:α},(∀u,u∈l->a<=f u)->t∈l->f t+a*(l.length-1)<=(l.map f).sum
 |[],_,_,h=>by cases h
 |x :: l,t,h,ht=>by
  have low:∀l:List α,(∀u,u∈l->a<=f u)->a*l.length<=(l.map f).sum:=λl h=>by
   induction l with
   |nil=>simp
   |cons y l ih=>
    have:=ih λu hu=>h u (by simp[hu])
    have:=h y (by simp);simp only[dO,Nat.mul_add,jM,eZ,jS];omega
  simp only[dO,ko,eZ,jS];rcases dD.1 ht with rfl|ht
  .have:=low l λu hu=>h u (by simp[hu]);omega
  .have i:=vE (f:=f) (a:=a) (l:=l) (t:=t) (λu hu=>h u (by simp[hu])) ht
   have:=h x (by simp);have hp:0<l.length:=iY.2 λe=>by rw[e]at ht;cases ht
   have e:a*l.length=a*(l.length-1)+a:=by
    conv=>lhs;rw[show l.length=l.length-1+1 by omega,Nat.mul_add,jM]
   omega
theorem Uf(h:kC 1 t=false):2<=t.length:=by
 refine Classical.byContradiction λhn=>?_
 have:∀left,jN 1 left t=[]:=λleft=>by
  cases e:jN 1 left t with
  |nil=>rfl
  |cons u l=>
   obtain⟨i,j,h1,h2,_,h3⟩:=mD.1 (e ▸ List.mem_cons_self ..:u∈jN 1 left t);have:=fU h1;have:=fU h2;omega
 rw[kC,this,this]at h;cases h
theorem OA(hk:2<=k)(h:live k s=s.length):(runs none s).length<=1:=by
 have e:∀c,c∈s->c=46:=λc hc=>by
  have:=List.countP_eq_length.1 h c hc;simp only[tY,decide_eq_true_eq]at this;exact this.resolve_left (by omega)
 cases s with
 |nil=>rw[runs];simp
 |cons c s=>
  have hc:=e c (by simp);subst hc;have hd:s.dropWhile (· == (46:UInt8))=[]:=by
   have:∀l:Stp,(∀c,c∈l->c=46)->l.dropWhile (· == (46:UInt8))=[]:=λl=>by
    induction l with
    |nil=>intro _;rfl
    |cons x l ih=>intro h;rw[List.dropWhile_cons_of_pos (by simp[h x (by simp)])];exact ih λc hc=>h c (by simp[hc])
   exact this s λc hc=>e c (by simp[hc])
  rw[runs,if_pos rfl,hd];have e0:runs none []=[]:=by rw[runs]
  rw[e0];simp
theorem OI(h2:2<=(eQ k s).length)(h7:s.length<=7)(ht:t∈eQ k s):(k=1/\t.length<=4)\/(2<=k/\∃n,n<=5/\Fp n t):=by
 have hf:∀u,u∈eQ k s->u∈jW k s/\kC k u=false:=λu hu=>by
  obtain⟨a,b⟩:=eU.1 hu;exact⟨a,by simpa using b⟩
 have hlen:(eQ k s).length<=(jW k s).length:=jQ _ _;have hsum:mg k (eQ k s)<=mg k (jW k s):=qE k _ _;unfold jW at hf hlen hsum;by_cases h0:k=0
 .rw[if_pos h0]at hlen;simp at hlen;omega
 .rw[if_neg h0]at hf hlen hsum
  by_cases h1:k=1
  .subst h1
   rw[if_pos rfl]at hf hlen hsum;have hd:=rT s;have hl:=vE (f:=live 1) (a:=2) (l:=eQ 1 s) (t:=t) (λu hu=>by rw[uH];exact Uf (hf u hu).2) ht;rw[uH]at hl;unfold mg at hsum hd;exact .inl ⟨rfl,by omega⟩
  .rw[if_neg h1]at hf hlen hsum
   have hk:2<=k:=(by omega);obtain⟨i1,i2⟩:=ru hk _ s none (ai _) (λ_ h=>by cases h);have hlive:live k s<=6:=by
    have:=F8 k s;by_cases e:live k s=s.length
    .have:=OA hk e;omega
    .omega
   obtain⟨⟨n,hn⟩,_,_⟩:=i2 t (hf t ht).1;have hl:=vE (f:=live k) (a:=1) (l:=eQ k s) (t:=t) (λu hu=>by
    obtain⟨⟨n,hn⟩,_,_⟩:=i2 u (hf u hu).1;rw[hn.live hk];omega) ht
   have hv:=hn.live hk;unfold mg at hsum i1;exact .inr ⟨hk,n+1,by omega,hn⟩
theorem OJ(h:eQ k s=[t]):iK (gS k t) (gS k s):=by
 have:=xK k s;rw[h]at this;exact((jI _ _).eqv.trans (lY _).eqv).symm.trans this
end Go.Proofs.YteknjeohbcgpdaaGreatDoor.bz
namespace Go.Proofs.YteknjeohbcgpdaaGreatDoor.bz
variable {s:Stp} {i a:Nat} {c:UInt8}
theorem drop_at(h:s[i]?=some c):s.drop i=c :: s.drop (i+1):=by
 have hl:=fU h;rw[iO hl];rw[aa hl]at h;injection h with h;rw[h]
theorem take_at(h:s[i]?=some c):s.take (i+1)=s.take i++[c]:=by
 have hl:=fU h;rw[bg hl];rw[aa hl]at h;injection h with h;rw[h]
def Qh(s:Stp)(a i:Nat):List Stp:=match dots (s.drop i)with
 |[]=>[]
 |t :: l=>((s.take i).drop a++t):: l
theorem QX(s:Stp):Qh s 0 0=dots s:=by
 unfold Qh;rw[List.drop_zero];cases h:dots s with
 |nil=>rfl
 |cons t l=>simp
theorem Vt(s:Stp)(a:Nat):Qh s a s.length=[s.drop a]:=by
 unfold Qh;simp[dots]
theorem Vu(h:s[i]?=some 46):Qh s a i=(s.take i).drop a :: Qh s (i+1) (i+1):=by
 have e:dots (s.drop i)=[] :: dots (s.drop (i+1)):=by rw[drop_at h,dots,if_pos rfl]
 have hl:=fU h;unfold Qh;rw[e];cases hd:dots (s.drop (i+1))with
 |nil=>exact absurd hd (tF _)
 |cons t l=>
  have:(s.take (i+1)).drop (i+1)=[]:=List.drop_eq_nil_iff.2 (by rw[ek];omega);simp[this]
theorem QY(ha:a<=i)(h:s[i]?=some c)(hc:c≠46):Qh s a (i+1)=Qh s a i:=by
 have e:dots (s.drop i)=match dots (s.drop (i+1))with|[]=>[[c]]|t :: l=>(c :: t):: l:=by rw[drop_at h,dots,if_neg hc];cases dots (s.drop (i+1))<;> rfl
 have hl:=fU h;unfold Qh;rw[e];cases hd:dots (s.drop (i+1))with
 |nil=>exact absurd hd (tF _)
 |cons t l=>
  simp only;rw[take_at h,l7 (by rw[ek];omega)];simp
def yu(s:Stp)(i:Nat):List Stp:=if 0<i/\s[i-1]?=some 46 then runs none ((s.drop i).dropWhile (· == 46))else runs (if i=0 then none else s[i-1]?) (s.drop i)
theorem Ch(s:Stp):yu s 0=runs none s:=by unfold yu;simp
theorem Cf(p:Option UInt8):runs p []=[]:=by rw[runs]
theorem FP(h:s.length<=i):yu s i=[]:=by
 unfold yu;rw[List.drop_eq_nil_iff.2 h];split
 .exact Cf _
 .exact Cf _
theorem Ci(h:s[i]?=some c)(hc:c≠46):yu s (i+1)=yu s i:=by
 have e1:yu s (i+1)=runs (some c) (s.drop (i+1)):=by
  unfold yu;rw[ko,h,if_neg (λk=>hc (by injection k.2)),if_neg (by omega)]
 rw[e1];unfold yu;rw[drop_at h];split
 .rw[List.dropWhile_cons_of_neg (by simp[hc]),runs,if_neg hc]
 .rw[runs,if_neg hc]
theorem Q7(h:s[i]?=some 46)(hi:0<i)(h0:s[i-1]?=some 46):yu s (i+1)=yu s i:=by
 unfold yu;rw[ko,if_pos ⟨by omega,h⟩,if_pos ⟨hi,h0⟩,drop_at h,List.dropWhile_cons_of_pos (by simp)]
def piece(s:Stp)(i e:Nat):Stp:=(s.take (min (e+1) s.length)).drop (i-1)
theorem take_len{r:Stp}{n:Nat}(h:∀j,j<n->r[j]?=some 46)(he:r[n]?≠some 46):(r.takeWhile (· == 46)).length=n:=by
 induction r generalizing n with
 |nil=>
  cases n with
  |zero=>rfl
  |succ n=>have:=h 0 (by omega);simp at this
 |cons c r ih=>
  cases n with
  |zero=>
   have:c≠46:=λe=>he (by simp[e])
   rw[List.takeWhile_cons_of_neg (by simp[this])];rfl
  |succ n=>
   have hc:=h 0 (by omega);simp only[dQ,bJ]at hc;subst hc;rw[List.takeWhile_cons_of_pos (by simp),dO,ih (n:=n) (λj hj=>by have:=h (j+1) (by omega);simpa using this) (by simpa using he)]
theorem oI{e:Nat}(hie:i<e)(h:∀j,i<=j->j<e->s[j]?=some 46)(he:s[e]?≠some 46)(h0:i=0\/s[i-1]?≠some 46):
 yu s i=piece s i e :: yu s (i+1)/\yu s e=yu s (i+1)/\e<=s.length:=by
 have hi:=h i (ai _) hie;have hel:e<=s.length:=by have:=fU (h (e-1) (by omega) (by omega));omega
 have htl:((s.drop (i+1)).takeWhile (· == 46)).length=e-(i+1):=take_len (λj hj=>by rw[p9];exact h _ (by omega) (by omega)) (by rw[p9,show i+1+(e-(i+1))=e by omega];exact he);have hs:(s.drop (i+1)).takeWhile (· == 46)++(s.drop (i+1)).dropWhile (· == 46)=s.drop (i+1):=List.takeWhile_append_dropWhile;have hdw:(s.drop (i+1)).dropWhile (· == 46)=s.drop e:=by
  have:=congrArg (List.drop (e-(i+1))) hs;rw[l7 (by omega),List.drop_of_length_le (by omega),fB,List.drop_drop,show i+1+(e-(i+1))=e by omega]at this;exact this
 have e1:yu s (i+1)=runs none (s.drop e):=by
  unfold yu;rw[ko,if_pos ⟨by omega,hi⟩,hdw]
 have e2:yu s e=runs none (s.drop e):=by
  unfold yu;rw[if_pos ⟨by omega,h (e-1) (by omega) (by omega)⟩];congr 1;cases hd:s.drop e with
  |nil=>rfl
  |cons c r=>
   have hc:c≠46:=λk=>he (by
    have:(s.drop e)[0]?=some c:=(by rw[hd];rfl);rw[p9,kS]at this;rw[this,k])
   rw[List.dropWhile_cons_of_neg (by simp[hc])]
 refine⟨?_,by rw[e1,e2],hel⟩;have e3:yu s i=runs (if i=0 then none else s[i-1]?) (s.drop i):=by
  unfold yu;rw[if_neg (λk=>by rcases h0 with h0|h0;omega;exact h0 k.2)]
 rw[e3,drop_at hi,runs,if_pos rfl,e1,hdw];congr 1;have e4:s.take (e+1)=s.take i++(46 :: (s.drop (i+1)).takeWhile (· == 46))++(s.drop e).take 1:=by
  have a1:s.take (e+1)=s.take e++(s.drop e).take 1:=by rw[List.take_add]
  have a2:s.take e=s.take i++(s.drop i).take (e-i):=by rw[<-List.take_add,show i+(e-i)=e by omega]
  have a3:(s.drop i).take (e-i)=46 :: (s.drop (i+1)).takeWhile (· == 46):=by
   rw[drop_at hi,show e-i=e-(i+1)+1 by omega,List.take_succ_cons];congr 1;have:=congrArg (List.take (e-(i+1))) hs;rw[List.take_append_of_le_length (by omega),cO (by omega)]at this;exact this.symm
  rw[a1,a2,a3]
 have e5:s.take (min (e+1) s.length)=s.take (e+1):=by
  by_cases k:e+1<=s.length
  .rw[Nat.min_eq_left k]
  .rw[Nat.min_eq_right (by omega),dz,cO (by omega)]
 have e6:(s.take i).drop (i-1)=(if i=0 then none else s[i-1]?).toList:=by
  cases i with
  |zero=>simp
  |succ i=>
   have:i<s.length:=(by omega);rw[ko,if_neg (by omega),take_at (aa this),aa this,l7 (by rw[ek];omega),List.drop_of_length_le (by rw[ek];omega)];rfl
 unfold piece;rw[e5,e4,bY (s.take i),l7 (by rw[ek];omega),e6,bY];congr 2;cases s.drop e <;> rfl
end Go.Proofs.YteknjeohbcgpdaaGreatDoor.bz