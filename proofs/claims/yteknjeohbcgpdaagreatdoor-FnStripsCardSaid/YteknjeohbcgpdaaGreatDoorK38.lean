/-
  Contract of the program's canon. (2 texts.)
-/
import Derived.Test.YteknjeohbcgpdaaGreatDoorK31
set_option maxRecDepth 100000
namespace Go.Proofs.YteknjeohbcgpdaaGreatDoor
open Tryz
section
open bz
variable {f i:Nat} {cn:Nat->Option Nat} {D D2 D3:dC} {left:Bool} {FL FR:List Nat}
theorem RO{a b c d:List Gm}(h1:∀x,x∈a->∃y,y∈c/\iK x y)(h2:∀y,y∈c->∃x,x∈a/\iK x y)(h3:∀x,x∈b->∃y,y∈d/\iK x y)(h4:∀y,y∈d->∃x,x∈b/\iK x y):iK (.mk a b) (.mk c d):=by
 constructor
 .refine A8 (λr hr=>?_) (λl hl=>?_)
  .obtain⟨y,hy,e⟩:=h3 r hr
   exact .inl ⟨y,hy,e.1⟩
  .obtain⟨x,hx,e⟩:=h2 l hl
   exact .inl ⟨x,hx,e.1⟩
 .refine A8 (λr hr=>?_) (λl hl=>?_)
  .obtain⟨y,hy,e⟩:=h4 r hr
   exact .inl ⟨y,hy,e.2⟩
  .obtain⟨x,hx,e⟩:=h1 l hl
   exact .inl ⟨x,hx,e.2⟩
theorem RQ{N:Nat}(hf:f<N)(h:cn f=none):1<=miss N cn:=by
 have:f∈(List.range N).filter λx=>(cn x).isNone:=eU.2 ⟨dA.2 hf,by simp[h]⟩
 exact List.length_pos_of_mem this
theorem mK.more{D E:dC}{cn Bo:Nat->Option Nat}{f:Nat}{left:Bool}{F:List Nat}(hD:WF D)(hE:WF (D++E))(hf:f<D.length)(hm:∀i j,cn i=some j->Bo i=some j)(h:mK D cn f left F):mK (D++E) Bo f left F:=by
 obtain⟨h1,line,B,h2,h3⟩:=h;have ho:opt (D++E) left f=opt D left f:=oJ hf;have hk:∀x,x∈opt D left f->Bo x=cn x:=λx hx=>by
  have:=h1 x hx;cases e:cn x with
  |none=>rw[e]at this;cases this
  |some j=>exact hm x j e
 have hc:qH (D++E) Bo left f=qH D cn left f:=by
  unfold qH;rw[ho];exact dP λx hx=>by rw[hk x hx]
 refine⟨λx hx=>?_,line,B,?_,h3.more hD hE (λx hx=>h2.lt x (h2.kept x hx).1)⟩
 .rw[ho]at hx;rw[hk x hx];exact h1 x hx
 .rw[hc];exact h2.more hD hE hf
theorem qG(_hc:Ap D cn)(h:∀x,x∈opt D left f->(cn x).isSome):∀y,y∈qH D cn left f->∃x,x∈opt D left f/\cn x=some y:=by
 intro y hy;obtain⟨x,hx,rfl⟩:=aI.1 hy;have:=h x hx;cases e:cn x with
 |none=>rw[e]at this;cases this
 |some j=>exact⟨x,hx,by simp[e]⟩
theorem vI(hD:WF D)(hc:Ap D cn){F:List Nat}(h:mK D cn f left F):∀x,x∈F->x<D.length/\born (vl D x)<born (vl D f)/\(cn x).isSome:=by
 obtain⟨h1,line,B,h2,h3⟩:=h;intro x hx;have hl:=(h2.kept x (h3.1 x hx).1).1;refine⟨h2.lt x hl,?_,?_⟩
 .refine h2.tH (λx=>born (vl D x)<born (vl D f)) (λi side x hi hx=>?_) (λy hy=>?_) x hl
  .have:=nT hD hx;omega
  .obtain⟨z,hz,e⟩:=qG hc h1 y hy
   have:=nT hD hz;have:=(hc.ok z y e).2.2;omega
 .refine h2.tH (λx=>(cn x).isSome) (λi side x hi hx=>?_) (λy hy=>?_) x hl
  .cases e:cn i with
   |none=>rw[e]at hi;cases hi
   |some j=>
    unfold opt at hx;cases e2:D[i]? with
    |none=>rw[e2]at hx;simp at hx
    |some nd=>
     rw[e2]at hx;exact hc.sub i j nd e e2 x (by cases side <;> simp at hx ⊢ <;> simp[hx])
  .obtain⟨z,hz,e⟩:=qG hc h1 y hy
   rw[hc.self z y e];rfl
def lq(cn:Nat->Option Nat)(f i:Nat):Nat->Option Nat:=λx=>if x=f\/x=i then some i else cn x
theorem Dp(g2:bz.Good D2)(g3:bz.Good D3)(hc:Ap D2 cn)(hf:f<D2.length)(R1:mK D2 cn f true FL)(R2:mK D2 cn f false FR)(p:jo D2 FL FR D3 i):
 Canon (vl D3 i)/\iK (vl D3 i) (vl D3 f)/\born (vl D3 i)<=born (vl D3 f):=by
 have m1:=vI g2.wf hc R1;have m2:=vI g2.wf hc R2;obtain⟨h1,line,B,iL,tL⟩:=R1;obtain⟨h2,aiw,B',iR,tR⟩:=R2;have hvl:∀x,x<D2.length->vl D3 x=vl D2 x:=λx hx=>p.vl g2.wf g3.wf hx
 have hfe:D2[f]?=some D2[f]:=aa hf;have ho:=o8 hf;have hE:iK (.mk ((qH D2 cn true f).map (vl D2)) ((qH D2 cn false f).map (vl D2))) (vl D2 f):=by
  rw[nO g2.wf hfe,<-ho.1,<-ho.2];have key:∀left,(∀x,x∈opt D2 left f->(cn x).isSome)->(∀x,x∈(qH D2 cn left f).map (vl D2)->∃y,y∈(opt D2 left f).map (vl D2)/\iK x y)/\∀y,y∈(opt D2 left f).map (vl D2)->∃x,x∈(qH D2 cn left f).map (vl D2)/\iK x y:=by
   intro left hk;constructor
   .intro x hx
    obtain⟨y,hy,rfl⟩:=aI.1 hx;obtain⟨z,hz,e⟩:=qG hc hk y hy;exact⟨vl D2 z,aI.2 ⟨z,hz,rfl⟩,(hc.ok z y e).2.1⟩
   .intro y hy
    obtain⟨z,hz,rfl⟩:=aI.1 hy;have:=hk z hz;cases e:cn z with
    |none=>rw[e]at this;cases this
    |some j=>exact⟨vl D2 j,aI.2 ⟨j,aI.2 ⟨z,hz,by simp[e]⟩,rfl⟩,(hc.ok z j e).2.1⟩
  exact RO (key true h1).1 (key true h1).2 (key false h2).1 (key false h2).2
 have cc:∀left,(∀x,x∈opt D2 left f->(cn x).isSome)->∀x,x∈qH D2 cn left f->Canon (vl D2 x):=λleft hk x hx=>by
  obtain⟨z,hz,e⟩:=qG hc hk x hx;exact(hc.ok z x e).1
 have tS:∀{left:Bool} {B F:List Nat},vo D2 left B F->vo D2 left B (bE F):=λ{left B F} t=>
  ⟨λx hx=>t.1 x (bZ.1 hx),λx hx=>by obtain⟨z,hz,hg⟩:=t.2 x hx;exact⟨z,bZ.2 hz,hg⟩⟩
 obtain⟨q1,q2⟩:=OW g2.wf hE (cc true h1) (cc false h2) iL iR (tS tL) (tS tR);have hv:vl D3 i=.mk ((bE FL).map (vl D2)) ((bE FR).map (vl D2)):=by
  rw[nO g3.wf p.1];congr 1
  .exact dP λx hx=>hvl x (m1 x (bZ.1 hx)).1
  .exact dP λx hx=>hvl x (m2 x (bZ.1 hx)).1
 refine⟨by rw[hv];exact q2,by rw[hv,hvl f hf];exact q1,?_⟩;rw[hvl f hf,hv,qI];constructor
 .intro x hx
  obtain⟨y,hy,rfl⟩:=aI.1 (show x∈(bE FL).map (vl D2) from hx);exact(m1 y (bZ.1 hy)).2.1
 .intro x hx
  obtain⟨y,hy,rfl⟩:=aI.1 (show x∈(bE FR).map (vl D2) from hx);exact(m2 y (bZ.1 hy)).2.1
theorem Us(g2:bz.Good D2)(g3:bz.Good D3)(hc:Ap D2 cn)(hc3:Ap D3 cn)(hf:f<D2.length)(hn:cn f=none)(R1:mK D2 cn f true FL)(R2:mK D2 cn f false FR)(p:jo D2 FL FR D3 i):
 Ap D3 (lq cn f i)/\∀x j,cn x=some j->lq cn f i x=some j:=by
 obtain⟨c1,c2,c3⟩:=Dp g2 g3 hc hf R1 R2 p;have m1:=vI g2.wf hc R1;have m2:=vI g2.wf hc R2;have hil:=p.lt;have hfl:f<D3.length:=by have:=p.len;omega
 have hmono:∀x j,cn x=some j->lq cn f i x=some j:=by
  intro x j hx;unfold lq;split
  .rename_i h
   rcases h with rfl|rfl
   .rw[hn]at hx;cases hx
   .have h1:=hc3.ok x j hx
    have h2:=(hc3.lt x j hx).2;rw[mW g3 j x h2 hil (kQ h1.1 c1 h1.2.1)]
  .exact hx
 have hsome:∀x,(cn x).isSome->(lq cn f i x).isSome:=λx hx=>by
  cases e:cn x with
  |none=>rw[e]at hx;cases hx
  |some j=>rw[hmono x j e];rfl
 have hi:lq cn f i i=some i:=by simp[lq]
 have hinv:∀x j,lq cn f i x=some j->(x=f/\j=i)\/(x=i/\j=i)\/cn x=some j:=by
  intro x j h;unfold lq at h;split at h
  .rename_i hx
   injection h with h;rcases hx with rfl|rfl
   .exact .inl ⟨rfl,h.symm⟩
   .exact .inr (.inl ⟨rfl,h.symm⟩)
  .exact .inr (.inr h)
 refine⟨⟨λx j h=>?_,λx j h=>?_,λx j h=>?_,λx j nd h hnd y hy=>?_⟩,hmono⟩
 .rcases hinv x j h with⟨rfl,rfl⟩|⟨rfl,rfl⟩|h
  .exact⟨hfl,hil⟩
  .exact⟨hil,hil⟩
  .exact hc3.lt x j h
 .rcases hinv x j h with⟨rfl,rfl⟩|⟨rfl,rfl⟩|h
  .exact⟨c1,c2,c3⟩
  .exact⟨c1,iK.refl _,ai _⟩
  .exact hc3.ok x j h
 .rcases hinv x j h with⟨rfl,rfl⟩|⟨rfl,rfl⟩|h
  .exact hi
  .exact hi
  .exact hmono j j (hc3.self x j h)
 .rcases hinv x j h with⟨rfl,rfl⟩|⟨rfl,rfl⟩|h
  .have hfe:D2[x]?=some D2[x]:=aa hf
   obtain⟨E,e,_⟩:=p.ext;rw[e,dN hf,hfe]at hnd;injection hnd with hnd;subst hnd;have ho:=o8 hf;rcases aK.1 hy with hy|hy
   .exact hsome y (R1.1 y (by rw[ho.1];exact hy))
   .exact hsome y (R2.1 y (by rw[ho.2];exact hy))
  .rw[p.1]at hnd
   injection hnd with hnd;subst hnd;rcases aK.1 hy with hy|hy
   .exact hsome y (m1 y (bZ.1 hy)).2.2
   .exact hsome y (m2 y (bZ.1 hy)).2.2
  .exact hsome y (hc3.sub x j nd h hnd y hy)
end
section
open Go.RowKit
open bz (dC Nd vl Same Ge)
variable {w w1 w2:World} {pp h f i n m:Nat} {s:iQ} {f0:Value->Option Value}
theorem dm.Dn(k:dm w pp h s):∃f,gu prog 3 w (h+1+1) 900000 f/\(∀i:Nat,f (.int .i64 (i:Int))=(s.cn i).map λj=>.int .i64 (j:Int))/\∀k v,f k=some v->∃i:Nat,k=.int .i64 (i:Int):=by
 obtain⟨n,f,h1,h2,h3⟩:=k.Ac;refine⟨f,(h1.room ((List.range s.D.length).map λ(a:Nat)=>.int .i64 (a:Int)) λkey v hv=>?_).mono ?_,h2,h3⟩
 .obtain⟨i,rfl⟩:=h3 key v hv
  rw[h2]at hv;cases e:s.cn i with
  |none=>rw[e]at hv;cases hv
  |some j=>exact aI.2 ⟨i,dA.2 (k.uV.lt i j e).1,rfl⟩
 .rw[aJ,og];exact k.small
theorem Gu{cn:Nat->Option Nat}(h:∀x:Nat,f0 (.int .i64 (x:Int))=(cn x).map λj=>.int .i64 (j:Int))(x:Nat):
 upd (λ_ _=>Classical.propDecidable _) (upd (λ_ _=>Classical.propDecidable _) f0 (.int .i64 (f:Int)) (.int .i64 (i:Int))) (.int .i64 (i:Int)) (.int .i64 (i:Int)) (.int .i64 (x:Int))=(lq cn f i x).map λj=>.int .i64 (j:Int):=by
 unfold lq;by_cases c:x=i
 .subst c;rw[upd_same];simp
 .rw[upd_ne (by simp;omega)]
  by_cases d:x=f
  .subst d;rw[upd_same];simp
  .rw[upd_ne (by simp;omega),h];simp[c,d]
theorem dm.WS(k:dm w pp h s)(hf:∀x:Nat,f0 (.int .i64 (x:Int))=(s.cn x).map λj=>.int .i64 (j:Int))(hk:∀k v,f0 k=some v->∃i:Nat,k=.int .i64 (i:Int))
 (hg1:w.grownBy w1 (some (h+1+1))) (hM:gu prog 3 w2 (h+1+1) n (upd (λ_ _=>Classical.propDecidable _) (upd (λ_ _=>Classical.propDecidable _) f0 (.int .i64 (f:Int)) (.int .i64 (i:Int))) (.int .i64 (i:Int)) (.int .i64 (i:Int)))) (hg2:w1.grownBy w2 (some (h+1+1)))
 (hc:Ap s.D (lq s.cn f i)) (hm:∀x j,s.cn x=some j->lq s.cn f i x=some j):jK pp h s w ⟨s.lv,s.rv,s.bv,s.D,s.S,lq s.cn f i⟩ w2:=by
 have kk:=(gJ hg1).trans (gJ hg2) (λ_ _ h=>h);obtain⟨h1,h2⟩:=k.maps kk (λb hb=>by omega) hc (k.JG (kk.block _ (k.ny (by omega)) (by omega))) (k.KX (kk.block _ (k.ny (by omega)) (by omega))) ⟨n,_,hM,Gu hf,λkey v hv=>by
  rcases vw hv with⟨rfl,rfl⟩|hv
  .exact⟨i,rfl⟩
  .rcases vw hv with⟨rfl,rfl⟩|hv
   .exact⟨f,rfl⟩
   .exact hk key v hv⟩
 exact⟨h1,h2,λ_ h=>.inl h,λ_ h=>h,λ_ h=>.inl h,⟨[],by simp⟩,hm⟩
theorem qw.mono(h:qw n)(hm:m<=n):qw m:=λpp hh s f w a b c d=>h pp hh s f w a b (by omega) d
theorem Mt{s1 s2 s3:iQ}{w3:World}{FL FR:List Nat}(hP:dm w pp h s)(hf:f<s.D.length)(hn:s.cn f=none)
 (k1:jK pp h s w s1 w1) (G1:qx s f s1) (R1:mK s1.D s1.cn f true FL) (k2:jK pp h s1 w1 s2 w2) (G2:qx s1 f s2) (R2:mK s2.D s2.cn f false FR) (k3:jK pp h s2 w2 s3 w3) (p:jo s2.D FL FR s3.D i) (hcn:s3.cn=s2.cn):
 Ap s3.D (lq s3.cn f i)/\(∀x j,s3.cn x=some j->lq s3.cn f i x=some j)/\Grow s f ⟨s3.lv,s3.rv,s3.bv,s3.D,s3.S,lq s3.cn f i⟩:=by
 have hw:=hP.good.wf;have h1:=k1.len;have h2:=k2.len;have h3:=p.len;have hv1:=k1.vl hw hf;have hn1:s1.cn f=none:=by
  cases e:s1.cn f with
  |none=>rfl
  |some j=>have:=G1.2.1 f hf hn (by rw[e];rfl);omega
 have hn2:s2.cn f=none:=by
  cases e:s2.cn f with
  |none=>rfl
  |some j=>have:=G2.2.1 f (by omega) hn1 (by rw[e];rfl);omega
 have R1':mK s2.D s2.cn f true FL:=by
  obtain⟨E,hE⟩:=k2.more;have hg:=k2.pool.good.wf;rw[hE]at hg ⊢;exact R1.more k1.pool.good.wf hg (by omega) k2.known
 have hc3:=k3.pool.uV;rw[hcn]at hc3 ⊢;obtain⟨c1,c2⟩:=Us k2.pool.good k3.pool.good k2.pool.uV hc3 (by omega) hn2 R1' R2 p;obtain⟨d1,d2,d3⟩:=Dp k2.pool.good k3.pool.good k2.pool.uV (by omega) R1' R2 p;refine⟨c1,c2,λN a b=>?_,λx a b c=>?_,λx a b=>?_⟩
 .have g1:=G1.1 N a b
  have g2:=G2.1 N a (by omega);have g3:=VJ (N:=N) (cn:=s2.cn) (Bo:=lq s2.cn f i) (λx _ hx=>by cases e:s2.cn x with|none=>rw[e]at hx;cases hx|some j=>rw[c2 x j e];rfl) a hn2 (by simp[lq]);show s3.D.length+miss N (lq s2.cn f i)<=_;omega
 .have ab6:=(k1.trans k2).trans k3
  by_cases e1:x=f
  .subst e1;exact ai _
  .by_cases e2:x=i
   .subst e2
    rw[ab6.vl hw a,ab6.vl hw hf]at d3;exact d3
   .have e3:lq s2.cn f i x=s2.cn x:=by simp[lq,e1,e2]
    rw[show(⟨s3.lv,s3.rv,s3.bv,s3.D,s3.S,lq s2.cn f i⟩:iQ).cn x=s2.cn x from e3]at c;cases e:s1.cn x with
    |some j=>exact Nat.le_of_lt (G1.2.1 x a b (by rw[e];rfl))
    |none=>
     have:=G2.2.1 x (by omega) e c;rw[k1.vl hw a,hv1]at this;omega
 .have hs2:∀x,x<s2.D.length->s.D.length<=x->(s2.cn x).isSome:=λx h a=>by
   by_cases c:x<s1.D.length
   .have h1:=G1.2.2 x a c
    cases e:s1.cn x with
    |none=>rw[e]at h1;cases h1
    |some j=>rw[k2.known x j e];rfl
   .exact G2.2.2 x (by omega) h
  by_cases c:x<s2.D.length
  .have h1:=hs2 x c a
   cases e:s2.cn x with
   |none=>rw[e]at h1;cases h1
   |some j=>show(lq s2.cn f i x).isSome=true;rw[c2 x j e];rfl
  .have hxi:x=i:=by
    obtain⟨p1,p2⟩:=p;have b':x<s3.D.length:=b;rcases p2 with e|e
    .rw[e]at b';omega
    .have hx:x=s2.D.length:=by rw[e]at b';simp at b';omega
     have h1:s3.D[x]?=some (bE FL,bE FR):=(by rw[e,hx,dV (ai _)];simp);have h2:i<s3.D.length:=by
      rcases dX i s3.D.length with h|h
      .exact h
      .rw[iC h]at p1;cases p1
     exact(List.getElem?_inj (by rw[hx,e];simp) k3.pool.good.nodup).1 (h1.trans p1.symm)
   subst hxi;show(lq s2.cn f x x).isSome=true;simp[lq]
set_option maxHeartbeats 4000000 in
theorem Ms(ih:qw m):qw (m+1):=by
 intro pp h s f w hP hf hm hroom;have hds:=hP.small;obtain⟨f0,hM,hf0,hk0⟩:=hP.Dn;have hkf:=qj f (by omega);have c5:=hP.c5;go_enter Tryz.func104,Tryz.ntmps104
 cases hcn:s.cn f with
 |some j=>
  have e0:f0 (.int .i64 (f:Int))=some (.int .i64 (j:Int)):=by rw[hf0,hcn];rfl
  have HCN:=aH hcn;have HF0:=aH hf0;clear hcn hf0;go_wp2_with (at_lookup;refine vU rfl _ _ 135 true rfl 3 3 oD underlying135 (.int .i64 0) (El _) (h+1+1) 900000 f0 rfl (hM.keep rfl) (.int .i64 (f:Int)) rfl hkf ?_;rw[e0];simp only[if_true,gz,Option.isSome_some])
  go_ret
  exact⟨s,j,rfl,jK.refl hP (Below.refl _ _),HCN.out,λ_ _ _=>ai _,λx _ h k=>(by rw[h]at k;cases k),λx a b=>absurd b (by omega)⟩
 |none=>
  have e0:f0 (.int .i64 (f:Int))=none:=by rw[hf0,hcn];rfl
  have HCN:=aH hcn;have ihf:=ih.mono (show f<=m by omega);have R1:=aH (AJ pp h s f true w ihf hP hf hroom);have IH:=aH ihf;have HM:=aH hM;clear hcn hf0 hk0 ih ihf hM
  go_upto_region 5 with(first
   |(at_lookup;refine vU rfl _ _ 135 true rfl 3 3 oD underlying135 (.int .i64 0) (El _) (h+1+1) 900000 f0 rfl (HM.out.keep rfl) (.int .i64 (f:Int)) rfl hkf ?_;rw[e0];simp only[if_true,Option.getD_none,Option.isSome_none])
   |(go_at_call 119;refine(yF pp h s2 _ _ FL FR w2 hP2 Sr NN Kh Vd hlR hI1 hI2).mono ?_;rintro e w3 ⟨s3,i,rfl,iX,hp3,hc3⟩)
   |(go_at_call 160;refine(AJ pp h s1 f false w1 IH.out uO.pool hf1 hroom1).mono ?_;rintro e w2 ⟨s2,v2,FR,rfl,ho2,gX,Ps,hG2,hR2,hlR⟩
     have agC:=aH hG2;have hP2:=gX.pool;have hf2:f<s2.D.length:=aQ hf1 gX.len;have hn1:s1.cn f=none:=by
      cases e:s1.cn f with
      |none=>rfl
      |some j=>exact absurd (ac3.out.2.1 f hf HCN.out (by rw[e];rfl)) (Nat.lt_irrefl _)
     have hn2:s2.cn f=none:=by
      cases e:s2.cn f with
      |none=>rfl
      |some j=>exact absurd (hG2.2.1 f hf1 hn1 (by rw[e];rfl)) (Nat.lt_irrefl _)
     have Sr:s2.D.length+1<=900000:=bU (Nat.add_le_add_left (RQ (uh f) hn2) _) (bU (hG2.1 (f+1) (uh f) hf1) hroom1);have acJ:mK s2.D s2.cn f true FL:=by
      obtain⟨E,hE⟩:=gX.more;have hg:=gX.pool.good.wf;rw[hE]at hg ⊢;exact acK.out.more uO.pool.good.wf hg hf1 gX.known
     have NN:∀x,x∈FL->x<s2.D.length:=λx hx=>(vI hP2.good.wf hP2.uV acJ x hx).1
     have Kh:∀x,x∈FR->x<s2.D.length:=λx hx=>(vI hP2.good.wf hP2.uV hR2 x hx).1
     have hI1:Ints w2 v1 (dx FL):=Ints.eO (bO ho1 gX.keep (λb hb=>(Gh b hb).1)) (by rw[bu];exact bU Vd (by decide));have hI2:Ints w2 v2 (dx FR):=Ints.eO ho2 (by rw[bu];exact bU hlR (by decide));have agj:=aH hR2;clear hn1 hn2 acJ hG2 hR2)
   |(go_at_call 160;refine R1.out.mono ?_;rintro e w1 ⟨s1,v1,FL,rfl,ho1,uO,Gh,hG1,hR1,Vd⟩
     have hf1:f<s1.D.length:=aQ hf uO.len;have hroom1:s1.D.length+miss (f+1) s1.cn<=900000:=bU (hG1.1 (f+1) (uh f) hf) hroom;have ac3:=aH hG1;have acK:=aH hR1;clear hG1 hR1))
  have hdone:=aH (Mt hP hf HCN.out uO ac3.out acK.out gX agC.out agj.out iX hp3 hc3);have hP3:=iX.pool;have hi3:=hp3.lt;have al0:=hP3.small;obtain⟨f3,Gi,hf3,hk3⟩:=hP3.Dn;have hki:=qj i (by omega);have c53:=hP3.c5;have afo:¬(pp=h+1+1):=by have:=hP3.WZ;omega
  have hlt3:=bG hP3.box;have HF3:=aH (And.intro hf3 hk3);clear hf3 hk3 c5 e0 hI1 hI2 NN Kh ho1 ho2 hroom1 Sr
  go_wp2_with (first
   |(at_mapUpdate;refine iT rfl _ _ _ 135 rfl 3 3 oD underlying135 (h+1+1) 900001 _ rfl JC (by unfold maxLen;omega) (.int .i64 (i:Int)) (.int .i64 (i:Int)) rfl rfl hki ?_;intro w5 hM5 hg5)
   |(at_mapUpdate;refine iT rfl _ _ _ 135 rfl 3 3 oD underlying135 (h+1+1) 900000 f3 rfl (Gi.keep rfl) (by unfold maxLen;omega) (.int .i64 (f:Int)) (.int .i64 (i:Int)) rfl rfl hkf ?_;intro w4 JC hg4
     have c54:w4.cell? ⟨pp,5,none⟩=some (.map (some (h+1+1))):=(World.cell?_of_block ((gJ hg4).block pp hlt3 afo)).trans c53))
  go_ret
  have hin:=dm.WS hP3 HF3.out.1 HF3.out.2 hg4 hM5 hg5 hdone.out.1 hdone.out.2.1;exact⟨_,i,rfl,((uO.trans gX).trans iX).trans hin,by simp[lq],hdone.out.2.2⟩
theorem Rv:∀m,qw m:=by
 intro m
 induction m with
 |zero=>intro pp h s f w _ _ h;omega
 |succ m ih=>exact Ms ih
theorem Cw(pp h:Nat)(s:iQ)(f:Nat)(w:World)(hP:dm w pp h s)(hf:f<s.D.length)(hroom:s.D.length+miss (f+1) s.cn<=900000):Calls prog 104 #[.pointer (some ⟨pp,0,none⟩),.int .i64 (f:Int)] w (Dx pp h s f w):=
 Rv (f+1) pp h s f w hP hf (by omega) hroom
end
end Go.Proofs.YteknjeohbcgpdaaGreatDoor