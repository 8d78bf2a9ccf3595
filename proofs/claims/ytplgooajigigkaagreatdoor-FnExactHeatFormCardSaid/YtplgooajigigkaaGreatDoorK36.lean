/- 36 -/
import Derived.Test.YtplgooajigigkaaGreatDoorK22
set_option maxRecDepth 100000
set_option maxHeartbeats 4000000
namespace Go.Proofs.YtplgooajigigkaaGreatDoor
open Tryz
section
open bE
variable {f i:Nat} {cn:Nat->Option Nat} {D D2 D3:dh} {left:Bool} {FL FR:List Nat}
theorem ada{a b c d:List Gm}(h1:∀x,x∈a->∃y,y∈c/\jc x y)(h2:∀y,y∈c->∃x,x∈a/\jc x y)(h3:∀x,x∈b->∃y,y∈d/\jc x y)(h4:∀y,y∈d->∃x,x∈b/\jc x y):jc (.mk a b) (.mk c d):=by
 constructor
 .refine Dl (λr hr=>?_) (λl hl=>?_)
  .obtain⟨y,hy,e⟩:=h3 r hr
   exact .inl ⟨y,hy,e.1⟩
  .obtain⟨x,hx,e⟩:=h2 l hl
   exact .inl ⟨x,hx,e.1⟩
 .refine Dl (λr hr=>?_) (λl hl=>?_)
  .obtain⟨y,hy,e⟩:=h4 r hr
   exact .inl ⟨y,hy,e.2⟩
  .obtain⟨x,hx,e⟩:=h1 l hl
   exact .inl ⟨x,hx,e.2⟩
theorem We{N:Nat}(hf:f<N)(h:cn f=none):1<=miss N cn:=by
 have:f∈(List.range N).filter λx=>(cn x).isNone:=lh.2 ⟨dz.2 hf,by simp[h]⟩
 exact List.length_pos_of_mem this
theorem oO.more{D E:dh}{cn DD:Nat->Option Nat}{f:Nat}{left:Bool}{F:List Nat}(hD:WF D)(hE:WF (D++E))(hf:f<D.length)(hm:∀i j,cn i=some j->DD i=some j)(h:oO D cn f left F):oO (D++E) DD f left F:=by
 obtain⟨h1,line,B,h2,h3⟩:=h;have ho:opt (D++E) left f=opt D left f:=qO hf;have hk:∀x,x∈opt D left f->DD x=cn x:=λx hx=>by
  have:=h1 x hx;cases e:cn x with
  |none=>rw[e]at this;cases this
  |some j=>exact hm x j e
 have hc:uH (D++E) DD left f=uH D cn left f:=by
  unfold uH;rw[ho];exact dC λx hx=>by rw[hk x hx]
 refine⟨λx hx=>?_,line,B,?_,h3.more hD hE (λx hx=>h2.lt x (h2.kept x hx).1)⟩
 .rw[ho]at hx;rw[hk x hx];exact h1 x hx
 .rw[hc];exact h2.more hD hE hf
theorem uG(_hc:CX D cn)(h:∀x,x∈opt D left f->(cn x).isSome):∀y,y∈uH D cn left f->∃x,x∈opt D left f/\cn x=some y:=by
 intro y hy;obtain⟨x,hx,rfl⟩:=az.1 hy;have:=h x hx;cases e:cn x with
 |none=>rw[e]at this;cases this
 |some j=>exact⟨x,hx,by simp[e]⟩
theorem yN(hD:WF D)(hc:CX D cn){F:List Nat}(h:oO D cn f left F):∀x,x∈F->x<D.length/\born (vl D x)<born (vl D f)/\(cn x).isSome:=by
 obtain⟨h1,line,B,h2,h3⟩:=h;intro x hx;have hl:=(h2.kept x (h3.1 x hx).1).1;refine⟨h2.lt x hl,?_,?_⟩
 .refine h2.xn (λx=>born (vl D x)<born (vl D f)) (λi side x hi hx=>?_) (λy hy=>?_) x hl
  .have:=qf hD hx;omega
  .obtain⟨z,hz,e⟩:=uG hc h1 y hy
   have:=qf hD hz;have:=(hc.ok z y e).2.2;omega
 .refine h2.xn (λx=>(cn x).isSome) (λi side x hi hx=>?_) (λy hy=>?_) x hl
  .cases e:cn i with
   |none=>rw[e]at hi;cases hi
   |some j=>
    unfold opt at hx;cases e2:D[i]? with
    |none=>rw[e2]at hx;simp at hx
    |some nd=>
     rw[e2]at hx;exact hc.sub i j nd e e2 x (by cases side <;> simp at hx ⊢ <;> simp[hx])
  .obtain⟨z,hz,e⟩:=uG hc h1 y hy
   rw[hc.self z y e];rfl
def mF(cn:Nat->Option Nat)(f i:Nat):Nat->Option Nat:=λx=>if x=f\/x=i then some i else cn x
theorem FV(g2:bE.Good D2)(g3:bE.Good D3)(hc:CX D2 cn)(hf:f<D2.length)(R1:oO D2 cn f true FL)(R2:oO D2 cn f false FR)(p:jN D2 FL FR D3 i):
 Canon (vl D3 i)/\jc (vl D3 i) (vl D3 f)/\born (vl D3 i)<=born (vl D3 f):=by
 have m1:=yN g2.wf hc R1;have m2:=yN g2.wf hc R2;obtain⟨h1,line,B,iL,tL⟩:=R1;obtain⟨h2,ao4,B',iR,tR⟩:=R2;have hvl:∀x,x<D2.length->vl D3 x=vl D2 x:=λx hx=>p.vl g2.wf g3.wf hx
 have hfe:D2[f]?=some D2[f]:=af hf;have ho:=rF hf;have hE:jc (.mk ((uH D2 cn true f).map (vl D2)) ((uH D2 cn false f).map (vl D2))) (vl D2 f):=by
  rw[mJ g2.wf hfe,<-ho.1,<-ho.2];have key:∀left,(∀x,x∈opt D2 left f->(cn x).isSome)->(∀x,x∈(uH D2 cn left f).map (vl D2)->∃y,y∈(opt D2 left f).map (vl D2)/\jc x y)/\∀y,y∈(opt D2 left f).map (vl D2)->∃x,x∈(uH D2 cn left f).map (vl D2)/\jc x y:=by
   intro left hk;constructor
   .intro x hx
    obtain⟨y,hy,rfl⟩:=az.1 hx;obtain⟨z,hz,e⟩:=uG hc hk y hy;exact⟨vl D2 z,az.2 ⟨z,hz,rfl⟩,(hc.ok z y e).2.1⟩
   .intro y hy
    obtain⟨z,hz,rfl⟩:=az.1 hy;have:=hk z hz;cases e:cn z with
    |none=>rw[e]at this;cases this
    |some j=>exact⟨vl D2 j,az.2 ⟨j,az.2 ⟨z,hz,by simp[e]⟩,rfl⟩,(hc.ok z j e).2.1⟩
  exact ada (key true h1).1 (key true h1).2 (key false h2).1 (key false h2).2
 have cc:∀left,(∀x,x∈opt D2 left f->(cn x).isSome)->∀x,x∈uH D2 cn left f->Canon (vl D2 x):=λleft hk x hx=>by
  obtain⟨z,hz,e⟩:=uG hc hk x hx;exact(hc.ok z x e).1
 have tS:∀{left:Bool} {B F:List Nat},yG D2 left B F->yG D2 left B (bO F):=λ{left B F} t=>
  ⟨λx hx=>t.1 x (cz.1 hx),λx hx=>by obtain⟨z,hz,hg⟩:=t.2 x hx;exact⟨z,cz.2 hz,hg⟩⟩
 obtain⟨q1,q2⟩:=Sq g2.wf hE (cc true h1) (cc false h2) iL iR (tS tL) (tS tR);have hv:vl D3 i=.mk ((bO FL).map (vl D2)) ((bO FR).map (vl D2)):=by
  rw[mJ g3.wf p.1];congr 1
  .exact dC λx hx=>hvl x (m1 x (cz.1 hx)).1
  .exact dC λx hx=>hvl x (m2 x (cz.1 hx)).1
 refine⟨by rw[hv];exact q2,by rw[hv,hvl f hf];exact q1,?_⟩;rw[hvl f hf,hv,uJ];constructor
 .intro x hx
  obtain⟨y,hy,rfl⟩:=az.1 (show x∈(bO FL).map (vl D2) from hx);exact(m1 y (cz.1 hy)).2.1
 .intro x hx
  obtain⟨y,hy,rfl⟩:=az.1 (show x∈(bO FR).map (vl D2) from hx);exact(m2 y (cz.1 hy)).2.1
theorem Yo(g2:bE.Good D2)(g3:bE.Good D3)(hc:CX D2 cn)(hc3:CX D3 cn)(hf:f<D2.length)(hn:cn f=none)(R1:oO D2 cn f true FL)(R2:oO D2 cn f false FR)(p:jN D2 FL FR D3 i):
 CX D3 (mF cn f i)/\∀x j,cn x=some j->mF cn f i x=some j:=by
 obtain⟨c1,c2,c3⟩:=FV g2 g3 hc hf R1 R2 p;have m1:=yN g2.wf hc R1;have m2:=yN g2.wf hc R2;have hil:=p.lt;have hfl:f<D3.length:=by have:=p.len;omega
 have hmono:∀x j,cn x=some j->mF cn f i x=some j:=by
  intro x j hx;unfold mF;split
  .rename_i h
   rcases h with rfl|rfl
   .rw[hn]at hx;cases hx
   .have h1:=hc3.ok x j hx
    have h2:=(hc3.lt x j hx).2;rw[lX g3 j x h2 hil (fT h1.1 c1 h1.2.1)]
  .exact hx
 have hsome:∀x,(cn x).isSome->(mF cn f i x).isSome:=λx hx=>by
  cases e:cn x with
  |none=>rw[e]at hx;cases hx
  |some j=>rw[hmono x j e];rfl
 have hi:mF cn f i i=some i:=by simp[mF]
 have hinv:∀x j,mF cn f i x=some j->(x=f/\j=i)\/(x=i/\j=i)\/cn x=some j:=by
  intro x j h;unfold mF at h;split at h
  .rename_i hx
   injection h with h;rcases hx with rfl|rfl
   .exact .inl ⟨rfl,h.symm⟩
   .exact .inr (.inl ⟨rfl,h.symm⟩)
  .exact .inr (.inr h)
 refine⟨⟨λx j h=>?_,λx j h=>?_,λx j h=>?_,λx j nd h hnd y hy=>?_⟩,hmono⟩
 .rcases hinv x j h with⟨rfl,rfl⟩|⟨rfl,rfl⟩|h
  .exact⟨hfl,hil⟩
  .exact⟨hil,hil⟩
  .exact hc3.lt x j h
 .rcases hinv x j h with⟨rfl,rfl⟩|⟨rfl,rfl⟩|h
  .exact⟨c1,c2,c3⟩
  .exact⟨c1,jc.refl _,aJ _⟩
  .exact hc3.ok x j h
 .rcases hinv x j h with⟨rfl,rfl⟩|⟨rfl,rfl⟩|h
  .exact hi
  .exact hi
  .exact hmono j j (hc3.self x j h)
 .rcases hinv x j h with⟨rfl,rfl⟩|⟨rfl,rfl⟩|h
  .have hfe:D2[x]?=some D2[x]:=af hf
   obtain⟨E,e,_⟩:=p.ext;rw[e,dN hf,hfe]at hnd;injection hnd with hnd;subst hnd;have ho:=rF hf;rcases bq.1 hy with hy|hy
   .exact hsome y (R1.1 y (by rw[ho.1];exact hy))
   .exact hsome y (R2.1 y (by rw[ho.2];exact hy))
  .rw[p.1]at hnd
   injection hnd with hnd;subst hnd;rcases bq.1 hy with hy|hy
   .exact hsome y (m1 y (cz.1 hy)).2.2
   .exact hsome y (m2 y (cz.1 hy)).2.2
  .exact hsome y (hc3.sub x j nd h hnd y hy)
end
section
open Go.RowKit
open bE (dh Nd vl Same Ge)
variable {w w1 w2:World} {pp h f i n m:Nat} {s:jF} {f0:Value->Option Value}
theorem dA.FU(k:dA w pp h s):∃f,jb prog 3 w (h+1+1) 900000 f/\(∀i:Nat,f (.int .i64 (i:Int))=(s.cn i).map λj=>.int .i64 (j:Int))/\∀k v,f k=some v->∃i:Nat,k=.int .i64 (i:Int):=by
 obtain⟨n,f,h1,h2,h3⟩:=k.CO;refine⟨f,(h1.room ((List.range s.D.length).map λ(a:Nat)=>.int .i64 (a:Int)) λkey v hv=>?_).mono ?_,h2,h3⟩
 .obtain⟨i,rfl⟩:=h3 key v hv
  rw[h2]at hv;cases e:s.cn i with
  |none=>rw[e]at hv;cases hv
  |some j=>exact az.2 ⟨i,dz.2 (k.yA.lt i j e).1,rfl⟩
 .rw[bK,uV];exact k.small
theorem JR{cn:Nat->Option Nat}(h:∀x:Nat,f0 (.int .i64 (x:Int))=(cn x).map λj=>.int .i64 (j:Int))(x:Nat):
 upd (λ_ _=>Classical.propDecidable _) (upd (λ_ _=>Classical.propDecidable _) f0 (.int .i64 (f:Int)) (.int .i64 (i:Int))) (.int .i64 (i:Int)) (.int .i64 (i:Int)) (.int .i64 (x:Int))=(mF cn f i x).map λj=>.int .i64 (j:Int):=by
 unfold mF;by_cases c:x=i
 .subst c;rw[upd_same];simp
 .rw[upd_ne (by simp;omega)]
  by_cases d:x=f
  .subst d;rw[upd_same];simp
  .rw[upd_ne (by simp;omega),h];simp[c,d]
theorem dA.abf(k:dA w pp h s)(hf:∀x:Nat,f0 (.int .i64 (x:Int))=(s.cn x).map λj=>.int .i64 (j:Int))(hk:∀k v,f0 k=some v->∃i:Nat,k=.int .i64 (i:Int))
 (hg1:w.grownBy w1 (some (h+1+1))) (hM:jb prog 3 w2 (h+1+1) n (upd (λ_ _=>Classical.propDecidable _) (upd (λ_ _=>Classical.propDecidable _) f0 (.int .i64 (f:Int)) (.int .i64 (i:Int))) (.int .i64 (i:Int)) (.int .i64 (i:Int)))) (hg2:w1.grownBy w2 (some (h+1+1)))
 (hc:CX s.D (mF s.cn f i)) (hm:∀x j,s.cn x=some j->mF s.cn f i x=some j):jr pp h s w ⟨s.lv,s.rv,s.bv,s.D,s.S,mF s.cn f i⟩ w2:=by
 have kk:=(jA hg1).trans (jA hg2) (λ_ _ h=>h);obtain⟨h1,h2⟩:=k.maps kk (λb hb=>by omega) hc (k.Mw (kk.block _ (k.pJ (by omega)) (by omega))) (k.NT (kk.block _ (k.pJ (by omega)) (by omega))) ⟨n,_,hM,JR hf,λkey v hv=>by
  rcases AJ hv with⟨rfl,rfl⟩|hv
  .exact⟨i,rfl⟩
  .rcases AJ hv with⟨rfl,rfl⟩|hv
   .exact⟨f,rfl⟩
   .exact hk key v hv⟩
 exact⟨h1,h2,λ_ h=>.inl h,λ_ h=>h,λ_ h=>.inl h,⟨[],by simp⟩,hm⟩
theorem uh.mono(h:uh n)(hm:m<=n):uh m:=λpp hh s f w a b c d=>h pp hh s f w a b (by omega) d
theorem PK{s1 s2 s3:jF}{w3:World}{FL FR:List Nat}(hP:dA w pp h s)(hf:f<s.D.length)(hn:s.cn f=none)
 (k1:jr pp h s w s1 w1) (G1:xG s f s1) (R1:oO s1.D s1.cn f true FL) (k2:jr pp h s1 w1 s2 w2) (G2:xG s1 f s2) (R2:oO s2.D s2.cn f false FR) (k3:jr pp h s2 w2 s3 w3) (p:jN s2.D FL FR s3.D i) (hcn:s3.cn=s2.cn):
 CX s3.D (mF s3.cn f i)/\(∀x j,s3.cn x=some j->mF s3.cn f i x=some j)/\Grow s f ⟨s3.lv,s3.rv,s3.bv,s3.D,s3.S,mF s3.cn f i⟩:=by
 have hw:=hP.good.wf;have h1:=k1.len;have h2:=k2.len;have h3:=p.len;have hv1:=k1.vl hw hf;have hn1:s1.cn f=none:=by
  cases e:s1.cn f with
  |none=>rfl
  |some j=>have:=G1.2.1 f hf hn (by rw[e];rfl);omega
 have hn2:s2.cn f=none:=by
  cases e:s2.cn f with
  |none=>rfl
  |some j=>have:=G2.2.1 f (by omega) hn1 (by rw[e];rfl);omega
 have R1':oO s2.D s2.cn f true FL:=by
  obtain⟨E,hE⟩:=k2.more;have hg:=k2.pool.good.wf;rw[hE]at hg ⊢;exact R1.more k1.pool.good.wf hg (by omega) k2.known
 have hc3:=k3.pool.yA;rw[hcn]at hc3 ⊢;obtain⟨c1,c2⟩:=Yo k2.pool.good k3.pool.good k2.pool.yA hc3 (by omega) hn2 R1' R2 p;obtain⟨d1,d2,d3⟩:=FV k2.pool.good k3.pool.good k2.pool.yA (by omega) R1' R2 p;refine⟨c1,c2,λN a b=>?_,λx a b c=>?_,λx a b=>?_⟩
 .have g1:=G1.1 N a b
  have g2:=G2.1 N a (by omega);have g3:=Z6 (N:=N) (cn:=s2.cn) (DD:=mF s2.cn f i) (λx _ hx=>by cases e:s2.cn x with|none=>rw[e]at hx;cases hx|some j=>rw[c2 x j e];rfl) a hn2 (by simp[mF]);show s3.D.length+miss N (mF s2.cn f i)<=_;omega
 .have agY:=(k1.trans k2).trans k3
  by_cases e1:x=f
  .subst e1;exact aJ _
  .by_cases e2:x=i
   .subst e2
    rw[agY.vl hw a,agY.vl hw hf]at d3;exact d3
   .have e3:mF s2.cn f i x=s2.cn x:=by simp[mF,e1,e2]
    rw[show(⟨s3.lv,s3.rv,s3.bv,s3.D,s3.S,mF s2.cn f i⟩:jF).cn x=s2.cn x from e3]at c;cases e:s1.cn x with
    |some j=>exact Nat.le_of_lt (G1.2.1 x a b (by rw[e];rfl))
    |none=>
     have:=G2.2.1 x (by omega) e c;rw[k1.vl hw a,hv1]at this;omega
 .have hs2:∀x,x<s2.D.length->s.D.length<=x->(s2.cn x).isSome:=λx h a=>by
   by_cases c:x<s1.D.length
   .have h1:=G1.2.2 x a c
    cases e:s1.cn x with
    |none=>rw[e]at h1;cases h1
    |some j=>rw[k2.known x j e];rfl
   .exact G2.2.2 x (by omega) h
  by_cases c:x<s2.D.length
  .have h1:=hs2 x c a
   cases e:s2.cn x with
   |none=>rw[e]at h1;cases h1
   |some j=>show(mF s2.cn f i x).isSome=true;rw[c2 x j e];rfl
  .have hxi:x=i:=by
    obtain⟨p1,p2⟩:=p;have b':x<s3.D.length:=b;rcases p2 with e|e
    .rw[e]at b';omega
    .have hx:x=s2.D.length:=by rw[e]at b';simp at b';omega
     have h1:s3.D[x]?=some (bO FL,bO FR):=(by rw[e,hx,dX (aJ _)];simp);have h2:i<s3.D.length:=by
      rcases ib i s3.D.length with h|h
      .exact h
      .rw[kY h]at p1;cases p1
     exact(List.getElem?_inj (by rw[hx,e];simp) k3.pool.good.nodup).1 (h1.trans p1.symm)
   subst hxi;show(mF s2.cn f x x).isSome=true;simp[mF]
theorem PI(ih:uh m):uh (m+1):=by
 intro pp h s f w hP hf hm hroom;have hds:=hP.small;obtain⟨f0,hM,hf0,hk0⟩:=hP.FU;have hkf:=uO f (by omega);have c5:=hP.c5;go_enter Tryz.func73,Tryz.ntmps73
 cases hcn:s.cn f with
 |some j=>
  have e0:f0 (.int .i64 (f:Int))=some (.int .i64 (j:Int)):=by rw[hf0,hcn];rfl
  have Qe:=aW hcn;have HF0:=aW hf0;clear hcn hf0;go_wp2_with (at_lookup;refine Ip rfl _ _ 152 true rfl 3 3 rH underlying152 (.int .i64 0) (Kq _) (h+1+1) 900000 f0 rfl (hM.keep rfl) (.int .i64 (f:Int)) rfl hkf ?_;rw[e0];simp only[if_true,kI,Option.isSome_some])
  go_ret
  exact⟨s,j,rfl,jr.refl hP (gz _ _),Qe.out,λ_ _ _=>aJ _,λx _ h k=>(by rw[h]at k;cases k),λx a b=>absurd b (by omega)⟩
 |none=>
  have e0:f0 (.int .i64 (f:Int))=none:=by rw[hf0,hcn];rfl
  have Qe:=aW hcn;have ihf:=ih.mono (show f<=m by omega);have R1:=aW (Db pp h s f true w ihf hP hf hroom);have IH:=aW ihf;have HM:=aW hM;clear hcn hf0 hk0 ih ihf hM
  go_upto_region 5 with(first
   |(at_lookup;refine Ip rfl _ _ 152 true rfl 3 3 rH underlying152 (.int .i64 0) (Kq _) (h+1+1) 900000 f0 rfl (HM.out.keep rfl) (.int .i64 (f:Int)) rfl hkf ?_;rw[e0];simp only[if_true,Option.getD_none,Option.isSome_none])
   |(go_at_call 125;refine(qW pp h s2 _ _ FL FR w2 hP2 WX Zm Zl hlL hlR hI1 hI2).mono ?_;rintro e w3 ⟨s3,i,rfl,iq,hp3,hc3⟩)
   |(go_at_call 126;refine(Db pp h s1 f false w1 IH.out ym.pool hf1 hroom1).mono ?_;rintro e w2 ⟨s2,v2,FR,rfl,ho2,gZ,att,hG2,hR2,hlR⟩
     have amF:=aW hG2;have hP2:=gZ.pool;have hf2:f<s2.D.length:=bg hf1 gZ.len;have hn1:s1.cn f=none:=by
      cases e:s1.cn f with
      |none=>rfl
      |some j=>exact absurd (ahY.out.2.1 f hf Qe.out (by rw[e];rfl)) (Nat.lt_irrefl _)
     have hn2:s2.cn f=none:=by
      cases e:s2.cn f with
      |none=>rfl
      |some j=>exact absurd (hG2.2.1 f hf1 hn1 (by rw[e];rfl)) (Nat.lt_irrefl _)
     have WX:s2.D.length+1<=900000:=bZ (Nat.add_le_add_left (We (mO f) hn2) _) (bZ (hG2.1 (f+1) (mO f) hf1) hroom1);have ahx:oO s2.D s2.cn f true FL:=by
      obtain⟨E,hE⟩:=gZ.more;have hg:=gZ.pool.good.wf;rw[hE]at hg ⊢;exact ahy.out.more ym.pool.good.wf hg hf1 gZ.known
     have Zm:∀x,x∈FL->x<s2.D.length:=λx hx=>(yN hP2.good.wf hP2.yA ahx x hx).1
     have Zl:∀x,x∈FR->x<s2.D.length:=λx hx=>(yN hP2.good.wf hP2.yA hR2 x hx).1
     have hI1:Ints w2 v1 (dB FL):=Ints.gm (bS ho1 gZ.keep (λb hb=>(JE b hb).1)) (by rw[bG];exact bZ hlL (by decide));have hI2:Ints w2 v2 (dB FR):=Ints.gm ho2 (by rw[bG];exact bZ hlR (by decide));have amr:=aW hR2;clear hn1 hn2 ahx hG2 hR2)
   |(go_at_call 126;refine R1.out.mono ?_;rintro e w1 ⟨s1,v1,FL,rfl,ho1,ym,JE,hG1,UH,hlL⟩
     have hf1:f<s1.D.length:=bg hf ym.len;have hroom1:s1.D.length+miss (f+1) s1.cn<=900000:=bZ (hG1.1 (f+1) (mO f) hf) hroom;have ahY:=aW hG1;have ahy:=aW UH;clear hG1 UH))
  have hdone:=aW (PK hP hf Qe.out ym ahY.out ahy.out gZ amF.out amr.out iq hp3 hc3);have hP3:=iq.pool;have hi3:=hp3.lt;have atp:=hP3.small;obtain⟨f3,JG,hf3,hk3⟩:=hP3.FU;have hki:=uO i (by omega);have c53:=hP3.c5;have alf:¬(pp=h+1+1):=by have:=hP3.ap1;omega
  have hlt3:=bW hP3.box;have HF3:=jm hf3 hk3;clear hf3 hk3 c5 e0 hI1 hI2 Zm Zl ho1 ho2 hroom1 WX
  go_wp2_with (first
   |(at_mapUpdate;refine ku rfl _ _ _ 152 rfl 3 3 rH underlying152 (h+1+1) 900001 _ rfl Mm (by unfold maxLen;omega) (.int .i64 (i:Int)) (.int .i64 (i:Int)) rfl rfl hki ?_;intro w5 hM5 hg5)
   |(at_mapUpdate;refine ku rfl _ _ _ 152 rfl 3 3 rH underlying152 (h+1+1) 900000 f3 rfl (JG.keep rfl) (by unfold maxLen;omega) (.int .i64 (f:Int)) (.int .i64 (i:Int)) rfl rfl hkf ?_;intro w4 Mm hg4
     have c54:w4.cell? ⟨pp,5,none⟩=some (.map (some (h+1+1))):=(mP ((jA hg4).block pp hlt3 alf)).trans c53))
  go_ret
  have hin:=dA.abf hP3 HF3.out.1 HF3.out.2 hg4 hM5 hg5 hdone.out.1 hdone.out.2.1;exact⟨_,i,rfl,((ym.trans gZ).trans iq).trans hin,by simp[mF],hdone.out.2.2⟩
theorem VI:∀m,uh m:=by
 intro m
 induction m with
 |zero=>intro pp h s f w _ _ h;omega
 |succ m ih=>exact PI ih
theorem EJ(pp h:Nat)(s:jF)(f:Nat)(w:World)(hP:dA w pp h s)(hf:f<s.D.length)(hroom:s.D.length+miss (f+1) s.cn<=900000):Calls prog 73 #[.pointer (some ⟨pp,0,none⟩),.int .i64 (f:Int)] w (F6 pp h s f w):=
 VI (f+1) pp h s f w hP hf (by omega) hroom
end
