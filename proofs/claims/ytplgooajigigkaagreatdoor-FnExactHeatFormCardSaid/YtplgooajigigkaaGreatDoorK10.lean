/- 10 -/
import Derived.Test.YtplgooajigigkaaGreatDoorK9
set_option maxRecDepth 100000
set_option maxHeartbeats 4000000
namespace Go.Proofs.YtplgooajigigkaaGreatDoor
open Tryz
section
open bE
variable {D F:dh} {side:Bool} {i x j root b k m:Nat} {idx at_ from_ at2:List Nat}
def Xn(D:dh)(at_:List Nat)(k:Nat):Nd:=(bO ((opt D true k).map λx=>at_.getD x 0),bO ((opt D false k).map λx=>at_.getD x 0))
structure pY(D:dh)(root:Nat)(F:dh)(idx at_:List Nat)(b:Nat):Prop where
 len:idx.length=F.length
 atl:at_.length=root+1
 nd:idx.Nodup
 mem:∀j,j∈idx↔bE.Reach D root j/\born (vl D j)<b
 place:∀i (h:i<idx.length),at_[idx[i]]?=some i
 node:∀i (h:i<idx.length),F[i]?=some (Xn D at_ idx[i])
 sorted:idx.Pairwise (λj k=>born (vl D j)<born (vl D k)\/born (vl D j)=born (vl D k)/\nc (Xn D at_ j) (Xn D at_ k)<0)
theorem qf(hD:WF D)(h:x∈opt D side i):born (vl D x)<born (vl D i):=by
 cases side
 .exact yB (Bf hD h)
 .exact yC (Bh hD h)
theorem EC(hD:WF D)(h:bE.Reach D i j):j=i\/born (vl D j)<born (vl D i):=by
 induction h with
 |here=>exact .inl rfl
 | @left j k nd _ hd hk ih=>
  have:=qf hD (show k∈opt D true j by simp[opt,hd];exact hk);rcases ih with rfl|h
  .exact .inr this
  .exact .inr (by omega)
 | @right j k nd _ hd hk ih=>
  have:=qf hD (show k∈opt D false j by simp[opt,hd];exact hk);rcases ih with rfl|h
  .exact .inr this
  .exact .inr (by omega)
theorem pY.pos(hD:WF D)(h:pY D root F idx at_ b)(hj:bE.Reach D root j)(hb:born (vl D j)<=b)(hx:x∈opt D side j):
 ∃p,∃hp:p<idx.length,idx[p]=x/\at_.getD x 0=p:=by
 have hx1:=qf hD hx;obtain⟨p,hp,e⟩:=aQ.1 ((h.mem x).2 ⟨yO hj hx,by omega⟩);refine⟨p,hp,e,?_⟩;have:=h.place p hp;rw[e]at this;rw[bD,this];rfl
theorem rE{y:Nat}:(y∈(Xn D at_ k).1↔∃x,x∈opt D true k/\at_.getD x 0=y)/\(y∈(Xn D at_ k).2↔∃x,x∈opt D false k/\at_.getD x 0=y):=by
 unfold Xn;simp[cz]
theorem pY.inj(g:bE.Good D)(h:pY D root F idx at_ b)(hj:bE.Reach D root j)(hjb:born (vl D j)<=b)(hk:bE.Reach D root k)(hkb:born (vl D k)<=b)(hjD:j<D.length)(UB:k<D.length)
 (e:Xn D at_ j=Xn D at_ k):j=k:=by
 have key:∀{j k:Nat},bE.Reach D root j->born (vl D j)<=b->bE.Reach D root k->born (vl D k)<=b->Xn D at_ j=Xn D at_ k->∀side x,x∈opt D side j->x∈opt D side k:=by
  intro j k hj hjb hk hkb e side x hx;obtain⟨p,hp,e1,e2⟩:=h.pos g.wf hj hjb hx;have hm:∃z,z∈opt D side k/\at_.getD z 0=p:=by
   cases side
   .have:p∈(Xn D at_ j).2:=rE.2.2 ⟨x,hx,e2⟩
    rw[e]at this;exact rE.2.1 this
   .have:p∈(Xn D at_ j).1:=rE.1.2 ⟨x,hx,e2⟩
    rw[e]at this;exact rE.1.1 this
  obtain⟨z,hz,ez⟩:=hm;obtain⟨q,hq,e3,e4⟩:=h.pos g.wf hk hkb hz;have:q=p:=by rw[<-e4,ez]
  subst this;rw[<-e1,e3];exact hz
 have s1:=key hj hjb hk hkb e;have s2:=key hk hkb hj hjb e.symm;refine lX g j k hjD UB ?_;have dj:D[j]?=some D[j]:=af hjD;have dk:D[k]?=some D[k]:=af UB;rw[mJ g.wf dj,mJ g.wf dk];rw[<-qU hjD,<-qU UB,<-pU hjD,<-pU UB];refine yL (λy=>?_) (λy=>?_)
 .simp only[az]
  exact⟨λ⟨x,hx,e⟩=>⟨x,s1 true x hx,e⟩,λ⟨x,hx,e⟩=>⟨x,s2 true x hx,e⟩⟩
 .simp only[az]
  exact⟨λ⟨x,hx,e⟩=>⟨x,s1 false x hx,e⟩,λ⟨x,hx,e⟩=>⟨x,s2 false x hx,e⟩⟩
structure zD(D:dh)(root:Nat)(at_:List Nat)(b:Nat)(from_:List Nat)(m:Nat):Prop where
 mem:∀j,j∈from_↔j<m/\bE.Reach D root j/\born (vl D j)=b
 sorted:from_.Pairwise (λj k=>nc (Xn D at_ j) (Xn D at_ k)<0)
theorem zD.start(D:dh)(root:Nat)(at_:List Nat)(b:Nat):zD D root at_ b [] 0:=⟨by simp,List.Pairwise.nil⟩
theorem zD.skip(h:zD D root at_ b from_ m)(hn:¬(bE.Reach D root m/\born (vl D m)=b)):zD D root at_ b from_ (m+1):=by
 refine⟨λj=>?_,h.sorted⟩;rw[h.mem];constructor
 .rintro⟨a,c⟩;exact⟨by omega,c⟩
 .rintro⟨a,c⟩
  refine⟨?_,c⟩;rcases ib j m with h1|h1
  .exact h1
  .have:j=m:=by omega
   subst this;exact absurd c hn
theorem zD.nd(h:zD D root at_ b from_ m):from_.Nodup:=h.sorted.imp (λ{a c} h e=>by subst e;rw[Bl]at h;omega)
theorem zD.put(g:bE.Good D)(hF:pY D root F idx at_ b)(hr:root<D.length)(h:zD D root at_ b from_ m)(hm:bE.Reach D root m)(hb:born (vl D m)=b)
 (hi:i<=from_.length) (h1:∀j (hj:j<from_.length),j<i->nc (Xn D at_ from_[j]) (Xn D at_ m)<0) (h2:∀hl:i<from_.length,¬nc (Xn D at_ from_[i]) (Xn D at_ m)<0):
 zD D root at_ b (from_.take i++m :: from_.drop i) (m+1):=by
 have hlt:∀j,bE.Reach D root j->j<D.length:=λj hj=>by have:=mi g.wf hj;omega
 refine⟨λj=>?_,?_⟩
 .have e:j∈from_.take i++m :: from_.drop i↔j=m\/j∈from_:=by
   conv=>rhs;rw[<-kX i from_]
   simp only[bq,jk];constructor <;> (intro h;rcases h with h|h|h <;> simp[h])
  rw[e,h.mem];constructor
  .rintro(rfl|⟨a,c⟩)
   .exact⟨by omega,hm,hb⟩
   .exact⟨by omega,c⟩
  .rintro⟨a,c⟩
   rcases ib j m with h1|h1
   .exact .inr ⟨h1,c⟩
   .exact .inl (by omega)
 .have hs:=h.sorted
  have hA:∀x,x∈from_.take i->nc (Xn D at_ x) (Xn D at_ m)<0:=λx hx=>by
   obtain⟨j,hj,rfl⟩:=aQ.1 hx;rw[gV]at hj;rw[List.getElem_take];exact h1 j (by omega) (by omega)
  have hB:∀x,x∈from_.drop i->nc (Xn D at_ m) (Xn D at_ x)<0:=λx hx=>by
   obtain⟨j,hj,rfl⟩:=aQ.1 hx;rw[xH]at hj;rw[List.getElem_drop];have hil:i<from_.length:=(by omega);have h3:=h2 hil;have hmem:=(h.mem from_[i]).1 (ai hil);have hne:nc (Xn D at_ from_[i]) (Xn D at_ m)≠0:=λe0=>by
    have:=hF.inj g hmem.2.1 (by omega) hm (by omega) (hlt _ hmem.2.1) (hlt _ hm) (Bj e0);omega
   have h4:nc (Xn D at_ m) (Xn D at_ from_[i])<0:=(by rw[Cr];omega);by_cases e:j=0
   .subst e;exact h4
   .exact vo h4 (dx.1 hs i (i+j) hil (by omega) (by omega))
  rw[vY];refine⟨hs.sublist (List.take_sublist _ _),?_,λa ha c hc=>?_⟩
  .rw[lu];exact⟨hB,hs.sublist (List.drop_sublist _ _)⟩
  .rcases jk.1 hc with rfl|hc
   .exact hA a ha
   .exact vo (hA a ha) (hB c hc)
theorem UR{at1:List Nat}(h:∀side x,x∈opt D side k->at1[x]?=at2[x]?):Xn D at1 k=Xn D at2 k:=by
 unfold Xn;have e:∀side,(opt D side k).map (λx=>at1.getD x 0)=(opt D side k).map (λx=>at2.getD x 0):=λside=>dC λx hx=>by
  rw[bD,bD,h side x hx]
 rw[e true,e false]
theorem pY.next(g:bE.Good D)(h:pY D root F idx at_ b)(hL:zD D root at_ b from_ (root+1))(hl:at2.length=root+1)
 (p1:∀j (hj:j<from_.length),at2[from_[j]]?=some (F.length+j)) (p2:∀y,y ∉ from_->at2[y]?=at_[y]?):pY D root (F++from_.map (Xn D at_)) (idx++from_) at2 (b+1):=by
 have hx:∀j,born (vl D j)<=b->Xn D at2 j=Xn D at_ j:=λj hj=>UR λside x hx=>p2 x λhm=>by
  have h1:=((hL.mem x).1 hm).2.2;have h2:=qf g.wf hx;omega
 have hi:∀j,j∈idx->born (vl D j)<b:=λj hj=>((h.mem j).1 hj).2
 have hf:∀j,j∈from_->born (vl D j)=b:=λj hj=>((hL.mem j).1 hj).2.2
 have hd:∀j,j∈idx->j ∉ from_:=λj h1 h2=>by have:=hi j h1;have:=hf j h2;omega
 refine⟨by simp[h.len],hl,?_,λj=>?_,λi hlt=>?_,λi hlt=>?_,?_⟩
 .rw[nW]
  exact⟨h.nd,hL.nd,λa ha c hc e=>by subst e;exact hd a ha hc⟩
 .rw[bq,h.mem,hL.mem]
  constructor
  .rintro(⟨a,c⟩|⟨a,c,d⟩)
   .exact⟨a,by omega⟩
   .exact⟨c,by omega⟩
  .rintro⟨a,c⟩
   by_cases e:born (vl D j)<b
   .exact .inl ⟨a,e⟩
   .exact .inr ⟨by have:=mi g.wf a;omega,a,by omega⟩
 .by_cases c:i<idx.length
  .rw[dM c,p2 _ (hd _ (ai c))];exact h.place i c
  .rw[eQ (by omega)]
   rw[p1 _ (by simp at hlt;omega),<-h.len];congr 1;omega
 .by_cases c:i<idx.length
  .rw[dM c,dN (by rw[<-h.len];exact c),hx _ (by have:=hi _ (ai c);omega)]
   exact h.node i c
  .rw[eQ (by omega),dX (by rw[<-h.len];omega)]
   have hl2:i-idx.length<from_.length:=(by simp at hlt;omega);rw[hx _ (Nat.le_of_eq (hf _ (ai hl2)))];rw[<-h.len];simp[hl2]
 .rw[vY]
  refine⟨?_,?_,λa ha c hc=>?_⟩
  .refine fQ ?_ h.sorted
   intro a c ha hc hac;rw[hx a (by have:=hi a ha;omega),hx c (by have:=hi c hc;omega)];exact hac
  .refine fQ ?_ hL.sorted
   intro a c ha hc hac;rw[hx a (Nat.le_of_eq (hf a ha)),hx c (Nat.le_of_eq (hf c hc))];exact .inr ⟨by rw[hf a ha,hf c hc],hac⟩
  .exact .inl (by have:=hi a ha;have:=hf c hc;omega)
theorem pY.start(D:dh)(root:Nat):pY D root [] [] (List.replicate (root+1) 0) 0:=
 ⟨rfl,by simp,List.nodup_nil,by simp,by simp,by simp,List.Pairwise.nil⟩
theorem pY.wf{D:dh}(g:bE.Good D){root b:Nat}{F:dh}{idx at_:List Nat}(h:pY D root F idx at_ b):WF F:=by
 intro i nd hi;have hlt:i<idx.length:=by rw[h.len];exact(df.1 hi).1
 have hn:=h.node i hlt;rw[hi]at hn;injection hn with hn;have hm:=(h.mem _).1 (ai hlt);have key:∀side x,x∈opt D side idx[i]->at_.getD x 0<i:=λside x hx=>by
  obtain⟨p,hp,e1,e2⟩:=h.pos g.wf hm.1 (by omega) hx;rw[e2];have hb:=qf g.wf hx;rcases nV p i with c|c|c
  .exact c
  .subst c;rw[e1]at hb;omega
  .have:=dx.1 h.sorted i p hlt hp c
   rw[e1]at this;omega
 subst hn;exact⟨λk hk=>by obtain⟨x,hx,rfl⟩:=rE.1.1 hk;exact key true x hx,λk hk=>by obtain⟨x,hx,rfl⟩:=rE.2.1 hk;exact key false x hx⟩
theorem pY.same(g:bE.Good D)(hr:root<D.length)(h:pY D root F idx at_ b):∀i (hi:i<idx.length),Same (vl F i) (vl D idx[i]):=by
 intro i
 induction i using Nat.strongRecOn with
 |_ i ih=>
  intro hi;have hm:=(h.mem _).1 (ai hi);have hD:idx[i]<D.length:=by have:=mi g.wf hm.1;omega
  have dj:D[idx[i]]?=some D[idx[i]]:=af hD;have hw:=h.wf g;have hn:=h.node i hi;rw[same_iff,lI hw hn,lH hw hn,lI g.wf dj,lH g.wf dj,<-qU hD,<-pU hD];have key:∀side x,x∈opt D side idx[i]->at_.getD x 0<i->Same (vl F (at_.getD x 0)) (vl D x):=λside x hx hlt=>by
   obtain⟨p,hp,e1,e2⟩:=h.pos g.wf hm.1 (by omega) hx;rw[e2]at hlt ⊢;have:=ih p hlt hp;rw[e1]at this;exact this
  have lt1:∀x,x∈opt D true idx[i]->at_.getD x 0<i:=λx hx=>(hw i _ hn).1 _ (rE.1.2 ⟨x,hx,rfl⟩)
  have lt2:∀x,x∈opt D false idx[i]->at_.getD x 0<i:=λx hx=>(hw i _ hn).2 _ (rE.2.2 ⟨x,hx,rfl⟩)
  refine⟨λy hy=>?_,λy hy=>?_,λy hy=>?_,λy hy=>?_⟩
  .obtain⟨k,hk,rfl⟩:=az.1 hy
   obtain⟨x,hx,rfl⟩:=rE.1.1 hk;exact⟨_,aV hx,key true x hx (lt1 x hx)⟩
  .obtain⟨x,hx,rfl⟩:=az.1 hy
   exact⟨_,aV (rE.1.2 ⟨x,hx,rfl⟩),key true x hx (lt1 x hx)⟩
  .obtain⟨k,hk,rfl⟩:=az.1 hy
   obtain⟨x,hx,rfl⟩:=rE.2.1 hk;exact⟨_,aV hx,key false x hx (lt2 x hx)⟩
  .obtain⟨x,hx,rfl⟩:=az.1 hy
   exact⟨_,aV (rE.2.2 ⟨x,hx,rfl⟩),key false x hx (lt2 x hx)⟩
theorem pY.ahead(g:bE.Good D)(hr:root<D.length)(h:pY D root F idx at_ b):∀i j,i<j->j<F.length->Ahead F i j:=by
 intro i j hij hj;have hj':j<idx.length:=by rw[h.len];exact hj
 have hi':i<idx.length:=by omega
 have hs:=dx.1 h.sorted i j hi' hj' hij;have e1:=mh (h.same g hr i hi');have e2:=mh (h.same g hr j hj');have n1:F.getD i ([],[])=Xn D at_ idx[i]:=by rw[bD,h.node i hi'];rfl
 have n2:F.getD j ([],[])=Xn D at_ idx[j]:=by rw[bD,h.node j hj'];rfl
 unfold Ahead;rw[e1,e2,n1,n2];exact hs
theorem pY.good(g:bE.Good D)(hr:root<D.length)(h:pY D root F idx at_ b):bE.Good F:=by
 refine⟨h.wf g,?_,?_⟩
 .intro nd hnd
  obtain⟨i,hi0,e⟩:=aQ.1 hnd;have hi:F[i]?=some nd:=by rw[af hi0,e]
  have hlt:i<idx.length:=by rw[h.len];exact hi0
  have hn:=h.node i hlt;rw[hi]at hn;injection hn with hn;subst hn;exact⟨kC _,kC _⟩
 .rw[List.Nodup,dx]
  intro i j hi hj hij e;have ha:=h.ahead g hr i j hij hj;have hw:=h.wf g;have v:vl F i=vl F j:=by
   rw[mJ hw (af hi),mJ hw (af hj),e]
  unfold Ahead at ha;rw[v,jM hi,jM hj,e,Bl]at ha;omega
theorem pY.last(g:bE.Good D)(hr:root<D.length)(h:pY D root F idx at_ (born (vl D root)+1)):bI F/\Same (bz F) (vl D root):=by
 have hm:root∈idx:=(h.mem root).2 ⟨.here,by omega⟩;obtain⟨p,hp,e⟩:=aQ.1 hm;have hpl:p=F.length-1:=by
  rcases ib p (F.length-1)with c|c
  .have hq:F.length-1<idx.length:=by rw[h.len];omega
   have hs:=dx.1 h.sorted p (F.length-1) hp hq c;have hm2:=(h.mem _).1 (ai hq);rw[e]at hs;rcases EC g.wf hm2.1 with e2|lt
   .have:=Cq h.nd hp hq (by rw[e,e2]);omega
   .omega
  .have:=h.len;omega
 have hlen:=h.len;have hF:0<F.length:=by omega
 have hs:=h.same g hr p hp;rw[e,hpl]at hs;refine⟨⟨h.good g hr,List.ne_nil_of_length_pos hF,h.ahead g hr,λi hi=>?_⟩,hs⟩;have hi':i<idx.length:=by omega
 have hri:=((h.mem _).1 (ai hi')).1;obtain⟨c,hc,rc,sc⟩:=wJ g (h.good g hr) (a:=F.length-1) (by omega) (dU hs) hri;have:i=c:=lX (h.good g hr) i c hi hc (dn (h.same g hr i hi') sc);rw[this];exact rc
end
section
open Go.RowKit
open bE (dh Nd vl nc cl)
theorem JQ:∀l m:List Nat,Kj (dB l) (dB m)=cl l m
 |[],[]=>rfl
 |[],_ :: _=>rfl
 |_ :: _,[]=>rfl
 |a :: l,b :: m=>by
  have ih:=JQ l m;simp only[dB,List.map_cons]at ih ⊢;simp only[Kj,cl,ih];by_cases h:a<b
  .rw[if_pos h,if_pos (by omega)]
  .rw[if_neg h,if_neg (by omega)]
   by_cases k:b<a
   .rw[if_pos k,if_pos (by omega)]
   .rw[if_neg k,if_neg (by omega)]
theorem zG(v1 v2 u1 u2:Value)(a b:Nd)(w:World)(h1:Ints w v1 (dB a.1))(h2:Ints w v2 (dB a.2))(k1:Ints w u1 (dB b.1))(k2:Ints w u2 (dB b.2)):
 Calls prog 121 #[.agg #[v1,v2],.agg #[u1,u2]] w λe w'=>e=.returned (.bool (decide (nc a b<0)))/\Ext w w':=by
 obtain⟨_,_,rfl,-⟩:=id h1;obtain⟨_,_,rfl,-⟩:=id h2;obtain⟨_,_,rfl,-⟩:=id k1;obtain⟨_,_,rfl,-⟩:=id k2;have hcl:=JQ a.1 b.1;have hcr:=JQ a.2 b.2;have hn:nc a b=if cl a.1 b.1≠0 then cl a.1 b.1 else cl a.2 b.2:=rfl
 go_enter Tryz.func121,Tryz.ntmps121
 by_cases h0:cl a.1 b.1=0
 .have hN:Hid (nc a b=cl a.2 b.2):=by rw[Hid,hn,if_neg (by simpa using h0)]
  clear hn
  go_wp2_with (first
   |(go_at_call 166;refine(Ag _ _ (dB a.1) (dB b.1) _ (by refine h1.ext ?_;first|(go_grown;done)|(refine eH ?_ _;go_grown;done)) (by refine k1.ext ?_;first|(go_grown;done)|(refine eH ?_ _;go_grown;done))).mono ?_;rintro e w1 ⟨rfl,n1,rfl⟩;rw[hcl])
   |(go_at_call 166;refine(Ag _ _ (dB a.2) (dB b.2) _ (by refine h2.ext ?_;first|(go_grown;done)|(refine eH ?_ _;go_grown;done)) (by refine k2.ext ?_;first|(go_grown;done)|(refine eH ?_ _;go_grown;done))).mono ?_;rintro e w1 ⟨rfl,n2,rfl⟩;rw[hcr]))
  go_ret
  refine⟨by rw[hN.out];rfl,?_⟩
  first|(refine eH ?_ _;go_grown;done)|(refine eH ?_ _;refine eH ?_ _;go_grown;done)
 .have hN:Hid (nc a b=cl a.1 b.1):=by rw[Hid,hn,if_pos h0]
  have hb:(cl a.1 b.1 == 0)=false:=by simpa using h0
  clear hn;go_wp2_with (go_at_call 166;refine(Ag _ _ (dB a.1) (dB b.1) _ (by refine h1.ext ?_;first|(go_grown;done)|(refine eH ?_ _;go_grown;done)) (by refine k1.ext ?_;first|(go_grown;done)|(refine eH ?_ _;go_grown;done))).mono ?_;rintro e w1 ⟨rfl,n1,rfl⟩;rw[hcl])
  go_ret
  refine⟨by rw[hN.out];rfl,?_⟩;refine eH ?_ _;go_grown
end
section
open Go.RowKit
open bE (dh Nd vl)
variable {w w':World} {G K:Nat->Prop} {v L R:Value} {xs:List Value} {F:dh} {base i:Nat}
def jE(w:World)(xs:List Value)(F:dh)(base:Nat)(K:Nat->Prop):Prop:=
 ∀i (h:i<F.length),∃L R,xs[i*2]?=some L/\xs[i*2+1]?=some R/\Ints w L (dB (F[i]).1)/\Ints w R (dB (F[i]).2)/\
  (∀b,L.ownBlock=some b->base<=b/\b<w.heap.size/\¬K b)/\(∀b,R.ownBlock=some b->base<=b/\b<w.heap.size/\¬K b)
theorem jE.nil(w:World)(base:Nat)(K:Nat->Prop):jE w [] [] base K:=λi h=>absurd h (by simp)
theorem sN{l:List Int}(h:Ints w v l)(hk:fJ G w w')(hn:∀b,v.ownBlock=some b->¬G b):Ints w' v l:=
 h.keep λb hl hb=>hk.block b (h.blk hl hb) (hn b hb)
theorem jE.keep{K':Nat->Prop}(h:jE w xs F base K)(hk:fJ G w w')(hG:∀b,G b->K b)(hK:∀b,K' b->K b\/w.heap.size<=b):jE w' xs F base K':=by
 intro i hi;obtain⟨L,R,h1,h2,h3,h4,h5,h6⟩:=h i hi;have hz:=hk.size
 exact⟨L,R,h1,h2,sN h3 hk (λb hb g=>(h5 b hb).2.2 (hG b g)),sN h4 hk (λb hb g=>(h6 b hb).2.2 (hG b g)),
  λb hb=>⟨(h5 b hb).1,by have:=(h5 b hb).2.1;omega,λk=>by rcases hK b k with k|k;exact(h5 b hb).2.2 k;have:=(h5 b hb).2.1;omega⟩,
  λb hb=>⟨(h6 b hb).1,by have:=(h6 b hb).2.1;omega,λk=>by rcases hK b k with k|k;exact(h6 b hb).2.2 k;have:=(h6 b hb).2.1;omega⟩⟩
theorem jE.ext(h:jE w xs F base K)(hx:Ext w w'):jE w' xs F base K:=
 h.keep (jR (F:=λ_=>False) hx) (λ_ g=>g.elim) (λ_ k=>.inl k)
theorem getElem?_pairs{n:Nat}(hx:xs.length=n*2)(hi:i<=n)(j:Nat):
 (xs.take (i*2)++([L,R]++xs.drop (i*2)))[j]?=if j<i*2 then xs[j]? else if j=i*2 then some L else if j=i*2+1 then some R else xs[j-2]?:=by
 have hl:(xs.take (i*2)).length=i*2:=by rw[gV];omega
 by_cases h1:j<i*2
 .rw[if_pos h1,dN (by omega),pF,if_pos h1]
 .rw[if_neg h1,dX (by omega),hl]
  by_cases h2:j=i*2
  .rw[if_pos h2,show j-i*2=0 by omega];rfl
  .rw[if_neg h2]
   by_cases h3:j=i*2+1
   .rw[if_pos h3,show j-i*2=1 by omega];rfl
   .rw[if_neg h3,dX (by simp;omega),List.getElem?_drop]
    congr 1;simp;omega
theorem jE.insert(h:jE w xs F base K)(hx:xs.length=F.length*2){nd:Nd}(hi:i<=F.length)
 (hL:Ints w L (dB nd.1)) (hR:Ints w R (dB nd.2)) (bL:∀b,L.ownBlock=some b->base<=b/\b<w.heap.size/\¬K b) (bR:∀b,R.ownBlock=some b->base<=b/\b<w.heap.size/\¬K b):
 jE w (xs.take (i*2)++([L,R]++xs.drop (i*2))) (F.take i++nd :: F.drop i) base K:=by
 intro j hj;have hlt:(F.take i).length=i:=by rw[gV];omega
 have hjl:j<F.length+1:=by simp at hj;omega
 rcases nV j i with c|c|c
 .obtain⟨L',R',h1,h2,h3⟩:=h j (by omega)
  refine⟨L',R',?_,?_,?_⟩
  .rw[getElem?_pairs hx hi,if_pos (by omega)];exact h1
  .rw[getElem?_pairs hx hi,if_pos (by omega)];exact h2
  .rw[dM (by omega),List.getElem_take];exact h3
 .subst c
  refine⟨L,R,?_,?_,?_⟩
  .rw[getElem?_pairs hx hi,if_neg (by omega),if_pos rfl]
  .rw[getElem?_pairs hx hi,if_neg (by omega),if_neg (by omega),if_pos rfl]
  .rw[eQ (by omega)]
   simp only[hlt,qx,jG];exact⟨hL,hR,bL,bR⟩
 .obtain⟨L',R',h1,h2,h3⟩:=h (j-1) (by omega)
  refine⟨L',R',?_,?_,?_⟩
  .rw[getElem?_pairs hx hi,if_neg (by omega),if_neg (by omega),if_neg (by omega),show j*2-2=(j-1)*2 by omega];exact h1
  .rw[getElem?_pairs hx hi,if_neg (by omega),if_neg (by omega),if_neg (by omega),show j*2+1-2=(j-1)*2+1 by omega];exact h2
  .rw[eQ (by omega)]
   have e:j-(F.take i).length=(j-1-i)+1:=(by omega);simp only[e,List.getElem_cons_succ,List.getElem_drop];have e2:i+(j-1-i)=j-1:=(by omega);simp only[e2];exact h3
def dI(w:World)(base:Nat)(v:Value)(F:dh):Prop:=∃a cap,v=.slice a F.length cap/\F.length<=cap/\F.length<=maxLen/\
 (0<F.length->∃b,a=some ⟨b,0,none⟩/\base<=b/\∀i (h:i<F.length),∃L R,w.cell? ⟨b,i*2,none⟩=some L/\w.cell? ⟨b,i*2+1,none⟩=some R/\Ints w L (dB (F[i]).1)/\Ints w R (dB (F[i]).2)/\
  (∀b,L.ownBlock=some b->base<=b/\b<w.heap.size)/\(∀b,R.ownBlock=some b->base<=b/\b<w.heap.size))
theorem dI.ext{w w':World}{base:Nat}{v:Value}{F:dh}(h:dI w base v F)(hx:Ext w w'):dI w' base v F:=by
 obtain⟨a,cap,rfl,h1,h2,h3⟩:=h;refine⟨a,cap,rfl,h1,h2,λh0=>?_⟩;obtain⟨b,rfl,hb,hc⟩:=h3 h0;refine⟨b,rfl,hb,λi hi=>?_⟩;obtain⟨L,R,c1,c2,c3,c4,c5,c6⟩:=hc i hi;have hz:=hx.size;exact⟨L,R,fw hx c1,fw hx c2,c3.ext hx,c4.ext hx,λb hb=>⟨(c5 b hb).1,by have:=(c5 b hb).2;omega⟩,λb hb=>⟨(c6 b hb).1,by have:=(c6 b hb).2;omega⟩⟩
theorem dI.gm{e:Nat}(h:w.ownsRow base e 2 v F.length xs)(hn:jE w xs F base K):dI w base v F:=by
 rcases sV F.length with h0|h0
 .obtain⟨a,cap,rfl,h1,h2⟩:=bT h
  exact⟨a,cap,rfl,h1,by omega,λk=>absurd k (by omega)⟩
 .obtain⟨g,cap,rfl,h1,h2,h3⟩:=iy h h0
  refine⟨_,cap,rfl,h1,by omega,λ_=>⟨g,rfl,(h.lt g rfl).1,λi hi=>?_⟩⟩;obtain⟨L,R,c1,c2,c3,c4,c5,c6⟩:=hn i hi;exact⟨L,R,by rw[h3 _ (by omega)];exact c1,by rw[h3 _ (by omega)];exact c2,c3,c4,λb hb=>⟨(c5 b hb).1,(c5 b hb).2.1⟩,λb hb=>⟨(c6 b hb).1,(c6 b hb).2.1⟩⟩
theorem dI.weaken{base':Nat}(h:dI w base v F)(hb:base'<=base):dI w base' v F:=by
 obtain⟨a,cap,rfl,h1,h2,h3⟩:=h;refine⟨a,cap,rfl,h1,h2,λh0=>?_⟩;obtain⟨b,rfl,hb',hc⟩:=h3 h0;refine⟨b,rfl,by omega,λi hi=>?_⟩;obtain⟨L,R,c1,c2,c3,c4,c5,c6⟩:=hc i hi;exact⟨L,R,c1,c2,c3,c4,λb hb=>⟨by have:=(c5 b hb).1;omega,(c5 b hb).2⟩,λb hb=>⟨by have:=(c6 b hb).1;omega,(c6 b hb).2⟩⟩
theorem dI.at{w:World}{base:Nat}{v:Value}{F:dh}(h:dI w base v F){i:Nat}(hi:i<F.length):
 ∃b cap aL cL aR cR,v=.slice (some ⟨b,0,none⟩) F.length cap/\F.length<=cap/\w.cell? ⟨b,i*2,none⟩=some (.slice aL (F[i]).1.length cL)/\w.cell? ⟨b,i*2+1,none⟩=some (.slice aR (F[i]).2.length cR)/\
  Ints w (.slice aL (F[i]).1.length cL) (dB (F[i]).1)/\Ints w (.slice aR (F[i]).2.length cR) (dB (F[i]).2):=by
 obtain⟨a,cap,rfl,h1,h2,h3⟩:=h;obtain⟨b,rfl,hb,hc⟩:=h3 (by omega);obtain⟨L,R,c1,c2,c3,c4,c5,c6⟩:=hc i hi;obtain⟨aL,cL,rfl,-⟩:=id c3;obtain⟨aR,cR,rfl,-⟩:=id c4;rw[bG]at c1 c2 c3 c4;exact⟨b,cap,aL,cL,aR,cR,rfl,h1,c1,c2,c3,c4⟩
theorem dI.slice{w:World}{base:Nat}{v:Value}{F:dh}(h:dI w base v F):∃a c,v=.slice a F.length c:=by
 obtain⟨a,c,h,_⟩:=h;exact⟨a,c,h⟩
end
