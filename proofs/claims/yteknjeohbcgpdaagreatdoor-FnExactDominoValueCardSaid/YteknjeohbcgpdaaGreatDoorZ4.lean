/-
  Plain law: the form of a game; no condition. (4 texts.)
-/
import Derived.Test.YteknjeohbcgpdaaGreatDoorZ3
namespace Go.Proofs.YteknjeohbcgpdaaGreatDoor.Cgt
def plus:Gm→Gm→Gm
 | a,b=>.mk ((a.l.attach.map fun x=>plus x.1 b)++b.l.attach.map fun y=>plus a y.1) ((a.r.attach.map fun x=>plus x.1 b)++b.r.attach.map fun y=>plus a y.1)
termination_by a b=>sizeOf a+sizeOf b
decreasing_by
 · have:=Gm.dY x.2;omega
 · have:=Gm.dY y.2;omega
 · have:=Gm.dX x.2;omega
 · have:=Gm.dX y.2;omega
theorem ED (a b:Gm):plus a b=.mk ((a.l.map fun x=>plus x b)++b.l.map fun y=>plus a y) ((a.r.map fun x=>plus x b)++b.r.map fun y=>plus a y):=by
 rw[plus];simp
theorem fu {a b x:Gm}:x∈(plus a b).l↔(∃ y,y∈a.l∧plus y b=x)∨(∃ y,y∈b.l∧plus a y=x):=by
 rw[ED];simp[Gm.l]
theorem fq {a b x:Gm}:x∈(plus a b).r↔(∃ y,y∈a.r∧plus y b=x)∨(∃ y,y∈b.r∧plus a y=x):=by
 rw[ED];simp[Gm.r]
theorem jy {a a' b b':Gm} (h:Same a a') (k:Same b b'):Same (plus a b) (plus a' b'):=by
 rw[same_iff]
 obtain⟨h1,h2,h3,h4⟩:=(same_iff _ _).1 h
 obtain⟨k1,k2,k3,k4⟩:=(same_iff _ _).1 k
 refine⟨fun x hx=>?_,fun y hy=>?_,fun x hx=>?_,fun y hy=>?_⟩
 · rcases fu.1 hx with ⟨z,hz,rfl⟩ | ⟨z,hz,rfl⟩
   · obtain⟨u,hu,s⟩:=h1 z hz;exact⟨_,fu.2 (.inl ⟨u,hu,rfl⟩),jy s k⟩
   · obtain⟨u,hu,s⟩:=k1 z hz;exact⟨_,fu.2 (.inr ⟨u,hu,rfl⟩),jy h s⟩
 · rcases fu.1 hy with ⟨z,hz,rfl⟩ | ⟨z,hz,rfl⟩
   · obtain⟨u,hu,s⟩:=h2 z hz;exact⟨_,fu.2 (.inl ⟨u,hu,rfl⟩),jy s k⟩
   · obtain⟨u,hu,s⟩:=k2 z hz;exact⟨_,fu.2 (.inr ⟨u,hu,rfl⟩),jy h s⟩
 · rcases fq.1 hx with ⟨z,hz,rfl⟩ | ⟨z,hz,rfl⟩
   · obtain⟨u,hu,s⟩:=h3 z hz;exact⟨_,fq.2 (.inl ⟨u,hu,rfl⟩),jy s k⟩
   · obtain⟨u,hu,s⟩:=k3 z hz;exact⟨_,fq.2 (.inr ⟨u,hu,rfl⟩),jy h s⟩
 · rcases fq.1 hy with ⟨z,hz,rfl⟩ | ⟨z,hz,rfl⟩
   · obtain⟨u,hu,s⟩:=h4 z hz;exact⟨_,fq.2 (.inl ⟨u,hu,rfl⟩),jy s k⟩
   · obtain⟨u,hu,s⟩:=k4 z hz;exact⟨_,fq.2 (.inr ⟨u,hu,rfl⟩),jy h s⟩
termination_by sizeOf a+sizeOf b
decreasing_by
 all_goals first
  | (have:=Gm.dY hz;omega)
  | (have:=Gm.dY hu;omega)
  | (have:=Gm.dX hz;omega)
  | (have:=Gm.dX hu;omega)
theorem iA (a b:Gm):Same (plus a b) (plus b a):=by
 rw[same_iff]
 refine⟨fun x hx=>?_,fun y hy=>?_,fun x hx=>?_,fun y hy=>?_⟩
 · rcases fu.1 hx with ⟨z,hz,rfl⟩ | ⟨z,hz,rfl⟩
   · exact⟨_,fu.2 (.inr ⟨z,hz,rfl⟩),iA _ _⟩
   · exact⟨_,fu.2 (.inl ⟨z,hz,rfl⟩),iA _ _⟩
 · rcases fu.1 hy with ⟨z,hz,rfl⟩ | ⟨z,hz,rfl⟩
   · exact⟨_,fu.2 (.inr ⟨z,hz,rfl⟩),iA _ _⟩
   · exact⟨_,fu.2 (.inl ⟨z,hz,rfl⟩),iA _ _⟩
 · rcases fq.1 hx with ⟨z,hz,rfl⟩ | ⟨z,hz,rfl⟩
   · exact⟨_,fq.2 (.inr ⟨z,hz,rfl⟩),iA _ _⟩
   · exact⟨_,fq.2 (.inl ⟨z,hz,rfl⟩),iA _ _⟩
 · rcases fq.1 hy with ⟨z,hz,rfl⟩ | ⟨z,hz,rfl⟩
   · exact⟨_,fq.2 (.inr ⟨z,hz,rfl⟩),iA _ _⟩
   · exact⟨_,fq.2 (.inl ⟨z,hz,rfl⟩),iA _ _⟩
termination_by sizeOf a+sizeOf b
decreasing_by
 all_goals first
  | (have:=Gm.dY hz;omega)
  | (have:=Gm.dX hz;omega)
theorem lQ (x y b:Gm):Ge (plus x b) (plus y b)↔Ge x y:=by
 constructor
 · intro h
   obtain⟨h1,h2⟩:=(dZ _ _).1 h
   rw[dZ]
   exact⟨fun r hr g=>h1 _ (fq.2 (.inl ⟨r,hr,rfl⟩)) ((lQ y r b).2 g),fun l hl g=>h2 _ (fu.2 (.inl ⟨l,hl,rfl⟩)) ((lQ l x b).2 g)⟩
 · intro h
   obtain⟨h1,h2⟩:=(dZ _ _).1 h
   rw[dZ]
   refine⟨fun r hr g=>?_,fun l hl g=>?_⟩
   · rcases fq.1 hr with ⟨z,hz,rfl⟩ | ⟨z,hz,rfl⟩
     · exact h1 z hz ((lQ y z b).1 g)
     · exact((dZ _ _).1 g).1 _ (fq.2 (.inr ⟨z,hz,rfl⟩)) ((lQ x y z).2 h)
   · rcases fu.1 hl with ⟨z,hz,rfl⟩ | ⟨z,hz,rfl⟩
     · exact h2 z hz ((lQ z x b).1 g)
     · exact((dZ _ _).1 g).2 _ (fu.2 (.inr ⟨z,hz,rfl⟩)) ((lQ x y z).2 h)
termination_by sizeOf x+sizeOf y+sizeOf b
decreasing_by
 all_goals first
  | (have:=Gm.dX hr;omega)
  | (have:=Gm.dY hl;omega)
  | (have:=Gm.dX hz;omega)
  | (have:=Gm.dY hz;omega)
theorem KM {a a' b b':Gm} (h:Eqv a a') (k:Eqv b b'):Eqv (plus a b) (plus a' b'):=by
 have p:∀ {u v:Gm} (c:Gm),Eqv u v→Eqv (plus u c) (plus v c):=fun c e=>⟨(lQ _ _ c).2 e.1,(lQ _ _ c).2 e.2⟩
 exact(p b h).trans ((iA a' b).eqv.trans ((p a' k).trans (iA b' a').eqv))
def vw:Gm:=.mk [] []
theorem qh (a:Gm):Same (plus a vw) a:=by
 rw[same_iff]
 refine⟨fun x hx=>?_,fun y hy=>⟨_,fu.2 (.inl ⟨y,hy,rfl⟩),qh y⟩,fun x hx=>?_,fun y hy=>⟨_,fq.2 (.inl ⟨y,hy,rfl⟩),qh y⟩⟩
 · rcases fu.1 hx with ⟨z,hz,rfl⟩ | ⟨z,hz,rfl⟩
   · exact⟨z,hz,qh z⟩
   · cases hz
 · rcases fq.1 hx with ⟨z,hz,rfl⟩ | ⟨z,hz,rfl⟩
   · exact⟨z,hz,qh z⟩
   · cases hz
termination_by sizeOf a
decreasing_by
 all_goals first
  | exact Gm.dY hy
  | exact Gm.dX hy
  | exact Gm.dY hz
  | exact Gm.dX hz
end Go.Proofs.YteknjeohbcgpdaaGreatDoor.Cgt
namespace Go.Proofs.YteknjeohbcgpdaaGreatDoor.Cgt
def born (g:Gm):Nat :=
 max (g.l.attach.foldr (fun x m=>max (born x.1+1) m) 0) (g.r.attach.foldr (fun x m=>max (born x.1+1) m) 0)
termination_by sizeOf g
decreasing_by
 · exact Gm.dY x.2
 · exact Gm.dX x.2
theorem uS {α:Type} (f:α→Nat) (l:List α) (n:Nat):l.foldr (fun x m=>max (f x+1) m) 0≤n↔∀ x,x∈l→f x<n:=by
 induction l with
 | nil=>simp
 | cons a l ih=>simp only[List.foldr_cons,Nat.max_le,List.mem_cons,ih];constructor
                · rintro⟨h1,h2⟩ x (rfl | h)
                  · omega
                  · exact h2 x h
                · intro h;exact⟨h a (.inl rfl),fun x hx=>h x (.inr hx)⟩
theorem lX (g:Gm) (n:Nat):born g≤n↔(∀ x,x∈g.l→born x<n)∧(∀ x,x∈g.r→born x<n):=by
 rw[born,Nat.max_le,uS (fun x:{x // x∈g.l}=>born x.1),uS (fun x:{x // x∈g.r}=>born x.1)]
 constructor
 · rintro⟨h1,h2⟩;exact⟨fun x hx=>h1 ⟨x,hx⟩ (by simp),fun x hx=>h2 ⟨x,hx⟩ (by simp)⟩
 · rintro⟨h1,h2⟩;exact⟨fun x _=>h1 x.1 x.2,fun x _=>h2 x.1 x.2⟩
theorem yU {g x:Gm} (h:x∈g.l):born x<born g:=((lX g _).1 (Nat.le_refl _)).1 x h
theorem yT {g x:Gm} (h:x∈g.r):born x<born g:=((lX g _).1 (Nat.le_refl _)).2 x h
theorem iy {a b:Gm} (h:Same a b):born a=born b:=by
 have h':=h
 rw[same_iff] at h'
 obtain⟨h1,h2,h3,h4⟩:=h'
 apply Nat.le_antisymm
 · rw[lX]
   refine⟨fun x hx=>?_,fun x hx=>?_⟩
   · obtain⟨y,hy,s⟩:=h1 x hx;rw[iy s];exact yU hy
   · obtain⟨y,hy,s⟩:=h3 x hx;rw[iy s];exact yT hy
 · rw[lX]
   refine⟨fun y hy=>?_,fun y hy=>?_⟩
   · obtain⟨x,hx,s⟩:=h2 y hy;rw[← iy s];exact yU hx
   · obtain⟨x,hx,s⟩:=h4 y hy;rw[← iy s];exact yT hx
termination_by sizeOf a+sizeOf b
decreasing_by
 · have:=Gm.dY hx;have:=Gm.dY hy;omega
 · have:=Gm.dX hx;have:=Gm.dX hy;omega
 · have:=Gm.dY hx;have:=Gm.dY hy;omega
 · have:=Gm.dX hx;have:=Gm.dX hy;omega
def cl:List Nat→List Nat→Int
 | [],[]=>0
 | [],_ :: _=>-1
 | _ :: _,[]=>1
 | a :: l,b :: m=>if a<b then -1 else if b<a then 1 else cl l m
theorem OJ (a:List Nat):cl a a=0:=by induction a with
 | nil=>rfl
 | cons x a ih=>simp[cl,ih]
theorem JV (a b:List Nat):cl b a=- cl a b:=by
 induction a generalizing b with
 | nil=>cases b <;> simp[cl]
 | cons x a ih =>
   cases b with
   | nil=>simp[cl]
   | cons y b =>
     simp only[cl]
     by_cases h1:x<y
     · rw[if_neg (by omega),if_pos h1,if_pos h1];rfl
     · by_cases h2:y<x
       · rw[if_pos h2,if_neg h1,if_pos h2]
       · rw[if_neg h2,if_neg h1,if_neg h1,if_neg h2];exact ih b
theorem wh {a b:List Nat} (h:cl a b=0):a=b:=by
 induction a generalizing b with
 | nil=>cases b with
   | nil=>rfl
   | cons y b=>simp[cl] at h
 | cons x a ih =>
   cases b with
   | nil=>simp[cl] at h
   | cons y b =>
     simp only[cl] at h
     split at h
     · omega
     · split at h
       · omega
       · rw[ih h,show x=y by omega]
theorem Dj {a b c:List Nat} (h:cl a b<0) (k:cl b c<0):cl a c<0:=by
 induction a generalizing b c with
 | nil =>
   cases b with
   | nil=>simp[cl] at h
   | cons y b =>
     cases c with
     | nil=>simp[cl] at k
     | cons z c=>simp[cl]
 | cons x a ih =>
   cases b with
   | nil=>simp[cl] at h
   | cons y b =>
     cases c with
     | nil=>simp[cl] at k
     | cons z c =>
       simp only[cl] at h k ⊢
       split at h <;> split at k <;> try (split at h <;> try omega) <;> try (split at k <;> try omega)
       all_goals first
        | (rw[if_pos (by omega)];omega)
        | (rename_i h1 h2;rw[if_neg (by omega),if_neg (by omega)];exact ih h k)
        | (split at k <;> first | omega | (rw[if_pos (by omega)];omega) | (rw[if_neg (by omega),if_neg (by omega)];exact ih h k))
def nc (a b:Nd):Int:=if cl a.1 b.1≠0 then cl a.1 b.1 else cl a.2 b.2
theorem zt (a:Nd):nc a a=0:=by simp[nc,OJ]
theorem ry {a b:Nd} (h:nc a b=0):a=b:=by
 unfold nc at h
 split at h
 · contradiction
 · rename_i h1;exact Prod.ext (wh (by simpa using h1)) (wh h)
theorem rz (a b:Nd):nc b a=- nc a b:=by
 unfold nc
 rw[JV a.1 b.1,JV a.2 b.2]
 by_cases h:cl a.1 b.1=0
 · simp[h]
 · rw[if_pos (by omega),if_pos h]
theorem pE {a b c:Nd} (h:nc a b<0) (k:nc b c<0):nc a c<0:=by
 unfold nc at *
 by_cases h1:cl a.1 b.1=0
 · have e:=wh h1
   rw[if_neg (by simpa using h1)] at h
   rw[e]
   by_cases h2:cl b.1 c.1=0
   · rw[if_neg (by simpa using h2)] at k ⊢;exact Dj h k
   · rw[if_pos h2] at k ⊢;exact k
 · rw[if_pos h1] at h
   by_cases h2:cl b.1 c.1=0
   · have e:=wh h2
     rw[← e,if_pos h1];exact h
   · rw[if_pos h2] at k
     have:=Dj h k
     rw[if_pos (by omega)];exact this
def Ahead (D:Dag) (i j:Nat):Prop :=
 born (vl D i)<born (vl D j)∨born (vl D i)=born (vl D j)∧nc (D.getD i ([],[])) (D.getD j ([],[]))<0
inductive Reach (D:Dag) (i:Nat):Nat→Prop
 | here:Reach D i i
 | left {j k:Nat} {nd:Nd} (h:Reach D i j) (hd:D[j]?=some nd) (hk:k∈nd.1):Reach D i k
 | right {j k:Nat} {nd:Nd} (h:Reach D i j) (hd:D[j]?=some nd) (hk:k∈nd.2):Reach D i k
theorem kJ {D:Dag} (h:WF D):∀ i,born (vl D i)≤i:=by
 intro i
 induction i using Nat.strongRecOn with
 | _ i ih =>
   cases hd:D[i]? with
   | none=>rw[y8 hd,lX];simp[Gm.l,Gm.r]
   | some nd =>
     obtain⟨h1,h2⟩:=h i nd hd
     rw[lX,ib h hd,gZ h hd]
     refine⟨fun x hx=>?_,fun x hx=>?_⟩
     · obtain⟨k,hk,rfl⟩:=List.mem_map.1 hx;have:=ih k (h1 k hk);have:=h1 k hk;omega
     · obtain⟨k,hk,rfl⟩:=List.mem_map.1 hx;have:=ih k (h2 k hk);have:=h2 k hk;omega
structure dH (F:Dag):Prop where
 good:Good F
 ne:F≠[]
 sorted:∀ i j,i<j→j<F.length→Ahead F i j
 reach:∀ i,i<F.length→Reach F (F.length-1) i
def bE (F:Dag):Gm:=vl F (F.length-1)
theorem jd {D:Dag} (h:WF D) {i j:Nat} (hr:Reach D i j):j≤i:=by
 induction hr with
 | here=>omega
 | left _ hd hk ih=>have:=(h _ _ hd).1 _ hk;omega
 | right _ hd hk ih=>have:=(h _ _ hd).2 _ hk;omega
theorem oD {D E:Dag} (hD:Good D) (hE:Good E) {i a:Nat} (ha:a<E.length) (s:Same (vl D i) (vl E a)) {j:Nat} (hr:Reach D i j) :
 ∃ b,b<E.length∧Reach E a b∧Same (vl D j) (vl E b):=by
 induction hr with
 | here=>exact⟨a,ha,.here,s⟩
 | left hr hd hk ih =>
   obtain⟨b,hb,rb,sb⟩:=ih
   have db:E[b]?=some E[b]:=List.getElem?_eq_getElem hb
   rw[same_iff,ib hD.wf hd,ib hE.wf db] at sb
   obtain⟨y,hy,t⟩:=sb.1 _ (List.mem_map_of_mem hk)
   obtain⟨m,hm,rfl⟩:=List.mem_map.1 hy
   exact⟨m,by have:=(hE.wf b _ db).1 m hm;omega,.left rb db hm,t⟩
 | right hr hd hk ih =>
   obtain⟨b,hb,rb,sb⟩:=ih
   have db:E[b]?=some E[b]:=List.getElem?_eq_getElem hb
   rw[same_iff,gZ hD.wf hd,gZ hE.wf db] at sb
   obtain⟨y,hy,t⟩:=sb.2.2.1 _ (List.mem_map_of_mem hk)
   obtain⟨m,hm,rfl⟩:=List.mem_map.1 hy
   exact⟨m,by have:=(hE.wf b _ db).2 m hm;omega,.right rb db hm,t⟩
theorem y7 {D E:Dag} (hD:WF D) (hE:WF E) {k:Nat} (h:D.take k=E.take k):∀ i,i<k→i<D.length→vl D i=vl E i:=by
 intro i
 induction i using Nat.strongRecOn with
 | _ i ih =>
   intro hik hi
   have hd:D[i]?=some D[i]:=List.getElem?_eq_getElem hi
   have he:E[i]?=some D[i]:=by
    have:=congrArg (fun l=>l[i]?) h
    simp only[List.getElem?_take,if_pos hik] at this
    rw[← this];exact hd
   obtain⟨h1,h2⟩:=hD i _ hd
   rw[jh hD hd,jh hE he]
   congr 1
   · exact List.map_congr_left fun m hm=>ih m (h1 m hm) (by have:=h1 m hm;omega) (by have:=h1 m hm;omega)
   · exact List.map_congr_left fun m hm=>ih m (h2 m hm) (by have:=h2 m hm;omega) (by have:=h2 m hm;omega)
theorem Hw {F:Dag} (hF:dH F) {i j:Nat} (h:i≤j) (hj:j<F.length):born (vl F i)≤born (vl F j):=by
 rcases Nat.lt_or_ge i j with h1 | h1
 · rcases hF.sorted i j h1 hj with h2 | h2 <;> omega
 · rw[show i=j by omega];exact Nat.le_refl _
theorem oZ {D:Dag} {i:Nat} (h:i<D.length):D.getD i ([],[])=D[i]:=by simp[List.getD,h]
theorem vR {F E:Dag} (hF:dH F) (hE:dH E) (hs:Same (bE F) (bE E)) {k:Nat} (hk:F.take k=E.take k) (hn:k<F.length) :
 ∃ j,∃ hj:j<E.length,k≤j∧Same (vl F k) (vl E j)∧E[j]=F[k]:=by
 have nF:0<F.length:=by omega
 have nE:0<E.length:=List.length_pos_iff.2 hE.ne
 obtain⟨j,hj,_,sj⟩:=oD hF.good hE.good (by omega:E.length-1<E.length) hs (hF.reach k hn)
 have hkj:k≤j:=by
  rcases Nat.lt_or_ge j k with h | h
  · have e:=y7 hF.good.wf hE.good.wf hk j h (by omega)
    rw[← e] at sj
    have:=jY hF.good k j hn (by omega) sj
    omega
  · exact h
 refine⟨j,hj,hkj,sj,?_⟩
 have dF:F[k]?=some F[k]:=List.getElem?_eq_getElem hn
 have dE:E[j]?=some E[j]:=List.getElem?_eq_getElem hj
 have bj:=iy sj
 have low:∀ o,o<E.length→born (vl E o)<born (vl E j)→o<k:=by
  intro o ho hb
  obtain⟨m,hm,_,sm⟩:=oD hE.good hF.good (by omega:F.length-1<F.length) (iw hs) (hE.reach o ho)
  have bm:=iy sm
  have hmk:m<k:=by
   rcases Nat.lt_or_ge m k with h | h
   · exact h
   · have:=Hw hF h hm;omega
  have e:=y7 hF.good.wf hE.good.wf hk m hmk hm
  rw[e] at sm
  have hmE:m<E.length:=by
   have:=congrArg List.length hk
   simp at this;omega
  have:=jY hE.good o m ho hmE sm
  omega
 have wF:=hF.good.wf k _ dF
 have wE:=hE.good.wf j _ dE
 have s':=sj
 rw[same_iff,ib hF.good.wf dF,ib hE.good.wf dE,gZ hF.good.wf dF,gZ hE.good.wf dE] at s'
 obtain⟨s1,s2,s3,s4⟩:=s'
 have key:∀ x y,x<k→x<F.length→y<E.length→born (vl E y)<born (vl E j)→Same (vl F x) (vl E y)→x=y:=by
  intro x y hx hxF hy hb t
  have hyk:=low y hy hb
  have hyF:y<F.length:=by omega
  rw[← y7 hF.good.wf hE.good.wf hk y hyk hyF] at t
  exact jY hF.good x y hxF hyF t
 have bl:∀ y,y∈(E[j]).1→born (vl E y)<born (vl E j):=fun y hy=>yU (by rw[ib hE.good.wf dE];exact List.mem_map_of_mem hy)
 have br:∀ y,y∈(E[j]).2→born (vl E y)<born (vl E j):=fun y hy=>yT (by rw[gZ hE.good.wf dE];exact List.mem_map_of_mem hy)
 refine Prod.ext ?_ ?_
 · refine nu (hE.good.asc _ (List.getElem_mem hj)).1 (hF.good.asc _ (List.getElem_mem hn)).1 fun y=>⟨fun hy=>?_,fun hx=>?_⟩
   · obtain⟨x,hx,t⟩:=s2 _ (List.mem_map_of_mem hy)
     obtain⟨x,hx2,rfl⟩:=List.mem_map.1 hx
     have:=wF.1 x hx2;have:=wE.1 y hy
     rw[← key x y (by omega) (by omega) (by omega) (bl y hy) t];exact hx2
   · obtain⟨z,hz,t⟩:=s1 _ (List.mem_map_of_mem hx)
     obtain⟨z,hz2,rfl⟩:=List.mem_map.1 hz
     have:=wF.1 y hx;have:=wE.1 z hz2
     rw[key y z (by omega) (by omega) (by omega) (bl z hz2) t];exact hz2
 · refine nu (hE.good.asc _ (List.getElem_mem hj)).2 (hF.good.asc _ (List.getElem_mem hn)).2 fun y=>⟨fun hy=>?_,fun hx=>?_⟩
   · obtain⟨x,hx,t⟩:=s4 _ (List.mem_map_of_mem hy)
     obtain⟨x,hx2,rfl⟩:=List.mem_map.1 hx
     have:=wF.2 x hx2;have:=wE.2 y hy
     rw[← key x y (by omega) (by omega) (by omega) (br y hy) t];exact hx2
   · obtain⟨z,hz,t⟩:=s3 _ (List.mem_map_of_mem hx)
     obtain⟨z,hz2,rfl⟩:=List.mem_map.1 hz
     have:=wF.2 y hx;have:=wE.2 z hz2
     rw[key y z (by omega) (by omega) (by omega) (br z hz2) t];exact hz2
theorem step_eq {F E:Dag} (hF:dH F) (hE:dH E) (hs:Same (bE F) (bE E)) {k:Nat} (hk:F.take k=E.take k) (hn:k<F.length) (hm:k<E.length):F[k]=E[k]:=by
 obtain⟨j,hj,hkj,sj,ej⟩:=vR hF hE hs hk hn
 obtain⟨i,hi,hki,si,ei⟩:=vR hE hF (iw hs) hk.symm hm
 rcases Nat.eq_or_lt_of_le hkj with h | h
 · subst h;exact ej.symm
 · rcases Nat.eq_or_lt_of_le hki with h' | h'
   · subst h';exact ei
   · have b1:=iy sj
     have b2:=iy si
     have a1:=hE.sorted k j h hj
     have a2:=hF.sorted k i h' hi
     unfold Ahead at a1 a2
     rw[oZ hm,oZ hj,ej] at a1
     rw[oZ hn,oZ hi,ei] at a2
     rcases a1 with a1 | ⟨a1,c1⟩
     · rcases a2 with a2 | ⟨a2,c2⟩ <;> omega
     · rcases a2 with a2 | ⟨a2,c2⟩
       · omega
       · have:=rz F[k] E[k]
         omega
theorem wT {F E:Dag} (hF:dH F) (hE:dH E) (hs:Same (bE F) (bE E)):F=E:=by
 have main:∀ k,k≤F.length→k≤E.length∧F.take k=E.take k:=by
  intro k
  induction k with
  | zero=>intro _;exact⟨Nat.zero_le _,by simp⟩
  | succ k ih =>
    intro hk
    obtain⟨h1,h2⟩:=ih (by omega)
    obtain⟨j,hj,hkj,_,_⟩:=vR hF hE hs h2 (by omega)
    refine⟨by omega,?_⟩
    rw[List.take_succ_eq_append_getElem (by omega),List.take_succ_eq_append_getElem (by omega),h2,step_eq hF hE hs h2 (by omega) (by omega)]
 obtain⟨h1,h2⟩:=main F.length (Nat.le_refl _)
 rcases Nat.eq_or_lt_of_le h1 with h | h
 · rw[List.take_length,h,List.take_length] at h2;exact h2
 · obtain⟨j,hj,hkj,_,_⟩:=vR hE hF (iw hs) h2.symm h
   omega
end Go.Proofs.YteknjeohbcgpdaaGreatDoor.Cgt
namespace Go.Proofs.YteknjeohbcgpdaaGreatDoor.Cgt
theorem Aj {g h:Gm} (SL:Gm→Prop)
 (cover:∀ l,l∈g.l→∃ i,SL i∧Ge i l)
 (step:∀ i,SL i→(∃ x,x∈h.l∧Ge x i)∨(∃ k,k∈i.r∧Ge g k∧∀ x,x∈k.l→SL x))
 (IA:∀ r,r∈h.r→¬ Ge g r):Ge h g:=by
 have main:∀ n i,sizeOf i<n→SL i→¬ Ge i h:=by
  intro n
  induction n with
  | zero=>intro i h0;omega
  | succ n ih =>
    intro i hn hi hg
    rcases step i hi with ⟨x,hx,k⟩ | ⟨k,hk,hgk,hc⟩
    · exact lC hx (bK _ _ _ k hg)
    · refine((dZ i h).1 hg).1 k hk ?_
      rw[dZ]
      refine⟨fun r hr c=>IA r hr (bK _ _ _ hgk c),fun x hx c=>?_⟩
      have h1:=Gm.dX hk
      have h2:=Gm.dY hx
      exact ih x (by omega) (hc x hx) c
 rw[dZ]
 refine⟨IA,fun l hl c=>?_⟩
 obtain⟨i,hi,k⟩:=cover l hl
 exact main _ i (Nat.lt_succ_self _) hi (bK _ _ _ k c)
theorem Ai {g h:Gm} (SR:Gm→Prop)
 (cover:∀ r,r∈g.r→∃ i,SR i∧Ge r i)
 (step:∀ i,SR i→(∃ x,x∈h.r∧Ge i x)∨(∃ k,k∈i.l∧Ge k g∧∀ x,x∈k.r→SR x))
 (IB:∀ l,l∈h.l→¬ Ge l g):Ge g h:=by
 have main:∀ n i,sizeOf i<n→SR i→¬ Ge h i:=by
  intro n
  induction n with
  | zero=>intro i h0;omega
  | succ n ih =>
    intro i hn hi hg
    rcases step i hi with ⟨x,hx,k⟩ | ⟨k,hk,hgk,hc⟩
    · exact lu hx (bK _ _ _ hg k)
    · refine((dZ h i).1 hg).2 k hk ?_
      rw[dZ]
      refine⟨fun x hx c=>?_,fun l hl c=>IB l hl (bK _ _ _ c hgk)⟩
      have h1:=Gm.dY hk
      have h2:=Gm.dX hx
      exact ih x (by omega) (hc x hx) c
 rw[dZ]
 refine⟨fun r hr c=>?_,IB⟩
 obtain⟨i,hi,k⟩:=cover r hr
 exact main _ i (Nat.lt_succ_self _) hi (bK _ _ _ c k)
theorem EC {g k x:Gm} (hk:Ge g k) (hx:x∈k.l):¬ Ge x g:=fun c=>lC hx (bK _ _ _ c hk)
theorem EB {g k x:Gm} (hk:Ge k g) (hx:x∈k.r):¬ Ge g x:=fun c=>lu hx (bK _ _ _ hk c)
theorem stays {α:Type} (ge:α→α→Prop) (refl:∀ a,ge a a) (trans:∀ a b c,ge a b→ge b c→ge a c)
 (l:List α) (Hu:∀ a b,a∈l→b∈l→ge a b→ge b a→a=b) :
 ∀ a,a∈l→∃ b,b∈l∧ge b a∧∀ c,c∈l→ge c b→c=b:=by
 classical
 have main:∀ n a,a∈l→(l.filter (fun c=>decide (ge c a))).length≤n→∃ b,b∈l∧ge b a∧∀ c,c∈l→ge c b→c=b:=by
  intro n
  induction n with
  | zero =>
    intro a ha hn
    have:a∈l.filter (fun c=>decide (ge c a)):=by simp[ha,refl]
    have:=List.length_pos_of_mem this
    omega
  | succ n ih =>
    intro a ha hn
    by_cases h:∃ c,c∈l∧ge c a∧c≠a
    · obtain⟨c,hc,hca,hne⟩:=h
      have hlt:(l.filter (fun d=>decide (ge d c))).length<(l.filter (fun d=>decide (ge d a))).length:=by
       have e:l.filter (fun d=>decide (ge d c))=(l.filter (fun d=>decide (ge d a))).filter (fun d=>decide (ge d c)):=by
        rw[List.filter_filter]
        refine List.filter_congr fun d _=>?_
        by_cases h1:ge d c
        · simp[h1,trans _ _ _ h1 hca]
        · simp[h1]
       rw[e]
       have hm:a∈l.filter (fun d=>decide (ge d a)):=by simp[ha,refl]
       have hna:¬ ge a c:=fun k=>hne (Hu c a hc ha hca k)
       refine Nat.lt_of_le_of_ne (List.length_filter_le _ _) fun e2=>?_
       have:=(List.filter_eq_self.1 (List.filter_sublist.eq_of_length e2)) a hm
       simp[hna] at this
      obtain⟨b,hb,hbc,hmax⟩:=ih c hc (by omega)
      exact⟨b,hb,trans _ _ _ hbc hca,hmax⟩
    · exact⟨a,ha,refl a,fun c hc hca=>Classical.byContradiction fun hne=>h ⟨c,hc,hca,hne⟩⟩
 intro a ha
 exact main _ a ha (Nat.le_refl _)
end Go.Proofs.YteknjeohbcgpdaaGreatDoor.Cgt
namespace Go.Proofs.YteknjeohbcgpdaaGreatDoor
open Cgt (Dag Gm Canon Eqv dH bE Same plus)
def dU (F:Dag) (g:Gm):Prop:=dH F∧∃ c,Same (bE F) c∧Canon c∧Eqv c g
theorem dU.eqv {F:Dag} {g:Gm} (h:dU F g):Eqv (bE F) g:=by
 obtain⟨_,c,h1,_,h2⟩:=h
 exact h1.eqv.trans h2
theorem dU.to {F:Dag} {g g':Gm} (h:dU F g) (e:Eqv g g'):dU F g':=by
 obtain⟨i,c,h1,h2,h3⟩:=h
 exact⟨i,c,h1,h2,h3.trans e⟩
theorem dU.unique {F G:Dag} {g:Gm} (h:dU F g) (k:dU G g):F=G:=by
 obtain⟨i1,g1,s1,c1,e1⟩:=h
 obtain⟨i2,g2,s2,c2,e2⟩:=k
 exact Cgt.wT i1 i2 (Cgt.gu s1 (Cgt.gu (Cgt.iP c1 c2 (e1.trans e2.symm)) (Cgt.iw s2)))
theorem dU.sum {F G H F':Dag} {a b g:Gm} (hF:dU F a) (hG:dU G b) (hH:Same (bE H) (plus (bE F) (bE G))) (i:dH F') (s:Same (bE F') g) (c:Canon g) (e:Eqv g (bE H)):dU F' (plus a b) :=
 ⟨i,g,s,c,e.trans (hH.eqv.trans (Cgt.KM hF.eqv hG.eqv))⟩
end Go.Proofs.YteknjeohbcgpdaaGreatDoor