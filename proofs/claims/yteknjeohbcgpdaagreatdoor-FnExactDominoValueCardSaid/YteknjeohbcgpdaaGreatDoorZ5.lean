/-
  Plain law: boards as rows of letters, their free cells, the domino laid on them, their texts; no condition. (3 texts.)
-/
import Derived.Test.YteknjeohbcgpdaaGreatDoorZ4
namespace Go.Proofs.YteknjeohbcgpdaaGreatDoor.Cgt
abbrev Cs:=Nat→Nat→Bool
def rm (S:Cs) (r c:Nat):Cs:=fun x y=>S x y && !(x == r && y == c)
def nxr (left:Bool) (r:Nat):Nat:=if left then r+1 else r
def nxc (left:Bool) (c:Nat):Nat:=if left then c else c+1
def can (left:Bool) (S:Cs) (r c:Nat):Bool:=S r c && S (nxr left r) (nxc left c)
def lay (left:Bool) (S:Cs) (r c:Nat):Cs:=rm (rm S r c) (nxr left r) (nxc left c)
def Bd (S:Cs):Prop:=∀ r c,S r c=true→r<8∧c<8
def grid:List (Nat × Nat):=(List.range 8).flatMap fun r=>(List.range 8).map fun c=>(r,c)
def cnt (S:Cs):Nat:=grid.countP fun p=>S p.1 p.2
def jo (left:Bool) (S:Cs):List Cs:=(grid.filter fun p=>can left S p.1 p.2).map fun p=>lay left S p.1 p.2
def gF:Nat→Cs→Gm
 | 0,_=>.mk [] []
 | n+1,S=>.mk ((jo true S).map (gF n)) ((jo false S).map (gF n))
def gB (S:Cs):Gm:=gF (cnt S) S
theorem Cc {r c:Nat}:(r,c)∈grid↔r<8∧c<8:=by simp[grid]
theorem GV:grid.Nodup:=by decide
theorem Pg (left:Bool) (r c:Nat):¬ (nxr left r=r∧nxc left c=c):=by cases left <;> simp[nxr,nxc]
theorem Rf {S:Cs} {r c x y:Nat} (h:rm S r c x y=true):S x y=true∧¬ (x=r∧y=c):=by
 simp only[rm,Bool.and_eq_true,Bool.not_eq_true',Bool.and_eq_false_iff,beq_eq_false_iff_ne] at h
 exact⟨h.1,fun e=>by rcases h.2 with k | k;exact k e.1;exact k e.2⟩
theorem kU {S:Cs} {r c x y:Nat}:rm S r c x y=true↔S x y=true∧¬ (x=r∧y=c) :=
 ⟨Rf,fun ⟨h,k⟩=>by
  simp only[rm,Bool.and_eq_true,Bool.not_eq_true',Bool.and_eq_false_iff,beq_eq_false_iff_ne]
  refine⟨h,?_⟩
  by_cases e:x=r
  · exact .inr fun e'=>k ⟨e,e'⟩
  · exact .inl e⟩
theorem gz {left:Bool} {S:Cs} {r c:Nat}:can left S r c=true↔S r c=true∧S (nxr left r) (nxc left c)=true:=by simp[can]
theorem mP {left:Bool} {S:Cs} {r c x y:Nat}:lay left S r c x y=true↔S x y=true∧¬ (x=r∧y=c)∧¬ (x=nxr left r∧y=nxc left c):=by
 rw[lay,kU,kU,and_assoc]
theorem yN {A B:Cs} (h:∀ x y,A x y=true↔B x y=true):A=B:=by
 funext x y
 have:=h x y
 cases hA:A x y <;> cases hB:B x y <;> simp_all
theorem Bd.lay {left:Bool} {S:Cs} (h:Bd S) (r c:Nat):Bd (lay left S r c):=fun x y k=>h x y (mP.1 k).1
theorem MK {l:List (Nat × Nat)} (hn:l.Nodup) {S:Cs} {r c:Nat} (hm:(r,c)∈l) (hs:S r c=true):l.countP (fun p=>rm S r c p.1 p.2)+1=l.countP fun p=>S p.1 p.2:=by
 induction l with
 | nil=>cases hm
 | cons q l ih =>
   obtain⟨hq,hn⟩:=List.nodup_cons.1 hn
   rw[List.countP_cons,List.countP_cons]
   by_cases e:q=(r,c)
   · subst e
     have h0:l.countP (fun p=>rm S r c p.1 p.2)=l.countP fun p=>S p.1 p.2:=by
      apply List.countP_congr
      intro p hp
      rw[kU]
      exact⟨fun h=>h.1,fun h=>⟨h,fun e=>hq (by rw[← e.1,← e.2];exact hp)⟩⟩
     have h1:rm S r c r c=false:=by simp[rm]
     simp[h0,h1,hs]
   · have hm':(r,c)∈l:=by rcases List.mem_cons.1 hm with h | h;exact absurd h.symm e;exact h
     have h1:rm S r c q.1 q.2=S q.1 q.2:=by
      have:¬ (q.1=r∧q.2=c):=fun k=>e (by rw[← k.1,← k.2])
      cases hS:S q.1 q.2 with
      | true=>exact kU.2 ⟨hS,this⟩
      | false=>simp[rm,hS]
     rw[h1]
     have:=ih hn hm'
     omega
theorem rG {S:Cs} {r c:Nat} (hb:r<8∧c<8) (hs:S r c=true):cnt (rm S r c)+1=cnt S:=MK GV (Cc.2 hb) hs
theorem o6 {left:Bool} {S:Cs} {r c:Nat} (hB:Bd S) (h:can left S r c=true):cnt (lay left S r c)+2=cnt S:=by
 obtain⟨h1,h2⟩:=gz.1 h
 have a:=rG (hB _ _ h1) h1
 have b:=rG (S:=rm S r c) (hB _ _ h2) (kU.2 ⟨h2,Pg left r c⟩)
 unfold lay;omega
theorem o5 {S:Cs} (hB:Bd S) {r c:Nat} (h:S r c=true):0<cnt S:=by
 have:=rG (hB _ _ h) h;omega
theorem nT {left:Bool} {S x:Cs} (hB:Bd S):x∈jo left S↔∃ r c,can left S r c=true∧x=lay left S r c:=by
 unfold jo
 rw[List.mem_map]
 constructor
 · rintro⟨⟨r,c⟩,h,rfl⟩
   exact⟨r,c,(List.mem_filter.1 h).2,rfl⟩
 · rintro⟨r,c,h,rfl⟩
   exact⟨(r,c),List.mem_filter.2 ⟨Cc.2 (hB _ _ (gz.1 h).1),h⟩,rfl⟩
theorem RG (left:Bool) (S:Cs):(jo left S).length≤cnt S:=by
 unfold jo cnt
 rw[List.length_map,← List.countP_eq_length_filter]
 exact List.countP_mono_left fun p _ h=>(gz.1 h).1
theorem AB:∀ n m {S:Cs},Bd S→cnt S≤n→cnt S≤m→gF n S=gF m S:=by
 have none:∀ {S:Cs} (left:Bool),Bd S→cnt S=0→jo left S=[]:=fun left hB h=>by
  cases e:jo left _ with
  | nil=>rfl
  | cons a l=>obtain⟨r,c,hc,_⟩:=(nT hB).1 (e ▸ List.mem_cons_self ..:a∈jo left _);have:=o5 hB (gz.1 hc).1;omega
 intro n
 induction n with
 | zero =>
   intro m S hB hn hm
   cases m with
   | zero=>rfl
   | succ m=>simp[gF,none true hB (by omega),none false hB (by omega)]
 | succ n ih =>
   intro m S hB hn hm
   cases m with
   | zero=>simp[gF,none true hB (by omega),none false hB (by omega)]
   | succ m =>
     rw[gF,gF]
     congr 1
     all_goals
      apply List.map_congr_left
      intro x hx
      obtain⟨r,c,hc,rfl⟩:=(nT hB).1 hx
      have:=o6 hB hc
      exact ih m (hB.lay r c) (by omega) (by omega)
theorem NT {S:Cs} (hB:Bd S):gB S=.mk ((jo true S).map gB) ((jo false S).map gB):=by
 rw[gB,AB (cnt S) (cnt S+1) hB (Nat.le_refl _) (by omega),gF]
 congr 1
 all_goals
  apply List.map_congr_left
  intro x hx
  obtain⟨r,c,hc,rfl⟩:=(nT hB).1 hx
  have:=o6 hB hc
  exact AB _ _ (hB.lay r c) (by omega) (Nat.le_refl _)
theorem lG {S:Cs} (hB:Bd S) {x:Gm}:x∈(gB S).l↔∃ r c,can true S r c=true∧x=gB (lay true S r c):=by
 rw[NT hB];simp only[Gm.l,List.mem_map,nT hB]
 exact⟨fun ⟨_,⟨r,c,h,e⟩,k⟩=>⟨r,c,h,by rw[← k,e]⟩,fun ⟨r,c,h,e⟩=>⟨_,⟨r,c,h,rfl⟩,e.symm⟩⟩
theorem lF {S:Cs} (hB:Bd S) {x:Gm}:x∈(gB S).r↔∃ r c,can false S r c=true∧x=gB (lay false S r c):=by
 rw[NT hB];simp only[Gm.r,List.mem_map,nT hB]
 exact⟨fun ⟨_,⟨r,c,h,e⟩,k⟩=>⟨r,c,h,by rw[← k,e]⟩,fun ⟨r,c,h,e⟩=>⟨_,⟨r,c,h,rfl⟩,e.symm⟩⟩
theorem Ac {A B:Cs} (hA:Bd A) (hB:Bd B) (h:∀ left r c,can left A r c=true→∃ r' c',can left B r' c'=true∧Same (gB (lay left A r c)) (gB (lay left B r' c')))
 (k:∀ left r c,can left B r c=true→∃ r' c',can left A r' c'=true∧Same (gB (lay left A r' c')) (gB (lay left B r c))):Same (gB A) (gB B):=by
 rw[same_iff]
 refine⟨fun x hx=>?_,fun y hy=>?_,fun x hx=>?_,fun y hy=>?_⟩
 · obtain⟨r,c,h1,rfl⟩:=(lG hA).1 hx
   obtain⟨r',c',h2,h3⟩:=h _ _ _ h1
   exact⟨_,(lG hB).2 ⟨r',c',h2,rfl⟩,h3⟩
 · obtain⟨r,c,h1,rfl⟩:=(lG hB).1 hy
   obtain⟨r',c',h2,h3⟩:=k _ _ _ h1
   exact⟨_,(lG hA).2 ⟨r',c',h2,rfl⟩,h3⟩
 · obtain⟨r,c,h1,rfl⟩:=(lF hA).1 hx
   obtain⟨r',c',h2,h3⟩:=h _ _ _ h1
   exact⟨_,(lF hB).2 ⟨r',c',h2,rfl⟩,h3⟩
 · obtain⟨r,c,h1,rfl⟩:=(lF hB).1 hy
   obtain⟨r',c',h2,h3⟩:=k _ _ _ h1
   exact⟨_,(lF hA).2 ⟨r',c',h2,rfl⟩,h3⟩
theorem Fq:∀ n {S T:Cs} {a b:Nat},cnt S≤n→Bd S→Bd T→(∀ r c,S r c=true→a≤r∧b≤c)→(∀ r c,T r c=S (r+a) (c+b))→Same (gB T) (gB S):=by
 intro n
 induction n with
 | zero =>
   intro S T a b hn hS hT _ hST
   have e:∀ r c,S r c=false:=fun r c=>by
    cases h:S r c with
    | false=>rfl
    | true=>have:=o5 hS h;omega
   have hno:∀ left r c,can left S r c=false:=fun left r c=>by simp[can,e]
   have SH:∀ left r c,can left T r c=false:=fun left r c=>by simp[can,hST,e]
   exact Ac hT hS (fun left r c h=>by rw[SH] at h;cases h) (fun left r c h=>by rw[hno] at h;cases h)
 | succ n ih =>
   intro S T a b hn hS hT hab hST
   have pU:∀ left r c,can left T r c=can left S (r+a) (c+b):=fun left r c=>by
    unfold can
    rw[hST,hST]
    have e1:nxr left r+a=nxr left (r+a):=by cases left <;> simp[nxr];omega
    have e2:nxc left c+b=nxc left (c+b):=by cases left <;> simp[nxc];omega
    rw[e1,e2]
   have step:∀ left r c,can left S (r+a) (c+b)=true→Same (gB (lay left T r c)) (gB (lay left S (r+a) (c+b))):=fun left r c h=>by
    have:=o6 hS h
    refine ih (a:=a) (b:=b) (by omega) (hS.lay _ _) (hT.lay _ _) (fun x y k=>hab x y (mP.1 k).1) (fun x y=>?_)
    have:lay left T r c x y=true↔lay left S (r+a) (c+b) (x+a) (y+b)=true:=by
     rw[mP,mP,hST]
     have e1:nxr left (r+a)=nxr left r+a:=by cases left <;> simp[nxr];omega
     have e2:nxc left (c+b)=nxc left c+b:=by cases left <;> simp[nxc];omega
     rw[e1,e2]
     simp only[Nat.add_right_cancel_iff]
    cases h1:lay left T r c x y <;> cases h2:lay left S (r+a) (c+b) (x+a) (y+b) <;> simp_all
   refine Ac hT hS (fun left r c h=>⟨r+a,c+b,by rw[← pU];exact h,step left r c (by rw[← pU];exact h)⟩) (fun left r c h=>?_)
   obtain⟨h1,h2⟩:=hab r c (gz.1 h).1
   obtain⟨r',rfl⟩:∃ r',r=r'+a:=⟨r-a,by omega⟩
   obtain⟨c',rfl⟩:∃ c',c=c'+b:=⟨c-b,by omega⟩
   exact⟨r',c',by rw[pU];exact h,step left r' c' h⟩
def cup (A B:Cs):Cs:=fun x y=>A x y || B x y
theorem jw {A B:Cs} {x y:Nat}:cup A B x y=true↔A x y=true∨B x y=true:=by simp[cup]
def Nbr (r c x y:Nat):Prop:=(∃ left,x=nxr left r∧y=nxc left c)∨∃ left,r=nxr left x∧c=nxc left y
theorem Nbr.symm {r c x y:Nat} (h:Nbr r c x y):Nbr x y r c:=h.elim .inr .inl
structure Apart (A B:Cs):Prop where
 no:∀ r c,A r c=true→B r c=true→False
 by_:∀ r c x y,A r c=true→B x y=true→Nbr r c x y→False
theorem Apart.sub {A B A' B':Cs} (h:Apart A B) (hA:∀ x y,A' x y=true→A x y=true) (hB:∀ x y,B' x y=true→B x y=true):Apart A' B' :=
 ⟨fun r c a b=>h.no r c (hA _ _ a) (hB _ _ b),fun r c x y a b=>h.by_ r c x y (hA _ _ a) (hB _ _ b)⟩
theorem Apart.symm {A B:Cs} (h:Apart A B):Apart B A:=⟨fun r c a b=>h.no r c b a,fun r c x y a b n=>h.by_ x y r c b a n.symm⟩
theorem Bd.cup {A B:Cs} (hA:Bd A) (hB:Bd B):Bd (cup A B):=fun r c h=>(jw.1 h).elim (hA r c) (hB r c)
theorem Dg (A B:Cs):cup A B=cup B A:=by funext x y;simp[cup,Bool.or_comm]
theorem lW {left:Bool} {A B:Cs} (h:Apart A B) {r c:Nat}:can left (cup A B) r c=true↔can left A r c=true∨can left B r c=true:=by
 rw[gz,gz,gz,jw,jw]
 constructor
 · rintro⟨a | a,b | b⟩
   · exact .inl ⟨a,b⟩
   · exact(h.by_ _ _ _ _ a b (.inl ⟨left,rfl,rfl⟩)).elim
   · exact(h.by_ _ _ _ _ b a (.inr ⟨left,rfl,rfl⟩)).elim
   · exact .inr ⟨a,b⟩
 · rintro(⟨a,b⟩ | ⟨a,b⟩)
   · exact⟨.inl a,.inl b⟩
   · exact⟨.inr a,.inr b⟩
theorem EN {left:Bool} {A B:Cs} (h:Apart A B) {r c:Nat} (k:can left A r c=true):lay left (cup A B) r c=cup (lay left A r c) B:=by
 obtain⟨k1,k2⟩:=gz.1 k
 apply yN
 intro x y
 rw[mP,jw,jw,mP]
 constructor
 · rintro⟨a | a,b⟩
   · exact .inl ⟨a,b⟩
   · exact .inr a
 · rintro(⟨a,b⟩ | a)
   · exact⟨.inl a,b⟩
   · exact⟨.inr a,fun ⟨e1,e2⟩=>by subst e1;subst e2;exact h.no _ _ k1 a,fun ⟨e1,e2⟩=>by subst e1;subst e2;exact h.no _ _ k2 a⟩
theorem Apart.lay {left:Bool} {A B:Cs} (h:Apart A B) (r c:Nat):Apart (lay left A r c) B:=h.sub (fun _ _ k=>(mP.1 k).1) (fun _ _ k=>k)
theorem MI:∀ n {A B:Cs},cnt A+cnt B≤n→Bd A→Bd B→Apart A B→Same (gB (cup A B)) (plus (gB A) (gB B)):=by
 intro n
 induction n with
 | zero =>
   intro A B hn hA hB hap
   have eA:∀ r c,A r c=false:=fun r c=>by
    cases h:A r c with
    | false=>rfl
    | true=>have:=o5 hA h;omega
   have eB:∀ r c,B r c=false:=fun r c=>by
    cases h:B r c with
    | false=>rfl
    | true=>have:=o5 hB h;omega
   have nA:∀ left r c,can left A r c=true→False:=fun left r c h=>by rw[gz,eA] at h;exact absurd h.1 (by simp)
   have nB:∀ left r c,can left B r c=true→False:=fun left r c h=>by rw[gz,eB] at h;exact absurd h.1 (by simp)
   rw[same_iff]
   refine⟨fun x hx=>?_,fun y hy=>?_,fun x hx=>?_,fun y hy=>?_⟩
   · obtain⟨r,c,h,_⟩:=(lG (hA.cup hB)).1 hx
     exact((lW hap).1 h).elim (fun h=>(nA _ _ _ h).elim) (fun h=>(nB _ _ _ h).elim)
   · rcases fu.1 hy with ⟨z,hz,_⟩ | ⟨z,hz,_⟩
     · obtain⟨r,c,h,_⟩:=(lG hA).1 hz;exact(nA _ _ _ h).elim
     · obtain⟨r,c,h,_⟩:=(lG hB).1 hz;exact(nB _ _ _ h).elim
   · obtain⟨r,c,h,_⟩:=(lF (hA.cup hB)).1 hx
     exact((lW hap).1 h).elim (fun h=>(nA _ _ _ h).elim) (fun h=>(nB _ _ _ h).elim)
   · rcases fq.1 hy with ⟨z,hz,_⟩ | ⟨z,hz,_⟩
     · obtain⟨r,c,h,_⟩:=(lF hA).1 hz;exact(nA _ _ _ h).elim
     · obtain⟨r,c,h,_⟩:=(lF hB).1 hz;exact(nB _ _ _ h).elim
 | succ n ih =>
   intro A B hn hA hB hap
   have sA:∀ left r c,can left A r c=true→Same (gB (lay left (cup A B) r c)) (plus (gB (lay left A r c)) (gB B)):=fun left r c h=>by
    rw[EN hap h]
    have:=o6 hA h
    exact ih (by omega) (hA.lay r c) hB (hap.lay r c)
   have sB:∀ left r c,can left B r c=true→Same (gB (lay left (cup A B) r c)) (plus (gB A) (gB (lay left B r c))):=fun left r c h=>by
    rw[Dg A B,EN hap.symm h,Dg _ A]
    have:=o6 hB h
    exact ih (by omega) hA (hB.lay r c) (hap.symm.lay r c).symm
   rw[same_iff]
   refine⟨fun x hx=>?_,fun y hy=>?_,fun x hx=>?_,fun y hy=>?_⟩
   · obtain⟨r,c,h,rfl⟩:=(lG (hA.cup hB)).1 hx
     rcases (lW hap).1 h with h | h
     · exact⟨_,fu.2 (.inl ⟨_,(lG hA).2 ⟨r,c,h,rfl⟩,rfl⟩),sA _ _ _ h⟩
     · exact⟨_,fu.2 (.inr ⟨_,(lG hB).2 ⟨r,c,h,rfl⟩,rfl⟩),sB _ _ _ h⟩
   · rcases fu.1 hy with ⟨z,hz,rfl⟩ | ⟨z,hz,rfl⟩
     · obtain⟨r,c,h,rfl⟩:=(lG hA).1 hz
       exact⟨_,(lG (hA.cup hB)).2 ⟨r,c,(lW hap).2 (.inl h),rfl⟩,sA _ _ _ h⟩
     · obtain⟨r,c,h,rfl⟩:=(lG hB).1 hz
       exact⟨_,(lG (hA.cup hB)).2 ⟨r,c,(lW hap).2 (.inr h),rfl⟩,sB _ _ _ h⟩
   · obtain⟨r,c,h,rfl⟩:=(lF (hA.cup hB)).1 hx
     rcases (lW hap).1 h with h | h
     · exact⟨_,fq.2 (.inl ⟨_,(lF hA).2 ⟨r,c,h,rfl⟩,rfl⟩),sA _ _ _ h⟩
     · exact⟨_,fq.2 (.inr ⟨_,(lF hB).2 ⟨r,c,h,rfl⟩,rfl⟩),sB _ _ _ h⟩
   · rcases fq.1 hy with ⟨z,hz,rfl⟩ | ⟨z,hz,rfl⟩
     · obtain⟨r,c,h,rfl⟩:=(lF hA).1 hz
       exact⟨_,(lF (hA.cup hB)).2 ⟨r,c,(lW hap).2 (.inl h),rfl⟩,sA _ _ _ h⟩
     · obtain⟨r,c,h,rfl⟩:=(lF hB).1 hz
       exact⟨_,(lF (hA.cup hB)).2 ⟨r,c,(lW hap).2 (.inr h),rfl⟩,sB _ _ _ h⟩
theorem OG {A B:Cs} (h:Apart A B):cnt (cup A B)=cnt A+cnt B:=by
 unfold cnt
 have key:∀ l:List (Nat × Nat),l.countP (fun p=>cup A B p.1 p.2)=l.countP (fun p=>A p.1 p.2)+l.countP fun p=>B p.1 p.2:=by
  intro l
  induction l with
  | nil=>rfl
  | cons q l ih =>
    rw[List.countP_cons,List.countP_cons,List.countP_cons,ih]
    have:=h.no q.1 q.2
    cases hA:A q.1 q.2 <;> cases hB:B q.1 q.2 <;> simp_all [cup] <;> omega
 exact key _
theorem cnt_mono {A B:Cs} (h:∀ x y,A x y=true→B x y=true):cnt A≤cnt B:=List.countP_mono_left fun _ _ k=>h _ _ k
theorem JR {S T:Cs} {a b:Nat} (hS:Bd S) (hab:∀ r c,S r c=true→a≤r∧b≤c) (hST:∀ r c,T r c=S (r+a) (c+b)):cnt T=cnt S:=by
 have hT:Bd T:=fun r c h=>by rw[hST] at h;have:=hS _ _ h;omega
 have key:∀ n {S T:Cs},cnt S≤n→Bd S→Bd T→(∀ r c,S r c=true→a≤r∧b≤c)→(∀ r c,T r c=S (r+a) (c+b))→cnt T=cnt S:=by
  intro n
  induction n with
  | zero =>
    intro S T hn hS hT hab hST
    have e:∀ r c,S r c=false:=fun r c=>by
     cases h:S r c with
     | false=>rfl
     | true=>have:=o5 hS h;omega
    have:cnt T=0:=by unfold cnt;rw[List.countP_eq_zero];intro p _;simp[hST,e]
    omega
  | succ n ih =>
    intro S T hn hS hT hab hST
    by_cases h0:cnt S=0
    · exact ih (by omega) hS hT hab hST
    · obtain⟨p,hp,hs⟩:=List.countP_pos_iff.1 (show 0<grid.countP (fun p=>S p.1 p.2) from by unfold cnt at h0;omega)
      obtain⟨r,c⟩:=p
      obtain⟨h1,h2⟩:=hab r c hs
      obtain⟨r',rfl⟩:∃ r',r=r'+a:=⟨r-a,by omega⟩
      obtain⟨c',rfl⟩:∃ c',c=c'+b:=⟨c-b,by omega⟩
      have hs':T r' c'=true:=by rw[hST];exact hs
      have a1:=rG (hS _ _ hs) hs
      have a2:=rG (hT _ _ hs') hs'
      have:=ih (S:=rm S (r'+a) (c'+b)) (T:=rm T r' c') (by simp only at a1;omega) (fun x y k=>hS x y (kU.1 k).1) (fun x y k=>hT x y (kU.1 k).1) (fun x y k=>hab x y (kU.1 k).1) (fun x y=>by
       have e:∀ u v w:Nat,(u+w == v+w)=(u == v):=fun u v w=>by rw[Bool.eq_iff_iff];simp
       simp only[rm,hST,e])
      simp only at a1
      omega
 exact key _ (Nat.le_refl _) hS hT hab hST
end Go.Proofs.YteknjeohbcgpdaaGreatDoor.Cgt
namespace Go.Proofs.YteknjeohbcgpdaaGreatDoor.Cgt
structure Grown (S P P':Cs):Prop where
 more:∀ x y,P x y=true→P' x y=true
 only:∀ x y,P' x y=true→P x y=true∨S x y=true
 shut:∀ x y u v,P' x y=true→P x y=false→Nbr x y u v→S u v=true→P' u v=true
theorem Grown.refl (S P:Cs):Grown S P P:=⟨fun _ _ h=>h,fun _ _ h=>.inl h,fun x y _ _ h k=>by rw[h] at k;cases k⟩
theorem Grown.trans {S P Q R:Cs} (h:Grown S P Q) (k:Grown S Q R):Grown S P R:=by
 refine⟨fun x y a=>k.more _ _ (h.more _ _ a),fun x y a=>?_,fun x y u v a b n s=>?_⟩
 · rcases k.only _ _ a with e | e
   · exact h.only _ _ e
   · exact .inr e
 · cases e:Q x y with
   | true=>exact k.more _ _ (h.shut _ _ _ _ e b n s)
   | false=>exact k.shut _ _ _ _ a e n s
def ad (P:Cs) (r c:Nat):Cs:=fun x y=>P x y || (x == r && y == c)
theorem qa {P:Cs} {r c x y:Nat}:ad P r c x y=true↔P x y=true∨(x=r∧y=c):=by simp[ad]
theorem Oe {r c x y:Nat}:Nbr r c x y↔(x+1=r∧y=c)∨(x=r+1∧y=c)∨(x=r∧y+1=c)∨(x=r∧y=c+1):=by
 constructor
 · rintro(⟨left,e,f⟩ | ⟨left,e,f⟩) <;> cases left <;> simp[nxr,nxc] at e f <;> omega
 · rintro(⟨e,f⟩ | ⟨e,f⟩ | ⟨e,f⟩ | ⟨e,f⟩)
   · exact .inr ⟨true,by simp[nxr];omega,by simp[nxc];omega⟩
   · exact .inl ⟨true,by simp[nxr];omega,by simp[nxc];omega⟩
   · exact .inr ⟨false,by simp[nxr];omega,by simp[nxc];omega⟩
   · exact .inl ⟨false,by simp[nxr];omega,by simp[nxc];omega⟩
theorem kH {S P P4:Cs} {r c:Nat} (hs:S r c=true) (h:Grown S (ad P r c) P4) (hn:∀ x y,Nbr r c x y→S x y=true→P4 x y=true):Grown S P P4:=by
 refine⟨fun x y a=>h.more _ _ (qa.2 (.inl a)),fun x y a=>?_,fun x y u v a b n s=>?_⟩
 · rcases h.only _ _ a with e | e
   · rcases qa.1 e with e | ⟨rfl,rfl⟩
     · exact .inl e
     · exact .inr hs
   · exact .inr e
 · by_cases e:x=r∧y=c
   · obtain⟨rfl,rfl⟩:=e;exact hn _ _ n s
   · exact h.shut _ _ _ _ a (by cases k:ad P r c x y with | false=>rfl | true=>rcases qa.1 k with k | k;(rw[k] at b;cases b);exact absurd k e) n s
def sub (S U:Cs):Cs:=fun x y=>S x y && !U x y
theorem mJ {S U:Cs} {x y:Nat}:sub S U x y=true↔S x y=true∧U x y=false:=by simp[sub]
def none_:Cs:=fun _ _=>false
def pX:List Cs→Cs
 | []=>none_
 | P :: l=>cup (pX l) P
def nC:List Cs→Prop
 | []=>True
 | P :: l=>Apart (pX l) P∧nC l
def rQ (S U:Cs):Prop:=(∀ x y,U x y=true→S x y=true)∧∀ x y u v,U x y=true→Nbr x y u v→S u v=true→U u v=true
theorem IG (S:Cs):rQ S none_:=⟨fun _ _ h=>(by cases h),fun _ _ _ _ h=>(by cases h)⟩
theorem Fp {S U P:Cs} (hU:rQ S U) (h:Grown (sub S U) none_ P):rQ S (cup U P)∧Apart U P:=by
 have hP:∀ x y,P x y=true→S x y=true∧U x y=false:=fun x y k=>by
  rcases h.only _ _ k with e | e
  · cases e
  · exact mJ.1 e
 refine⟨⟨fun x y k=>?_,fun x y u v k n s=>?_⟩,fun x y a b=>?_,fun x y u v a b n=>?_⟩
 · rcases jw.1 k with k | k
   · exact hU.1 _ _ k
   · exact(hP _ _ k).1
 · rcases jw.1 k with k | k
   · exact jw.2 (.inl (hU.2 _ _ _ _ k n s))
   · cases e:U u v with
     | true=>exact jw.2 (.inl e)
     | false=>exact jw.2 (.inr (h.shut _ _ _ _ k rfl n (mJ.2 ⟨s,e⟩)))
 · have:=(hP _ _ b).2;rw[a] at this;cases this
 · have:=hU.2 _ _ _ _ a n (hP _ _ b).1
   rw[(hP _ _ b).2] at this;cases this
theorem N9 (S U P:Cs):sub (sub S U) P=sub S (cup U P):=by
 funext x y;simp[sub,cup,Bool.and_assoc]
theorem EY:∀ {l:List Cs},(∀ P,P∈l→Bd P)→Bd (pX l)
 | [],_=>fun _ _ h=>by cases h
 | _ :: _,h=>Bd.cup (EY fun P hP=>h P (List.mem_cons_of_mem _ hP)) (h _ (List.mem_cons_self ..))
theorem Di:cnt none_=0:=by unfold cnt;rw[List.countP_eq_zero];simp[none_]
theorem OA:gB none_=vw:=by rw[gB,Di];rfl
def kB:Nat→Nat
 | 0=>1
 | 1=>1
 | n+2=>1+2*(n+2)*kB n
theorem Jp {a b:Nat} (h:a+b≤9):kB a*kB b≤kB (a+b):=by
 have:∀ a,a<10→∀ b,b<10→a+b≤9→kB a*kB b≤kB (a+b):=by decide
 exact this a (by omega) b (by omega) h
theorem Ps {a b:Nat} (h:a+b≤9) (ha:0<a) (hb:0<b):kB a+kB b≤kB (a+b):=by
 have:∀ a,a<10→∀ b,b<10→a+b≤9→0<a→0<b→kB a+kB b≤kB (a+b):=by decide
 exact this a (by omega) b (by omega) h ha hb
theorem Ou {a b:Nat} (h:a≤b) (hb:b≤9):kB a≤kB b:=by
 have:∀ b,b<10→∀ a,a<10→a≤b→kB a≤kB b:=by decide
 exact this b (by omega) a (by omega) h
theorem kB_9 {n:Nat} (h:n≤9):kB n≤17911:=by
 have:∀ n,n<10→kB n≤17911:=by decide
 exact this n (by omega)
theorem Ur (n:Nat):0<kB n:=by
 match n with
 | 0=>decide
 | 1=>decide
 | n+2=>rw[kB];omega
end Go.Proofs.YteknjeohbcgpdaaGreatDoor.Cgt
namespace Go.Proofs.YteknjeohbcgpdaaGreatDoor.Cgt
abbrev Brd:=List (List UInt8)
structure GB (b:Brd) (h w:Nat):Prop where
 hgt:b.length=h
 h1:1≤h∧h≤8
 w1:1≤w∧w≤8
 row:∀ r,r∈b→r.length=w∧∀ c,c∈r→c=46∨c=35
def at_ (b:Brd) (r c:Nat):UInt8:=(b.getD r []).getD c 0
def fr (b:Brd):Cs:=fun r c=>at_ b r c == 46
def fI (b:Brd) (r c:Nat):Brd:=b.set r ((b.getD r []).set c 35)
def plc (left:Bool) (b:Brd) (r c:Nat):Brd:=fI (fI b r c) (nxr left r) (nxc left c)
def bS (b:Brd):Nat:=(b.map fun r=>r.countP (· == 46)).sum
theorem GB.in_ {b:Brd} {h w:Nat} (g:GB b h w) {r c:Nat} (k:fr b r c=true):r<h∧c<w:=by
 unfold fr at_ at k
 by_cases hr:r<b.length
 · rw[List.getD_eq_getElem?_getD,List.getD_eq_getElem?_getD,List.getElem?_eq_getElem hr] at k
   simp only[Option.getD_some] at k
   have:=(g.row _ (List.getElem_mem hr)).1
   by_cases hc:c<(b[r]).length
   · exact⟨by have:=g.hgt;omega,by omega⟩
   · rw[List.getElem?_eq_none (by omega)] at k;exact absurd k (by decide)
 · rw[List.getD_eq_getElem?_getD,List.getD_eq_getElem?_getD (l:=b),List.getElem?_eq_none (Nat.le_of_not_lt hr)] at k;exact absurd k (by simp)
theorem GB.bd {b:Brd} {h w:Nat} (g:GB b h w):Bd (fr b):=fun r c k=>by
 have:=g.in_ k;have:=g.h1;have:=g.w1;omega
theorem yV {b:Brd} {r:Nat} (hr:r<b.length) (c:Nat):at_ b r c=(b[r]).getD c 0:=by
 unfold at_;rw[List.getD_eq_getElem?_getD (l:=b),List.getElem?_eq_getElem hr];rfl
theorem GB.fI {b:Brd} {h w:Nat} (g:GB b h w) (r c:Nat):GB (fI b r c) h w:=by
 refine⟨by simp[Cgt.fI,g.hgt],g.h1,g.w1,fun x hx=>?_⟩
 unfold Cgt.fI at hx
 rcases List.mem_or_eq_of_mem_set hx with e | e
 · exact g.row x e
 · by_cases hr:r<b.length
   · have hg:=g.row _ (List.getElem_mem hr)
     rw[List.getD_eq_getElem?_getD,List.getElem?_eq_getElem hr,Option.getD_some] at e
     subst e
     refine⟨by rw[List.length_set];exact hg.1,fun c hc=>?_⟩
     rcases List.mem_or_eq_of_mem_set hc with k | k
     · exact hg.2 c k
     · exact .inr k
   · rw[List.set_eq_of_length_le (by omega)] at hx
     exact g.row x hx
theorem EW {b:Brd} {h w:Nat} (g:GB b h w) {r c:Nat} (hr:r<h):fr (fI b r c)=rm (fr b) r c:=by
 have hb:=g.hgt
 apply yN
 intro x y
 rw[kU]
 unfold fr
 by_cases hx:x<b.length
 · have hx':x<(fI b r c).length:=by simp[fI];exact hx
   rw[yV hx',yV hx]
   by_cases e:x=r
   · subst e
     have h1:(fI b x c)[x]=(b[x]).set c 35:=by
      simp only[fI,List.getElem_set_self,List.getD_eq_getElem?_getD,List.getElem?_eq_getElem hx,Option.getD_some]
     rw[h1,List.getD_eq_getElem?_getD,List.getD_eq_getElem?_getD,List.getElem?_set]
     by_cases e2:y=c
     · subst e2
       simp only[true_and,not_true_eq_false,and_false,iff_false,if_true]
       by_cases hy:y<(b[x]).length <;> simp[hy]
     · have:¬ c=y:=fun k=>e2 k.symm
       simp[this,e2]
   · have h1:(fI b r c)[x]=b[x]:=by
      simp only[fI];rw[List.getElem_set_ne (fun k=>e k.symm)]
     rw[h1];simp[e]
 · have h1:at_ (fI b r c) x y=0:=by
    unfold at_;rw[List.getD_eq_getElem?_getD (l:=fI b r c),List.getElem?_eq_none (by simp[fI];omega)];rfl
   have h2:at_ b x y=0:=by
    unfold at_;rw[List.getD_eq_getElem?_getD (l:=b),List.getElem?_eq_none (by omega)];rfl
   rw[h1,h2];simp
theorem GB.plc {b:Brd} {h w:Nat} (g:GB b h w) (left:Bool) (r c:Nat):GB (plc left b r c) h w:=(g.fI r c).fI _ _
theorem Db {b:Brd} {h w:Nat} (g:GB b h w) {left:Bool} {r c:Nat} (k:can left (fr b) r c=true):fr (plc left b r c)=lay left (fr b) r c:=by
 obtain⟨k1,k2⟩:=gz.1 k
 unfold Cgt.plc lay
 rw[EW (g.fI r c) (g.in_ k2).1,EW g (g.in_ k1).1]
def gQ (left:Bool) (b:Brd) (r k:Nat):List Brd:=((List.range k).filter fun c=>can left (fr b) r c).map fun c=>plc left b r c
def bV (left:Bool) (b:Brd) (w k:Nat):List Brd:=(List.range k).flatMap fun r=>gQ left b r w
theorem Aq (left:Bool) (b:Brd) (r k:Nat):gQ left b r (k+1)=gQ left b r k++if can left (fr b) r k=true then [plc left b r k] else []:=by
 unfold gQ;rw[List.range_succ,List.filter_append,List.map_append]
 by_cases h:can left (fr b) r k=true <;> simp[h]
theorem nU (left:Bool) (b:Brd) (w k:Nat):bV left b w (k+1)=bV left b w k++gQ left b k w:=by
 unfold bV;rw[List.range_succ,List.flatMap_append];simp
theorem pF {left:Bool} {b:Brd} {h w:Nat} (g:GB b h w) {x:Brd}:x∈bV left b w h↔∃ r c,can left (fr b) r c=true∧x=plc left b r c:=by
 unfold bV gQ
 simp only[List.mem_flatMap,List.mem_range,List.mem_map,List.mem_filter]
 constructor
 · rintro⟨r,_,c,⟨_,k⟩,rfl⟩;exact⟨r,c,k,rfl⟩
 · rintro⟨r,c,k,rfl⟩
   obtain⟨k1,_⟩:=gz.1 k
   have:=g.in_ k1
   exact⟨r,this.1,c,⟨this.2,k⟩,rfl⟩
theorem sF (left:Bool) (b:Brd) (r k:Nat):(gQ left b r k).length≤k:=by
 unfold gQ;rw[List.length_map];exact Nat.le_trans (List.length_filter_le _ _) (by simp)
theorem pG (left:Bool) (b:Brd) (w k:Nat):(bV left b w k).length≤k*w:=by
 induction k with
 | zero=>simp[bV]
 | succ k ih=>rw[nU,List.length_append,Nat.succ_mul];have:=sF left b k w;omega
theorem xQ {b:Brd} {h w:Nat} (g:GB b h w) (left:Bool) {x:Gm}:x∈(if left then (gB (fr b)).l else (gB (fr b)).r)↔∃ y,y∈bV left b w h∧x=gB (fr y):=by
 have key:(∃ r c,can left (fr b) r c=true∧x=gB (lay left (fr b) r c))↔∃ y,y∈bV left b w h∧x=gB (fr y):=by
  constructor
  · rintro⟨r,c,k,e⟩;exact⟨_,(pF g).2 ⟨r,c,k,rfl⟩,by rw[e,Db g k]⟩
  · rintro⟨y,hy,e⟩
    obtain⟨r,c,k,rfl⟩:=(pF g).1 hy
    exact⟨r,c,k,by rw[e,Db g k]⟩
 cases left with
 | true=>simp only[if_true];rw[lG g.bd];exact key
 | false=>simp only[Bool.false_eq_true,if_false];rw[lF g.bd];exact key
theorem Am {α:Type} (d:α) (f:α→Nat) (hf:f d=0):∀ (n:Nat) (l:List α),l.length≤n→((List.range n).map fun i=>f (l.getD i d)).sum=(l.map f).sum:=by
 intro n
 induction n with
 | zero=>intro l hl;have:l=[]:=List.eq_nil_of_length_eq_zero (by omega);subst this;rfl
 | succ n ih =>
   intro l hl
   cases l with
   | nil =>
     have:=ih [] (by simp)
     rw[List.range_succ,List.map_append,List.sum_append,this];simp[hf]
   | cons a l =>
     rw[List.range_succ_eq_map,List.map_cons,List.map_map,List.sum_cons,List.map_cons,List.sum_cons]
     congr 1
     have:=ih l (by simpa using hl)
     rw[← this]
     congr 1
theorem yO {b:Brd} {h w:Nat} (g:GB b h w):cnt (fr b)=bS b:=by
 unfold cnt grid bS
 rw[List.countP_flatMap]
 have h8:b.length≤8:=by rw[g.hgt];exact g.h1.2
 rw[← Am [] (fun r=>r.countP (· == 46)) (by simp) 8 b h8]
 congr 1
 apply List.map_congr_left
 intro r hr
 simp only[Function.comp_def,List.countP_map]
 have hl:(b.getD r []).length≤8:=by
  rw[List.getD_eq_getElem?_getD]
  by_cases c:r<b.length
  · rw[List.getElem?_eq_getElem c];simp only[Option.getD_some];have:=(g.row _ (List.getElem_mem c)).1;have:=g.w1;omega
  · rw[List.getElem?_eq_none (by omega)];simp
 have:=Am (0:UInt8) (fun c=>if c == 46 then 1 else 0) (by decide) 8 (b.getD r []) hl
 have key:∀ {α:Type} (p:α→Bool) (l:List α),l.countP p=(l.map fun x=>if p x then 1 else 0).sum:=by
  intro α p l
  induction l with
  | nil=>rfl
  | cons a l ih=>rw[List.countP_cons,List.map_cons,List.sum_cons,ih];cases p a <;> simp <;> omega
 rw[key,key]
 exact this
def rowOk (w:Nat) (r:List UInt8):Bool:=decide (1≤r.length) && decide (r.length≤8) && decide (r.length=w) && r.all fun c=>c == 46 || c == 35
def fU (b:Brd):Bool:=decide (1≤b.length) && decide (b.length≤8) && b.all (rowOk (b.getD 0 []).length)
theorem AA {b:Brd}:fU b=true↔∃ h w,GB b h w:=by
 unfold fU rowOk
 simp only[Bool.and_eq_true,decide_eq_true_eq,List.all_eq_true,Bool.or_eq_true,beq_iff_eq]
 constructor
 · rintro⟨⟨h1,h2⟩,h3⟩
   have h0:0<b.length:=by omega
   have e:b.getD 0 []=b[0]:=by rw[List.getD_eq_getElem?_getD,List.getElem?_eq_getElem h0];rfl
   have q:=h3 _ (List.getElem_mem h0)
   refine⟨b.length,(b.getD 0 []).length,rfl,⟨h1,h2⟩,by rw[e];exact⟨q.1.1.1,q.1.1.2⟩,fun r hr=>⟨(h3 r hr).1.2,(h3 r hr).2⟩⟩
 · rintro⟨h,w,g⟩
   have h0:0<b.length:=by have:=g.hgt;have:=g.h1;omega
   have e:b.getD 0 []=b[0]:=by rw[List.getD_eq_getElem?_getD,List.getElem?_eq_getElem h0];rfl
   have q:=(g.row _ (List.getElem_mem h0)).1
   have:=g.hgt;have:=g.h1;have:=g.w1
   exact⟨⟨by omega,by omega⟩,fun r hr=>⟨⟨⟨by rw[(g.row r hr).1];omega,by rw[(g.row r hr).1];omega⟩,by rw[e,q,(g.row r hr).1]⟩,(g.row r hr).2⟩⟩
def bD:Brd→List UInt8
 | []=>[]
 | [r]=>r
 | r :: s :: t=>r++47 :: bD (s :: t)
theorem gM (r s:List UInt8) (t:Brd):bD (r :: s :: t)=r++47 :: bD (s :: t):=rfl
theorem Iw (b:Brd) (r:List UInt8) (h:b≠[]):bD (b++[r])=bD b++47 :: r:=by
 induction b with
 | nil=>exact absurd rfl h
 | cons a b ih =>
   cases b with
   | nil=>rfl
   | cons c b=>rw[List.cons_append,List.cons_append,gM,← List.cons_append,ih (by simp),gM];simp
theorem IL {r r' x x':List UInt8} (h:∀ c,c∈r→c≠47) (h':∀ c,c∈r'→c≠47) (e:r++47 :: x=r'++47 :: x'):r=r'∧x=x':=by
 induction r generalizing r' with
 | nil =>
   cases r' with
   | nil=>simp at e;exact⟨rfl,e⟩
   | cons a l=>simp at e;exact absurd e.1.symm (h' a (by simp))
 | cons a l ih =>
   cases r' with
   | nil=>simp at e;exact absurd e.1 (h a (by simp))
   | cons a' l' =>
     simp only[List.cons_append,List.cons.injEq] at e
     obtain⟨rfl,e⟩:=e
     obtain⟨k1,k2⟩:=ih (fun c hc=>h c (by simp[hc])) (fun c hc=>h' c (by simp[hc])) e
     exact⟨by rw[k1],k2⟩
theorem BA:∀ {b b':Brd},(∀ r,r∈b→∀ c,c∈r→c≠47)→(∀ r,r∈b'→∀ c,c∈r→c≠47)→b≠[]→b'≠[]→bD b=bD b'→b=b'
 | [],_,_,_,h,_,_=>absurd rfl h
 | _,[],_,_,_,h,_=>absurd rfl h
 | [r],[r'],_,_,_,_,e=>by simp only[bD] at e;rw[e]
 | [r],r' :: s' :: t',h,_,_,_,e=>by
   simp only[bD] at e
   exact absurd rfl (h r (by simp) 47 (by rw[e];simp))
 | r :: s :: t,[r'],_,h',_,_,e=>by
   simp only[bD] at e
   exact absurd rfl (h' r' (by simp) 47 (by rw[← e];simp))
 | r :: s :: t,r' :: s' :: t',h,h',_,_,e=>by
   rw[gM,gM] at e
   obtain⟨k1,k2⟩:=IL (h r (by simp)) (h' r' (by simp)) e
   have:=BA (fun x hx=>h x (by simp only[List.mem_cons] at hx ⊢;exact .inr hx)) (fun x hx=>h' x (by simp only[List.mem_cons] at hx ⊢;exact .inr hx)) (by simp) (by simp) k2
   rw[k1,this]
theorem GB.KX {b:Brd} {h w:Nat} (g:GB b h w):∀ r,r∈b→∀ c,c∈r→c≠47:=fun r hr c hc e=>by
 rcases (g.row r hr).2 c hc with k | k <;> rw[e] at k <;> exact absurd k (by decide)
theorem GB.ne {b:Brd} {h w:Nat} (g:GB b h w):b≠[]:=fun e=>by have:=g.hgt;have:=g.h1;rw[e] at *;simp at *;omega
theorem GB.inj {b b':Brd} {h w h' w':Nat} (g:GB b h w) (g':GB b' h' w') (e:bD b=bD b'):b=b':=BA g.KX g'.KX g.ne g'.ne e
theorem xY (b:Brd):(bD b).countP (· == 46)=bS b:=by
 unfold bS
 induction b with
 | nil=>rfl
 | cons r t ih =>
   cases t with
   | nil=>simp[bD]
   | cons s t =>
     rw[gM,List.countP_append,List.countP_cons,ih]
     simp
def vary:List UInt8→List (List UInt8)
 | []=>[[]]
 | c :: t=>if c=46 then (vary t).map (46 :: ·)++(vary t).map (35 :: ·) else (vary t).map (c :: ·)
theorem Km (l:List UInt8):(vary l).length=2 ^ l.countP (· == 46):=by
 induction l with
 | nil=>rfl
 | cons c t ih =>
   rw[vary,List.countP_cons]
   by_cases h:c=46
   · rw[if_pos h];simp[h,ih,Nat.pow_succ];omega
   · rw[if_neg h];simp[h,ih]
theorem Ir (l:List UInt8):l∈vary l:=by
 induction l with
 | nil=>simp[vary]
 | cons c t ih =>
   rw[vary]
   by_cases h:c=46
   · subst h;simp[ih]
   · rw[if_neg h];simp[ih]
inductive Marks:List UInt8→List UInt8→Prop
 | nil:Marks [] []
 | cons (c:UInt8) {x y:List UInt8}:Marks x y→Marks (c :: x) (c :: y)
 | mark {x y:List UInt8}:Marks x y→Marks (46 :: x) (35 :: y)
theorem Marks.refl:∀ l,Marks l l
 | []=>.nil
 | c :: l=>.cons c (Marks.refl l)
theorem Marks.app {a b c d:List UInt8} (h:Marks a b) (k:Marks c d):Marks (a++c) (b++d):=by
 induction h with
 | nil=>exact k
 | cons c _ ih=>exact .cons c ih
 | mark _ ih=>exact .mark ih
theorem Iq {x m m':List UInt8} (h:m∈vary x) (k:Marks m m'):m'∈vary x:=by
 induction x generalizing m m' with
 | nil =>
   simp only[vary,List.mem_singleton] at h
   subst h;cases k;simp[vary]
 | cons c t ih =>
   rw[vary] at h ⊢
   by_cases e:c=46
   · rw[if_pos e,List.mem_append,List.mem_map,List.mem_map] at h ⊢
     rcases h with ⟨a,ha,rfl⟩ | ⟨a,ha,rfl⟩
     · cases k with
       | cons _ k=>exact .inl ⟨_,ih ha k,rfl⟩
       | mark k=>exact .inr ⟨_,ih ha k,rfl⟩
     · cases k with
       | cons _ k=>exact .inr ⟨_,ih ha k,rfl⟩
   · rw[if_neg e,List.mem_map] at h ⊢
     obtain⟨a,ha,rfl⟩:=h
     cases k with
     | cons _ k=>exact⟨_,ih ha k,rfl⟩
     | mark k=>exact absurd rfl e
theorem Marks.set {r:List UInt8} {c:Nat} (h:∀ x,x∈r→x=46∨x=35):Marks r (r.set c 35):=by
 induction r generalizing c with
 | nil=>exact .nil
 | cons a t ih =>
   cases c with
   | zero =>
     rcases h a (by simp) with e | e
     · subst e;exact .mark (Marks.refl t)
     · subst e;exact .cons _ (Marks.refl t)
   | succ c=>exact .cons _ (ih fun x hx=>h x (by simp[hx]))
theorem Marks.trans {x y z:List UInt8} (h:Marks x y) (k:Marks y z):Marks x z:=by
 induction h generalizing z with
 | nil=>exact k
 | cons c _ ih =>
   cases k with
   | cons _ k=>exact .cons _ (ih k)
   | mark k=>exact .mark (ih k)
 | mark _ ih =>
   cases k with
   | cons _ k=>exact .mark (ih k)
theorem xX:∀ {b b':Brd},b.length=b'.length→(∀ i (h:i<b.length) (h':i<b'.length),Marks b[i] b'[i])→Marks (bD b) (bD b')
 | [],[],_,_=>.nil
 | [],_ :: _,h,_=>by simp at h
 | _ :: _,[],h,_=>by simp at h
 | [r],[r'],_,k=>k 0 (by simp) (by simp)
 | [_],_ :: _ :: _,h,_=>by simp at h
 | _ :: _ :: _,[_],h,_=>by simp at h
 | r :: s :: t,r' :: s' :: t',h,k=>by
   rw[gM,gM]
   exact(k 0 (by simp) (by simp)).app (.cons 47 (xX (by simpa using h) fun i h1 h2=>k (i+1) (by simp at h1 ⊢;omega) (by simp at h2 ⊢;omega)))
theorem yg {b:Brd} {h w:Nat} (g:GB b h w) (r c:Nat):Marks (bD b) (bD (fI b r c)):=by
 refine xX (by simp[fI]) fun i h1 h2=>?_
 by_cases e:r=i
 · subst e
   have q:(fI b r c)[r]=(b[r]).set c 35:=by
    simp only[fI,List.getElem_set_self,List.getD_eq_getElem?_getD,List.getElem?_eq_getElem h1,Option.getD_some]
   rw[q]
   exact Marks.set (g.row _ (List.getElem_mem h1)).2
 · have q:(fI b r c)[i]=b[i]:=by simp only[fI];rw[List.getElem_set_ne e]
   rw[q];exact Marks.refl _
theorem I1 {b:Brd} {h w:Nat} (g:GB b h w) (left:Bool) (r c:Nat):Marks (bD b) (bD (plc left b r c)):=(yg g r c).trans (yg (g.fI r c) _ _)
end Go.Proofs.YteknjeohbcgpdaaGreatDoor.Cgt