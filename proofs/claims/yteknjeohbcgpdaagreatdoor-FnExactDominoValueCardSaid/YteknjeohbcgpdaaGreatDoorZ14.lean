/-
  Contracts of the reference's GoodBoard, l21Text, l21Free and l21Is. (2 texts.)
-/
import Derived.Test.YteknjeohbcgpdaaGreatDoorZ1
import Derived.Test.YteknjeohbcgpdaaGreatDoorZ2
import Derived.Test.YteknjeohbcgpdaaGreatDoorZ5
import Derived.Test.YteknjeohbcgpdaaGreatDoorZ13
import Derived.NoCompiler
import Derived.Deep.DeepCutAuto
import Derived.Deep.CutBlock
set_option maxRecDepth 100000
namespace Go.Proofs.YteknjeohbcgpdaaGreatDoor
open Tryz
section
open Go Go.RowKit
structure Row where
 no:Nat
 after:List Nat
 dst:Nat
 looks:List Nat
def rowOf (md:Region.Mode) (ops:Array Oper) (k:Nat) (o:Oper):Row:=⟨k,(o.after.toList.filter (Region.binds md)).map (·.on),match o.dst with | some d=>d+1 | none=>0,o.looksAt ops⟩
def lK (md:Region.Mode) (ops:Array Oper):Nat→List Oper→List Row
 | _,[]=>[]
 | k,o :: l=>rowOf md ops k o :: lK md ops (k+1) l
def vJ (md:Region.Mode) (ops:Array Oper):List Row:=lK md ops 0 ops.toList
def j4 (x:Nat):List Nat→Bool
 | []=>false
 | y :: l=>Nat.beq x y || j4 x l
theorem lD {x:Nat} {l:List Nat}:j4 x l=true↔x∈l:=by
 induction l with
 | nil=>simp[j4]
 | cons y l ih=>simp[j4,ih]
theorem j3 {x:Nat} {l:List Nat}:j4 x l=false↔x ∉ l:=by rw[← lD];simp
def bI (n:Nat):List Nat→Array Bool
 | []=>Array.replicate n false
 | i :: L=>(bI n L).setIfInBounds i true
theorem wP (n:Nat) (L:List Nat):(bI n L).size=n:=by
 induction L with
 | nil=>simp[bI]
 | cons i L ih=>simp[bI,ih]
theorem yz {n:Nat} {L:List Nat} {u:Nat} (h:u<n):(bI n L)[u]?=some (j4 u L):=by
 induction L with
 | nil=>simp[bI,j4,h]
 | cons i L ih =>
   simp only[bI,j4]
   rw[Array.getElem?_setIfInBounds]
   by_cases e:i=u
   · subst e
     rw[if_pos rfl,if_pos (by rw[wP];exact h)];simp
   · rw[if_neg e,ih]
     have:Nat.beq u i=false:=by cases hb:Nat.beq u i with | false=>rfl | true=>exact absurd (Nat.eq_of_beq_eq_true hb).symm e
     rw[this];simp
theorem listed_none {n:Nat} {L:List Nat} {u:Nat} (h:¬ u<n):(bI n L)[u]?=none:=Array.getElem?_eq_none (by rw[wP];omega)
theorem qo {n:Nat} {L:List Nat} {u:Nat}:(bI n L).getD u true=false↔u<n∧u ∉ L:=by
 rw[Array.getD_eq_getD_getElem?]
 by_cases h:u<n
 · rw[yz h];simp[j3,h]
 · rw[listed_none h];simp[h]
theorem Au {n:Nat} {L:List Nat} {u:Nat}:(bI n L).getD u false=true↔u<n∧u∈L:=by
 rw[Array.getD_eq_getD_getElem?]
 by_cases h:u<n
 · rw[yz h];simp[lD,h]
 · rw[listed_none h];simp[h]
section
variable {P:Program} {ops:Array Oper} {Q:Exit→Act→World→Prop} {md:Region.Mode} {S:World→Prop} {T:List Nat} {tab:List Row}
theorem DF (l:List Oper):∀ k j,(lK md ops k l)[j]?=(l[j]?).map (rowOf md ops (k+j)):=by
 induction l with
 | nil=>intro k j;simp[lK]
 | cons o l ih =>
   intro k j
   cases j with
   | zero=>simp[lK]
   | succ j=>simp only[lK,List.getElem?_cons_succ];rw[ih];congr 1;funext o;congr 1;omega
theorem Ey (h:vJ md ops=tab) (j:Nat):tab[j]?=(ops[j]?).map (rowOf md ops j):=by
 rw[← h,vJ,DF,Array.getElem?_toList];simp
theorem zf (h:vJ md ops=tab) {r:Row} (hr:r∈tab):∃ o,ops[r.no]?=some o∧r=rowOf md ops r.no o:=by
 obtain⟨j,hj,e⟩:=List.mem_iff_getElem.1 hr
 have h1:=Ey h j
 rw[List.getElem?_eq_getElem hj,e] at h1
 cases ho:ops[j]? with
 | none=>rw[ho] at h1;simp at h1
 | some o =>
   rw[ho] at h1
   simp at h1
   have hn:r.no=j:=by rw[h1];rfl
   exact⟨o,by rw[hn];exact ho,by rw[hn];exact h1⟩
theorem Ex (h:vJ md ops=tab) {j:Nat} {o:Oper} (ho:ops[j]?=some o):rowOf md ops j o∈tab:=by
 have h1:=Ey h j
 rw[ho] at h1
 exact List.mem_of_getElem? h1
def tq (p:Nat→Bool):List Nat→Bool
 | []=>true
 | x :: l=>p x && tq p l
theorem ny {p:Nat→Bool} {l:List Nat}:tq p l=true↔∀ x,x∈l→p x=true:=by
 induction l with
 | nil=>simp[tq]
 | cons x l ih=>simp[tq,ih]
def vK (p:Row→Bool):List Row→Bool
 | []=>true
 | x :: l=>p x && vK p l
theorem Af {p:Row→Bool} {l:List Row}:vK p l=true↔∀ x,x∈l→p x=true:=by
 induction l with
 | nil=>simp[vK]
 | cons x l ih=>simp[vK,ih]
def zu (L:List Nat) (r:Row):Bool:=!j4 r.no L && tq (fun e=>j4 e L) r.after
structure gY (md:Region.Mode) (ops:Array Oper) (tab:List Row):Prop where
 eqn:vJ md ops=tab
 sel:Region.noSelect ops=true
 edge:vK (fun r=>tq (fun e=>Nat.blt e ops.size) r.after) tab=true
theorem gY.lt (h:gY md ops tab) {j:Nat} {o:Oper} (ho:ops[j]?=some o) {e:Edge} (he:e∈o.after) (hb:Region.binds md e=true):e.on<ops.size:=by
 have h1:=ny.1 (Af.1 h.edge _ (Ex h.eqn ho)) e.on (by simp only[rowOf,List.mem_map,List.mem_filter,Array.mem_toList_iff];exact⟨e,⟨he,hb⟩,rfl⟩)
 rw[Nat.blt_eq] at h1
 exact h1
theorem qj {md:Region.Mode} {ops:Array Oper} {j:Nat} {o:Oper} {x:Nat}:x∈(rowOf md ops j o).after↔∃ e,e∈o.after∧Region.binds md e=true∧e.on=x:=by
 simp only[rowOf,List.mem_map,List.mem_filter,Array.mem_toList_iff,and_assoc]
theorem Ak (h:gY md ops tab) {L:List Nat} {j:Nat}:j∈Region.ready md ops (bI ops.size L)↔∃ o,ops[j]?=some o∧zu L (rowOf md ops j o)=true:=by
 rw[mem_ready]
 constructor
 · rintro⟨h1,o,ho,h2⟩
   refine⟨o,ho,?_⟩
   simp only[zu,Bool.and_eq_true,Bool.not_eq_true']
   refine⟨j3.2 (qo.1 h1).2,ny.2 fun x hx=>?_⟩
   obtain⟨e,he,hb,rfl⟩:=qj.1 hx
   exact lD.2 (Au.1 (h2 e he hb)).2
 · rintro⟨o,ho,hm⟩
   simp only[zu,Bool.and_eq_true,Bool.not_eq_true'] at hm
   refine⟨qo.2 ⟨(Array.getElem?_eq_some_iff.1 ho).1,j3.1 hm.1⟩,o,ho,fun e he hb=>Au.2 ⟨h.lt ho he hb,lD.1 (ny.1 hm.2 _ (qj.2 ⟨e,he,hb,rfl⟩))⟩⟩
def kV (L:List Nat):List Row→List Nat
 | []=>[]
 | r :: l=>if zu L r then r.no :: kV L l else kV L l
theorem A8 (L:List Nat) (l:List Row):kV L l=(l.filter (zu L)).map (·.no):=by
 induction l with
 | nil=>rfl
 | cons r l ih=>simp only[kV,List.filter_cons];split <;> simp[ih]
theorem Fh (l:List Oper):∀ k,(lK md ops k l).map (·.no)=List.range' k l.length:=by
 induction l with
 | nil=>intro k;rfl
 | cons o l ih=>intro k;simp[lK,ih,List.range'_succ,rowOf]
theorem ready_eq (h:gY md ops tab) (L:List Nat):Region.ready md ops (bI ops.size L)=kV L tab:=by
 have hno:tab.map (·.no)=List.range ops.size:=by rw[← h.eqn,vJ,Fh,List.range_eq_range',Array.length_toList]
 have e1:Region.ready md ops (bI ops.size L)=(List.range ops.size).filter (fun j=>decide (j∈Region.ready md ops (bI ops.size L))):=by
  conv=>lhs;unfold Region.ready
  refine List.filter_congr fun j hj=>?_
  rw[Bool.eq_iff_iff,decide_eq_true_iff]
  unfold Region.ready
  rw[List.mem_filter]
  exact⟨fun k=>⟨hj,k⟩,fun k=>k.2⟩
 rw[e1,A8,← hno,List.filter_map]
 congr 1
 refine List.filter_congr fun r hr=>?_
 rw[Bool.eq_iff_iff]
 show decide (r.no∈_)=true↔_
 rw[decide_eq_true_iff,Ak h]
 obtain⟨o,ho,e⟩:=zf h.eqn hr
 constructor
 · rintro⟨o',ho',hm⟩
   rw[ho] at ho';injection ho' with ho';subst ho'
   rw[e];exact hm
 · intro hm
   exact⟨o,ho,by rw[← e];exact hm⟩
def zH (i:Nat):List Row→Option Row
 | []=>none
 | r :: l=>if Nat.beq r.no i then some r else zH i l
theorem Mr {i:Nat} {l:List Row} {r:Row} (h:zH i l=some r):r∈l∧r.no=i:=by
 induction l with
 | nil=>simp[zH] at h
 | cons x l ih =>
   simp only[zH] at h
   split at h
   · rename_i hb;injection h with h;subst h;exact⟨by simp,Nat.eq_of_beq_eq_true hb⟩
   · have:=ih h;exact⟨by simp[this.1],this.2⟩
def Dv (x y:Row):Bool :=
 (match x.dst with
  | d+1=>!j4 d y.looks && !Nat.beq y.dst (d+1)
  | 0=>true) &&
 (match y.dst with
  | d+1=>!j4 d x.looks
  | 0=>true)
theorem Er {i j:Nat} {x y:Oper} (h:Dv (rowOf md ops i x) (rowOf md ops j y)=true):x.apart ops y=true:=by
 unfold Dv rowOf at h
 unfold Oper.apart
 cases hx:x.dst with
 | none =>
   cases hy:y.dst with
   | none=>rfl
   | some d=>simp only[hx,hy,Bool.true_and,Bool.not_eq_true',j3] at h;simpa using h
 | some d =>
   cases hy:y.dst with
   | none =>
     simp only[hx,hy,Bool.and_true,Bool.and_eq_true,Bool.not_eq_true',j3] at h
     simpa using h.1
   | some d' =>
     simp only[hx,hy,Bool.and_eq_true,Bool.not_eq_true',j3] at h
     have hne:d'≠d:=fun e=>by
      have h3:=h.1.2
      rw[e] at h3
      rw[Nat.beq_refl] at h3
      cases h3
     simp[h.1.1,h.2,hne]
def o9:List Nat→List Row→List Nat
 | U,[]=>U
 | U,r :: l=>if tq (fun e=>!j4 e U) r.after then o9 U l else o9 (r.no :: U) l
theorem tY (h:gY md ops tab) (i:Nat):∀ (l:List Row) (U:List Nat),(∀ r,r∈l→r∈tab)→Bz md ops U i→Bz md ops (o9 U l) i:=by
 intro l
 induction l with
 | nil=>intro U _ hU;exact hU
 | cons r l ih =>
   intro U hl hU
   simp only[o9]
   split
   · exact ih U (fun x hx=>hl x (by simp[hx])) hU
   · rename_i hn
     refine ih _ (fun x hx=>hl x (by simp[hx])) fun u hu hne=>?_
     rcases List.mem_cons.1 hu with rfl | hu
     · obtain⟨o,ho,e⟩:=zf h.eqn (hl r (by simp))
       have:∃ x,x∈r.after∧x∈U:=by
        refine Classical.byContradiction fun hc=>hn (ny.2 fun x hx=>?_)
        simp only[Bool.not_eq_true',j3]
        exact fun hx'=>hc ⟨x,hx,hx'⟩
       obtain⟨x,hx,hxU⟩:=this
       rw[e] at hx
       obtain⟨ed,he,hb,rfl⟩:=qj.1 hx
       exact⟨o,ho,ed,he,hb,by simp[hxU]⟩
     · obtain⟨o,ho,ed,he,hb,hm⟩:=hU u hu hne
       exact⟨o,ho,ed,he,hb,by simp[hm]⟩
def takeB (tab:List Row) (L T:List Nat) (i:Nat):Bool :=
 match zH i tab with
 | none=>false
 | some r=>zu L r && vK (fun s=>Nat.beq s.no i || j4 s.no L || j4 i s.after || Dv r s) tab && tq (fun t=>j4 t (o9 [i] tab)) T && tq (fun u=>!j4 u L) (o9 [i] tab)
theorem bH (h:gY md ops tab) {i:Nat} {oi:Oper} {v:Value} {fuel:Nat} {L:List Nat} {a:Act} {w:World} (hi:ops[i]?=some oi) (hc:takeB tab L T i=true)
 (hQ:∀ c a w,Q (.panic c) (a.put oi.dst v) w→Q (.panic c) a w) (hS:S w) (hy:YieldsIf P ops S oi v a)
 (hr:dn P md ops Q S T fuel (bI ops.size (i :: L)) (a.put oi.dst v) w):dn P md ops Q S T (fuel+1) (bI ops.size L) a w:=by
 unfold takeB at hc
 cases hg:zH i tab with
 | none=>simp[hg] at hc
 | some r =>
   simp only[hg,Bool.and_eq_true] at hc
   obtain⟨⟨⟨h1,h2⟩,h3⟩,h4⟩:=hc
   obtain⟨hm,hno⟩:=Mr hg
   obtain⟨o,ho,e⟩:=zf h.eqn hm
   rw[hno] at ho e
   rw[hi] at ho;injection ho with ho;subst ho
   have PN:i∈Region.ready md ops (bI ops.size L):=(Ak h).2 ⟨oi,hi,by rw[← e];exact h1⟩
   have hup:∀ u,u∈o9 [i] tab→(bI ops.size L).getD u true=false:=fun u hu=>by
    have hn:=ny.1 h4 u hu
    simp only[Bool.not_eq_true',j3] at hn
    refine qo.2 ⟨?_,hn⟩
    by_cases hui:u=i
    · subst hui;exact(Array.getElem?_eq_some_iff.1 hi).1
    · obtain⟨o',ho',_⟩:=tY h i tab [i] (fun _ hr=>hr) (fun u hu hne=>by simp at hu;exact absurd hu hne) u hu hui
      exact(Array.getElem?_eq_some_iff.1 ho').1
   refine tX hi (Region.noSelect_spec h.sel) hQ (tY h i tab [i] (fun _ hr=>hr) (fun u hu hne=>by simp at hu;exact absurd hu hne)) (fun t ht=>lD.1 (ny.1 h3 t (by simpa using ht))) fuel _ a w (fun j oj hj hji hun hno=>?_) hup PN hy hS hr
   have h5:=Af.1 h2 _ (Ex h.eqn hj)
   simp only[Bool.or_eq_true] at h5
   rcases h5 with ((h5 | h5) | h5) | h5
   · exact absurd (Nat.eq_of_beq_eq_true h5) hji
   · exact absurd (lD.1 h5) (qo.1 hun).2
   · obtain⟨ed,he,hb,hon⟩:=qj.1 (lD.1 h5)
     exact absurd hon (hno ed he hb)
   · rw[e] at h5;exact Er h5
theorem tkL (h:gY md ops tab) {i:Nat} {oi:Oper} {v:Value} {fuel:Nat} {L:List Nat} {a:Act} {w:World} (hi:ops[i]?=some oi) (hS:S w) (hy:YieldsIf P ops S oi v a)
 (hr:dn P md ops Q S T fuel (bI ops.size (i :: L)) (a.put oi.dst v) w) (hc:takeB tab L T i=true:=by kernel_rfl)
 (hQ:∀ c a w,Q (.panic c) (a.put oi.dst v) w→Q (.panic c) a w:=by exact fun _ _ _ h=>h):dn P md ops Q S T (fuel+1) (bI ops.size L) a w :=
 bH h hi hc hQ hS hy hr
theorem tkB (h:gY md ops tab) {i:Nat} {oi:Oper} {v:Value} {fuel:Nat} {L:List Nat} {a:Act} {w:World} (hS:S w) (hr:dn P md ops Q S T fuel (bI ops.size (i :: L)) (a.put oi.dst v) w) (hi:ops[i]?=some oi:=by simp only[gE];rfl)
 (hy:YieldsIf P ops S oi v a:=by exact Or.inl ⟨by rfl,by intro w' hSw;(try dsimp only at hSw);go_simp;(try with_reducible rfl)⟩) (hc:takeB tab L T i=true:=by kernel_rfl)
 (hQ:∀ c a w,Q (.panic c) (a.put oi.dst v) w→Q (.panic c) a w:=by exact fun _ _ _ h=>h):dn P md ops Q S T (fuel+1) (bI ops.size L) a w :=
 bH h hi hc hQ hS hy hr
theorem DD (h:gY md ops tab) {i:Nat} {o:Oper} {fuel:Nat} {L:List Nat} {a:Act} {w:World} (hr:kV L tab=[i]) (ho:ops[i]?=some o)
 (hk:∀ K':Act→World→Prop,Shut (∀ a w,(T.contains i=false→S w)→dn P md ops Q S T fuel (bI ops.size (i :: L)) a w→K' a w)→if Region.wanted o (yielded ops a.tmps)=true then Oper.wp P o a w K' Q else K' (a.put o.dst undef) w) :
 dn P md ops Q S T (fuel+1) (bI ops.size L) a w:=wH ((ready_eq h L).trans hr) ho hk
theorem jb (h:gY md ops tab) {i j:Nat} {fuel:Nat} {L:List Nat} {a:Act} {w:World} (hr:kV L tab=[i,j]) (h1:StepT P md ops Q S T fuel (bI ops.size L) a w i) (h2:StepT P md ops Q S T fuel (bI ops.size L) a w j) :
 dn P md ops Q S T (fuel+1) (bI ops.size L) a w:=rU ((ready_eq h L).trans hr) h1 h2
theorem RA.run {i:Nat} {o:Oper} {fuel:Nat} {L:List Nat} {a:Act} {w:World} (ho:ops[i]?=some o)
 (hk:∀ K':Act→World→Prop,Shut (∀ a w,(T.contains i=false→S w)→dn P md ops Q S T fuel (bI ops.size (i :: L)) a w→K' a w)→if Region.wanted o (yielded ops a.tmps)=true then Oper.wp P o a w K' Q else K' (a.put o.dst undef) w) :
 StepT P md ops Q S T fuel (bI ops.size L) a w i:=StepT.run ho hk
def rH (tab:List Row):List Nat→List Nat→Bool
 | [],L=>match kV L tab with | []=>true | _=>false
 | i :: rs,L=>(match kV L tab with | [j]=>Nat.beq i j | _=>false) && rH tab rs (i :: L)
theorem Ej (h:gY md ops tab):∀ (rs L:List Nat),rH tab rs L=true→chainB md ops rs (bI ops.size L)=true:=by
 intro rs
 induction rs with
 | nil =>
   intro L hc
   simp only[rH] at hc
   simp only[chainB,beq_iff_eq,ready_eq h]
   split at hc
   · assumption
   · cases hc
 | cons i rs ih =>
   intro L hc
   simp only[rH,Bool.and_eq_true] at hc
   simp only[chainB,Bool.and_eq_true,beq_iff_eq,ready_eq h]
   refine⟨?_,ih (i :: L) hc.2⟩
   have h1:=hc.1
   split at h1
   · rename_i j hj;rw[hj,Nat.eq_of_beq_eq_true h1]
   · cases h1
theorem DC (h:gY md ops tab) (rs:List Nat) (os:List Oper) (fuel:Nat) (L:List Nat) (a:Act) (w:World) (hl:rs.length≤fuel) (hc:rH tab rs L=true) (hT:rs.all (fun i=>T.contains i)=true) (hm:rs.map (fun i=>ops[i]?)=os.map some)
 (hw:wpList P ops Q os a w):dn P md ops Q S T fuel (bI ops.size L) a w:=qM rs os fuel _ a w hl (Ej h rs L hc) hT hm hw
theorem stB (h:gY md ops tab) {i:Nat} {o:Oper} {fuel:Nat} {L:List Nat} {a:Act} {w:World}
 (hk:∀ K':Act→World→Prop,Shut (∀ a w,(T.contains i=false→S w)→dn P md ops Q S T fuel (bI ops.size (i :: L)) a w→K' a w)→if Region.wanted o (yielded ops a.tmps)=true then Oper.wp P o a w K' Q else K' (a.put o.dst undef) w)
 (hr:kV L tab=[i]:=by kernel_rfl) (ho:ops[i]?=some o:=by simp only[gE];rfl):dn P md ops Q S T (fuel+1) (bI ops.size L) a w:=DD h hr ho hk
theorem rnB {i:Nat} {o:Oper} {fuel:Nat} {L:List Nat} {a:Act} {w:World}
 (hk:∀ K':Act→World→Prop,Shut (∀ a w,(T.contains i=false→S w)→dn P md ops Q S T fuel (bI ops.size (i :: L)) a w→K' a w)→if Region.wanted o (yielded ops a.tmps)=true then Oper.wp P o a w K' Q else K' (a.put o.dst undef) w)
 (ho:ops[i]?=some o:=by simp only[gE];rfl):StepT P md ops Q S T fuel (bI ops.size L) a w i:=RA.run ho hk
theorem tlB (h:gY md ops tab) (rs:List Nat) (os:List Oper) {fuel:Nat} {L:List Nat} {a:Act} {w:World} (hw:wpList P ops Q os a w) (hl:rs.length≤fuel:=by simp) (hc:rH tab rs L=true:=by kernel_rfl) (hT:rs.all (fun i=>T.contains i)=true:=by rfl)
 (hm:rs.map (fun i=>ops[i]?)=os.map some:=by simp only[List.map_cons,List.map_nil,gE];rfl):dn P md ops Q S T fuel (bI ops.size L) a w:=DC h rs os fuel L a w hl hc hT hm hw
theorem bz {id:Nat} {a:Act} {w:World} (S:World→Prop) (T:List Nat) (tab:List Row) (hm:P.follows .mixedOrders=true) (h:gY .any ops tab) (hS:S w.drew)
 (hk:gY .any ops tab→S w.drew→dn P .any ops Q S T ops.size (bI ops.size []) a w.drew):(Code.region id ops true).wp P Q a w:=fZ S T hm hS (hk h)
end
end
section
open Go.RowKit
open Cgt (Brd GB fU rowOk)
def bdr (s:ByteArray):List UInt8:=s.data.toList
def bd (ss:List ByteArray):Brd:=ss.map bdr
theorem gJ (s:ByteArray):(bdr s).length=s.size:=by simp[bdr]
theorem J2 {s:ByteArray} {k:Nat} (h:k<s.size):(bdr s)[k]'(by rw[gJ];exact h)=s[k]:=by simp[bdr];rfl
theorem Dt {s:ByteArray} {k:Nat} (h:k<s.size):(bdr s).getD k 0=s[k]:=by
 rw[List.getD_eq_getElem?_getD,List.getElem?_eq_getElem (by rw[gJ];exact h),Option.getD_some,J2 h]
theorem dS (ss:List ByteArray):(bd ss).length=ss.length:=by simp[bd]
theorem kZ {ss:List ByteArray} {i:Nat} (h:i<ss.length):(bd ss)[i]'(by rw[dS];exact h)=bdr ss[i]:=by simp[bd]
theorem Fa {ss:List ByteArray} {i:Nat} (h:i<ss.length):(bd ss).getD i []=bdr ss[i]:=by
 rw[List.getD_eq_getElem?_getD,List.getElem?_eq_getElem (by rw[dS];exact h),Option.getD_some,kZ h]
def lt8 (s:ByteArray) (k:Nat):Bool:=(bdr s).getD k 0 == 46 || (bdr s).getD k 0 == 35
theorem Oh {s:ByteArray} {k:Nat} (h:k<s.size):lt8 s k=true↔(s[k].toNat=46∨s[k].toNat=35):=by
 unfold lt8
 rw[Dt h,Bool.or_eq_true,beq_iff_eq,beq_iff_eq,← UInt8.toNat_inj,← UInt8.toNat_inj];rfl
theorem qf {w:Nat} {s:ByteArray}:rowOk w (bdr s)=true↔(1≤s.size∧s.size≤8)∧s.size=w∧∀ k,k<s.size→lt8 s k=true:=by
 unfold rowOk lt8
 simp only[Bool.and_eq_true,decide_eq_true_eq,List.all_eq_true,gJ]
 constructor
 · rintro⟨⟨⟨h1,h2⟩,h3⟩,h4⟩
   refine⟨⟨h1,h2⟩,h3,fun k hk=>?_⟩
   rw[List.getD_eq_getElem?_getD,List.getElem?_eq_getElem (by rw[gJ];exact hk),Option.getD_some]
   exact h4 _ (List.getElem_mem _)
 · rintro⟨⟨h1,h2⟩,h3,h4⟩
   refine⟨⟨⟨h1,h2⟩,h3⟩,fun c hc=>?_⟩
   obtain⟨k,hk,rfl⟩:=List.mem_iff_getElem.1 hc
   have:=h4 k (by rw[← gJ];exact hk)
   rw[List.getD_eq_getElem?_getD,List.getElem?_eq_getElem hk,Option.getD_some] at this
   exact this
theorem mX {ss:List ByteArray} {i:Nat} (h:i<ss.length) (h0:0<ss.length) (k:¬ rowOk ss[0].size (bdr ss[i])=true):fU (bd ss)=false:=by
 rw[Bool.eq_false_iff]
 intro e
 unfold fU at e
 simp only[Bool.and_eq_true,List.all_eq_true] at e
 have:=e.2 (bdr ss[i]) (by rw[← kZ h];exact List.getElem_mem _)
 rw[Fa h0,gJ] at this
 exact k this
theorem Ay {ss:List ByteArray} (h1:1≤ss.length∧ss.length≤8) (h:∀ i (hi:i<ss.length),rowOk ss[0].size (bdr ss[i])=true):fU (bd ss)=true:=by
 unfold fU
 simp only[Bool.and_eq_true,List.all_eq_true,dS,decide_eq_true_eq]
 refine⟨h1,fun r hr=>?_⟩
 obtain⟨i,hi,rfl⟩:=List.mem_iff_getElem.1 hr
 have hi':i<ss.length:=by rw[← dS];exact hi
 rw[kZ hi',Fa (by omega),gJ]
 exact h i hi'
theorem Az {ss:List ByteArray} (h:¬ (1≤ss.length∧ss.length≤8)):fU (bd ss)=false:=by
 unfold fU
 rw[dS]
 rcases Nat.lt_or_ge ss.length 1 with e | e
 · have:¬ (1≤ss.length):=by omega
   simp[this]
 · have:¬ (ss.length≤8):=by omega
   simp[this]
def IK:List Row:=[⟨0,[],18,[1]⟩,⟨1,[0],19,[17]⟩,⟨2,[],20,[3]⟩,⟨3,[1,2],21,[18,19]⟩,⟨4,[3],22,[20]⟩,⟨5,[4],23,[21]⟩,⟨6,[5],24,[22]⟩,⟨7,[6],25,[23]⟩,⟨8,[7,6],26,[24]⟩,⟨9,[8],27,[1,25]⟩,⟨10,[9,8],28,[26,25]⟩,⟨11,[8],29,[3,25]⟩,⟨12,[10,11,8],30,[27,28,25]⟩,⟨13,[12,8],31,[29,25]⟩,⟨14,[13,8],32,[30,25]⟩,⟨15,[8],33,[1,25]⟩,⟨16,[15,8],34,[32,25]⟩,⟨17,[16,8],35,[33,25]⟩,⟨18,[17,8],36,[34,25]⟩,⟨19,[18,8],37,[35,25]⟩,⟨20,[14,19,8],38,[31,36,25]⟩,⟨21,[8,20],39,[25,37]⟩]
set_option maxHeartbeats 2000000 in
theorem kL (v:Value) (ss:List ByteArray) (w:World) (h:Strs w v ss) (hl:ss.length≤1048576) (hs:∀ s,s∈ss→s.size≤1048576) :
 Calls prog 30 #[.agg #[v]] w fun e w'=>e=.returned (.bool (fU (bd ss)))∧Ext w w':=by
 obtain⟨a,cap,rfl,hcap,hml⟩:=h.open
 have hxb:Ext w (w.alloc (.cells #[.slice a ss.length cap] 31)):=by go_grown
 have hbb:=heap_alloc_new w (.cells #[.slice a ss.length cap] 31)
 by_cases h8:1≤ss.length∧ss.length≤8
 · have hin:inB ((ss.length:Nat):Int) 1 8=true:=by simp[inB];omega
   have h0:0<ss.length:=by omega
   have H8:=Hd_ h8
   clear h8
   go_enter Tryz.func30,Tryz.ntmps30
   go_wp2_with (go_at_call 60;refine(fC _ _ _ _).mono ?_;rintro e w1 ⟨he,n,rfl⟩;rw[hin] at he;subst he)
   have hx1:Ext w ((w.alloc (.cells #[.slice a ss.length cap] 31)).drewN n):=bN hxb n
   have hb1:((w.alloc (.cells #[.slice a ss.length cap] 31)).drewN n).heap[w.heap.size]?=some (.cells #[.slice a ss.length cap] 31 (0,0)):=hbb
   generalize (w.alloc (.cells #[.slice a ss.length cap] 31)).drewN n=W at *
   generalize w.heap.size=p at *
   clear hxb hbb hin
   go_loopw [2,3,4] (fun _ ii _ wr=>∃ i:Nat,ii=.int .i64 ((i:Nat):Int)∧i≤ss.length∧Ext W wr∧Hid (∀ j (hj:j<ss.length),j<i→rowOk ss[0].size (bdr ss[j])=true)) (fun _ ii _ _=>ss.length-(intOf ii).toNat)
   case atStart=>exact⟨0,rfl,Nat.zero_le _,Below.refl _ _,Hd_ fun j _ h=>absurd h (by omega)⟩
   case round =>
    obtain⟨i,rfl,hi,hx,HP⟩:=hrel
    have hE:=aa hx1 hx
    have hbr:wr.heap[p]?=some (.cells #[.slice a ss.length cap] 31 (0,0)):=(hx.block _ (ah hb1)).trans hb1
    have c0:=cell_of_row wr p 0 _ _ _ hbr
    simp only[gE] at c0
    by_cases hlt:i<ss.length
    · have h1:((i:Nat):Int)<((ss.length:Nat):Int):=by omega
      obtain⟨b,off,rfl,hc⟩:=(h.ext hE).at hlt
      have ci:=hc i hlt
      have cz:=hc 0 h0
      rw[Nat.add_zero] at cz
      have hsi:=hs _ (List.getElem_mem hlt)
      have hs0:=hs _ (List.getElem_mem h0)
      obtain⟨si,esi⟩:∃ si:ByteArray,ss[i]=si:=⟨_,rfl⟩
      obtain⟨s0,es0⟩:∃ s0:ByteArray,ss[0]=s0:=⟨_,rfl⟩
      rw[esi] at ci hsi
      rw[es0] at cz hs0 HP
      have ESI:=Hd_ esi
      have ES0:=Hd_ es0
      clear esi es0
      have HC:=Hd_ hc
      have HX:=Hd_ hx
      have HE:=Hd_ hE
      clear hc hx hE
      by_cases h2:1≤si.size∧si.size≤8
      · have hin:inB ((si.size:Nat):Int) 1 8=true:=by simp[inB];omega
        have H2:=Hd_ h2
        clear h2
        go_upto_region 6 with fail
        refine bz (fun W=>W.cell? ⟨p,0,none⟩=some (.slice (some ⟨b,off,none⟩) ss.length cap)∧W.cell? ⟨b,off+i,none⟩=some (.string si)∧W.cell? ⟨b,off,none⟩=some (.string s0)) [21] IK (by kernel_rfl) ⟨by kernel_rfl,by kernel_rfl,by kernel_rfl⟩ ⟨c0,ci,cz⟩ (fun ae hHeld=>?_)
        ((refine tkB ae (i:=0) hHeld ?_);(try simp only[nP]);(refine tkB ae (i:=1) hHeld ?_);(try simp only[nP]);(refine tkB ae (i:=2) hHeld ?_);(try simp only[nP]);(refine tkB ae (i:=3) hHeld ?_);(try simp only[nP]);(refine tkB ae (i:=4) hHeld ?_);(try simp only[nP]);(refine tkB ae (i:=5) hHeld ?_);(try simp only[nP]))
        (refine stB ae (i:=6) fun K hK=>?_;go_simp)
        refine(fC _ _ _ _).mono ?_
        rintro e w1 ⟨he,n,rfl⟩
        rw[hin] at he
        subst he
        (refine hK.out _ _ (fun _=>?_) ?_)
        · exact hHeld
        clear hK K
        (try simp only[nP])
        ((refine tkB ae (i:=7) hHeld ?_);(try simp only[nP]);(refine tkB ae (i:=8) hHeld ?_);(try simp only[nP]);(refine tkB ae (i:=9) hHeld ?_);(try simp only[nP]);(refine tkB ae (i:=10) hHeld ?_);(try simp only[nP]);(refine tkB ae (i:=11) hHeld ?_);(try simp only[nP]);(refine tkB ae (i:=12) hHeld ?_);(try simp only[nP]);(refine tkB ae (i:=13) hHeld ?_);(try simp only[nP]);(refine tkB ae (i:=14) hHeld ?_);(try simp only[nP]);(refine tkB ae (i:=15) hHeld ?_);(try simp only[nP]);(refine tkB ae (i:=16) hHeld ?_);(try simp only[nP]);(refine tkB ae (i:=17) hHeld ?_);(try simp only[nP]);(refine tkB ae (i:=18) hHeld ?_);(try simp only[nP]);(refine tkB ae (i:=19) hHeld ?_);(try simp only[nP]);(refine tkB ae (i:=20) hHeld ?_);(try simp only[nP]))
        refine tlB ae [21] [_] ?_
        by_cases h3:si.size=s0.size
        · have h3':¬ (((si.size:Nat):Int)≠((s0.size:Nat):Int)):=by omega
          have hne:(((si.size:Nat):Int) != ((s0.size:Nat):Int))=false:=by simp;omega
          have H3:=Hd_ h3
          clear h3
          go_wp2
          clear h3' hne ci cz hbr hHeld ae c0 hin
          go_loopw [2,4] (fun _ kk wr=>∃ k:Nat,kk=.int .i64 ((k:Nat):Int)∧k≤si.size∧Ext W wr∧Hid (∀ j,j<k→lt8 si j=true)) (fun _ kk _=>si.size-(intOf kk).toNat)
          case atStart=>exact⟨0,rfl,Nat.zero_le _,aa HX.out (by exact⟨rfl,rfl,rfl,Nat.le_refl _,fun _ _=>rfl⟩),Hd_ fun j h=>absurd h (by omega)⟩
          case round =>
           obtain⟨k,rfl,hk,hx2,HQ⟩:=hrel
           have hE:=aa hx1 hx2
           have hbr:wr.heap[p]?=some (.cells #[.slice (some ⟨b,off,none⟩) ss.length cap] 31 (0,0)):=(hx2.block _ (ah hb1)).trans hb1
           have c0:=cell_of_row wr p 0 _ _ _ hbr
           simp only[gE] at c0
           obtain⟨b',off',eb,hc⟩:=(h.ext hE).at hlt
           simp only[Option.some.injEq,Addr.mk.injEq,and_true] at eb
           obtain⟨rfl,rfl⟩:=eb
           have ci:=hc i hlt
           rw[ESI.out] at ci
           have HX2:=Hd_ hx2
           have HE2:=Hd_ hE
           clear hc hx2 hE hbr
           have HLT:=Hd_ hlt
           by_cases hkl:k<si.size
           · have h4:((k:Nat):Int)<((si.size:Nat):Int):=by omega
             have HI:=Hd_ (Oh hkl)
             have HKL:=Hd_ hkl
             by_cases h46:(si[k]'hkl).toNat=46
             · have e1:(((si[k]'hkl).toNat:Nat):Int)=46:=by omega
               have HK:=Hd_ (HI.out.2 (.inl h46))
               clear h46
               go_wp2
               go_roundw
               case rel=>exact⟨k+1,by go_num,by have:=HKL.out;omega,HX2.out,Hd_ fun j hj=>by
                by_cases e:j=k
                · subst e;exact HK.out
                · exact HQ.out j (by omega)⟩
               case measure=>have:=HKL.out;simp[intOf];omega
             · by_cases h35:(si[k]'hkl).toNat=35
               · have e1:(((si[k]'hkl).toNat:Nat):Int)=35:=by omega
                 have HK:=Hd_ (HI.out.2 (.inr h35))
                 clear h46 h35
                 go_wp2
                 go_roundw
                 case rel=>exact⟨k+1,by go_num,by have:=HKL.out;omega,HX2.out,Hd_ fun j hj=>by
                  by_cases e:j=k
                  · subst e;exact HK.out
                  · exact HQ.out j (by omega)⟩
                 case measure=>have:=HKL.out;simp[intOf];omega
               · have e1:((((si[k]'hkl).toNat:Nat):Int) != 46)=true:=by simp;omega
                 have e2:((((si[k]'hkl).toNat:Nat):Int) != 35)=true:=by simp;omega
                 have e3:¬ ((((si[k]'hkl).toNat:Nat):Int)=46):=by omega
                 have e4:¬ ((((si[k]'hkl).toNat:Nat):Int)=35):=by omega
                 have e5:(((((si[k]'hkl).toNat:Nat):Int) != 46) && ((((si[k]'hkl).toNat:Nat):Int) != 35))=true:=by rw[e1,e2];rfl
                 have HN:Hid (¬ (lt8 si k=true)):=Hd_ fun h=>by rcases HI.out.1 h with h | h;exact h46 h;exact h35 h
                 clear h46 h35
                 go_wp2
                 go_ret
                 exact⟨bQ (mX HLT.out h0 fun e=>HN.out ((qf.1 (by rw[ESI.out] at e;exact e)).2.2 k HKL.out)).symm,HE2.out⟩
           · have h4:¬ (((k:Nat):Int)<((si.size:Nat):Int)):=by omega
             have HKL:=Hd_ hkl
             clear hkl
             go_wp2
             go_roundw
             case rel=>exact⟨i+1,by go_num,by have:=HLT.out;omega,HX2.out,Hd_ fun j hj hji=>by
              by_cases e:j=i
              · subst e;rw[ESI.out,ES0.out];exact qf.2 ⟨H2.out,H3.out,fun q hq=>HQ.out q (by have:=HKL.out;omega)⟩
              · rw[ES0.out];exact HP.out j hj (by omega)⟩
             case measure=>have:=HLT.out;simp[intOf];omega
        · have h3':((si.size:Nat):Int)≠((s0.size:Nat):Int):=by omega
          have hne:(((si.size:Nat):Int) != ((s0.size:Nat):Int))=true:=by simp;omega
          have H3:=Hd_ h3
          clear h3
          go_wp2
          go_ret
          exact⟨bQ (mX hlt h0 fun e=>H3.out (qf.1 (by rw[ESI.out,ES0.out] at e;exact e)).2.1).symm,aa HE.out (by exact⟨rfl,rfl,rfl,Nat.le_refl _,fun _ _=>rfl⟩)⟩
      · have hin:inB ((si.size:Nat):Int) 1 8=false:=by
         rw[Bool.eq_false_iff];intro e;simp[inB] at e;omega
        have H2:=Hd_ h2
        clear h2
        go_upto_region 6 with fail
        refine bz (fun W=>W.cell? ⟨p,0,none⟩=some (.slice (some ⟨b,off,none⟩) ss.length cap)∧W.cell? ⟨b,off+i,none⟩=some (.string si)∧W.cell? ⟨b,off,none⟩=some (.string s0)) [21] IK (by kernel_rfl) ⟨by kernel_rfl,by kernel_rfl,by kernel_rfl⟩ ⟨c0,ci,cz⟩ (fun ae hHeld=>?_)
        ((refine tkB ae (i:=0) hHeld ?_);(try simp only[nP]);(refine tkB ae (i:=1) hHeld ?_);(try simp only[nP]);(refine tkB ae (i:=2) hHeld ?_);(try simp only[nP]);(refine tkB ae (i:=3) hHeld ?_);(try simp only[nP]);(refine tkB ae (i:=4) hHeld ?_);(try simp only[nP]);(refine tkB ae (i:=5) hHeld ?_);(try simp only[nP]))
        (refine stB ae (i:=6) fun K hK=>?_;go_simp)
        refine(fC _ _ _ _).mono ?_
        rintro e w1 ⟨he,n,rfl⟩
        rw[hin] at he
        subst he
        (refine hK.out _ _ (fun _=>?_) ?_)
        · exact hHeld
        clear hK K
        (try simp only[nP])
        ((refine tkB ae (i:=7) hHeld ?_);(try simp only[nP]);(refine tkB ae (i:=8) hHeld ?_);(try simp only[nP]))
        ((refine bH ae (i:=9) (oi:=_) (v:=undef) (by simp only[gE];rfl) (by kernel_rfl) (by exact fun _ _ _ h=>h) hHeld (Or.inr ⟨by rfl,rfl⟩) ?r29);(try simp only[nP]);(refine bH ae (i:=10) (oi:=_) (v:=undef) (by simp only[gE];rfl) (by kernel_rfl) (by exact fun _ _ _ h=>h) hHeld (Or.inr ⟨by rfl,rfl⟩) ?r30);(try simp only[nP]);(refine bH ae (i:=11) (oi:=_) (v:=undef) (by simp only[gE];rfl) (by kernel_rfl) (by exact fun _ _ _ h=>h) hHeld (Or.inr ⟨by rfl,rfl⟩) ?r31);(try simp only[nP]);(refine bH ae (i:=12) (oi:=_) (v:=undef) (by simp only[gE];rfl) (by kernel_rfl) (by exact fun _ _ _ h=>h) hHeld (Or.inr ⟨by rfl,rfl⟩) ?r32);(try simp only[nP]);(refine bH ae (i:=13) (oi:=_) (v:=undef) (by simp only[gE];rfl) (by kernel_rfl) (by exact fun _ _ _ h=>h) hHeld (Or.inr ⟨by rfl,rfl⟩) ?r33);(try simp only[nP]);(refine bH ae (i:=14) (oi:=_) (v:=undef) (by simp only[gE];rfl) (by kernel_rfl) (by exact fun _ _ _ h=>h) hHeld (Or.inr ⟨by rfl,rfl⟩) ?r34);(try simp only[nP]);(refine bH ae (i:=15) (oi:=_) (v:=undef) (by simp only[gE];rfl) (by kernel_rfl) (by exact fun _ _ _ h=>h) hHeld (Or.inr ⟨by rfl,rfl⟩) ?r35);(try simp only[nP]);(refine bH ae (i:=16) (oi:=_) (v:=undef) (by simp only[gE];rfl) (by kernel_rfl) (by exact fun _ _ _ h=>h) hHeld (Or.inr ⟨by rfl,rfl⟩) ?r36);(try simp only[nP]);(refine bH ae (i:=17) (oi:=_) (v:=undef) (by simp only[gE];rfl) (by kernel_rfl) (by exact fun _ _ _ h=>h) hHeld (Or.inr ⟨by rfl,rfl⟩) ?r37);(try simp only[nP]);(refine bH ae (i:=18) (oi:=_) (v:=undef) (by simp only[gE];rfl) (by kernel_rfl) (by exact fun _ _ _ h=>h) hHeld (Or.inr ⟨by rfl,rfl⟩) ?r38);(try simp only[nP]);(refine bH ae (i:=19) (oi:=_) (v:=undef) (by simp only[gE];rfl) (by kernel_rfl) (by exact fun _ _ _ h=>h) hHeld (Or.inr ⟨by rfl,rfl⟩) ?r39);(try simp only[nP]);(refine bH ae (i:=20) (oi:=_) (v:=undef) (by simp only[gE];rfl) (by kernel_rfl) (by exact fun _ _ _ h=>h) hHeld (Or.inr ⟨by rfl,rfl⟩) ?r40);(try simp only[nP]))
        refine tlB ae [21] [_] ?_
        go_wp2
        go_ret
        exact⟨bQ (mX hlt h0 fun e=>H2.out (qf.1 (by rw[ESI.out] at e;exact e)).1).symm,aa HE.out (by exact⟨rfl,rfl,rfl,Nat.le_refl _,fun _ _=>rfl⟩)⟩
    · have h1:¬ (((i:Nat):Int)<((ss.length:Nat):Int)):=by omega
      have HLT:=Hd_ hlt
      clear hlt
      go_wp2
      go_ret
      exact⟨bQ (Ay H8.out fun j hj=>HP.out j hj (by have:=HLT.out;omega)).symm,hE⟩
 · have hin:inB ((ss.length:Nat):Int) 1 8=false:=by
    rw[Bool.eq_false_iff];intro e;simp[inB] at e;omega
   have H8:=Hd_ h8
   clear h8
   go_enter Tryz.func30,Tryz.ntmps30
   go_wp2_with (go_at_call 60;refine(fC _ _ _ _).mono ?_;rintro e w1 ⟨he,n,rfl⟩;rw[hin] at he;subst he)
   go_ret
   exact⟨bQ (Az H8.out).symm,bN hxb n⟩
end
end Go.Proofs.YteknjeohbcgpdaaGreatDoor