/- 7 -/
import Derived.Test.YtplgooajigigkaaGreatDoorQ5
import Derived.Deep.RegionHeld3
set_option maxRecDepth 100000
set_option maxHeartbeats 4000000
namespace Go.Proofs.YtplgooajigigkaaGreatDoor
section
open Go Go.RowKit
section
variable {P:Program} {ops:Array Oper} {Q:Exit->Act->World->Prop} {md:Region.Mode} {S:World->Prop} {T:List Nat}
variable {listed:Array Bool} {i fuel:Nat} {oi o:Oper} {v:Value} {U:List Nat} {a:Act} {w:World}
def gJ(P:Program)(md:Region.Mode)(ops:Array Oper)(Q:Exit->Act->World->Prop)(S:World->Prop)(T:List Nat):Nat->Array Bool->Act->World->Prop
 | 0,listed,a,w=>Region.ready md ops listed=[]/\Q .normal a w
 |fuel+1,listed,a,w=>
  (Region.ready md ops listed=[]->Q .normal a w)/\
  ∀i∈Region.ready md ops listed,wpOp P ops Q i (λa' w'=>(T.contains i=false->S w')/\gJ P md ops Q S T fuel (listed.setIfInBounds i true) a' w') a w
theorem AV:∀(fuel:Nat) (listed:Array Bool) (a:Act) (w:World),gJ P md ops Q S T fuel listed a w->wpAny P md ops Q fuel listed a w
 | 0,_,_,_,h=>h
 |fuel+1,_,_,_,h=>⟨h.1,λi hi=>wpOp_mono (λa' w' h'=>AV fuel _ a' w' h'.2) (h.2 i hi)⟩
theorem QI{u:Nat}(h:listed.getD u true=false):listed.getD u false=false:=by
 rcases fe u listed.size with h'|h'
 .simpa [h']using h
 .simp[h']
def NJ(md:Region.Mode)(ops:Array Oper)(U:List Nat)(i:Nat):Prop:=∀u,u∈U->u≠i->∃o,ops[u]?=some o/\∃e,e∈o.after/\Region.binds md e=true/\e.on∈U
theorem xx(hi:ops[i]?=some oi)(hsel:∀(j:Nat) (o:Oper) cs b,ops[j]?=some o->o.op≠.select cs b)
 (hQ:∀c a w,Q (.panic c) (a.put oi.dst v) w->Q (.panic c) a w) (hU:NJ md ops U i) (hT:∀t,T.contains t=true->t∈U):
 ∀(fuel:Nat) (listed:Array Bool) (a:Act) (w:World),
  (∀j oj,ops[j]?=some oj->j≠i->listed.getD j true=false->(∀e∈oj.after,Region.binds md e=true->e.on≠i)->oi.apart ops oj=true)->
  (∀u,u∈U->listed.getD u true=false)->
  i∈Region.ready md ops listed->YieldsIf P ops S oi v a->S w->
  gJ P md ops Q S T fuel (listed.setIfInBounds i true) (a.put oi.dst v) w->gJ P md ops Q S T (fuel+1) listed a w:=by
 intro fuel
 induction fuel with
 |zero=>
  intro listed a w _ hul hr hy hS H;refine⟨λh=>(by rw[h]at hr;cases hr),λj hj=>?_⟩;by_cases hji:j=i
  .subst hji;exact hy.wpOp hi hS ⟨λ_=>hS,H⟩
  .have:=ready_mono hj hji
   rw[H.1]at this;cases this
 |succ fuel ih=>
  intro listed a w hfree hul hr hy hS H;refine⟨λh=>(by rw[h]at hr;cases hr),λj hj=>?_⟩;by_cases hji:j=i
  .subst hji;exact hy.wpOp hi hS ⟨λ_=>hS,H⟩
  .have h1:=H.2 j (ready_mono hj hji)
   obtain⟨hjun,oj,hoj,hall⟩:=mem_ready.1 hj;have hjU:j ∉ U:=λh=>by
    obtain⟨o,ho,e,he,hb,hon⟩:=hU j h hji;obtain rfl:o=oj:=(by rw[ho]at hoj;injection hoj);have h2:=hall e he hb;rw[QI (hul _ hon)]at h2;cases h2
   have hjT:T.contains j=false:=by
    cases h:T.contains j with
    |false=>rfl
    |true=>exact absurd (hT j h) hjU
   have hnot:∀e∈oj.after,Region.binds md e=true->e.on≠i:=λe he hb heq=>by
    have h1:=hall e he hb;have h0:=(mem_ready.1 hr).1;rw[heq]at h1;rcases fe i listed.size with h'|h'
    .simp[h']at h0 h1;rw[h0]at h1;cases h1
    .simp[Array.getElem?_eq_none h']at h1
   have h2:=wpOp_putIf hoj (hfree j oj hoj hji hjun hnot) (λcs b=>hsel i oi cs b hi) (λcs b=>hsel j oj cs b hoj) hQ hy h1
   have hfree':∀k ok,ops[k]?=some ok->k≠i->(listed.setIfInBounds j true).getD k true=false->
    (∀e∈ok.after,Region.binds md e=true->e.on≠i)->oi.apart ops ok=true:=λk ok hk hki hun hno=>by
    refine hfree k ok hk hki ?_ hno;by_cases hjk:j=k
    .subst hjk;exact hjun
    .rw[getD_set_ne true hjk]at hun;exact hun
   have afY:∀u,u∈U->(listed.setIfInBounds j true).getD u true=false:=λu hu=>by
    rw[getD_set_ne true (λe=>hjU (by rw[e];exact hu))];exact hul u hu
   refine wpOp_mono (λa' w' h3=>⟨λ_=>h3.2.1 hjT,ih (listed.setIfInBounds j true) a' w' hfree' afY (ready_mono hr (Ne.symm hji)) h3.1 (h3.2.1 hjT) ?_⟩) h2;rw[Array.setIfInBounds_comm _ _ hji];exact h3.2.2
def Zq(md:Region.Mode)(ops:Array Oper)(i:Nat):List Nat:=(List.range ops.size).foldl (λU j=>if (match ops[j]? with|some o=>o.after.any (λe=>Region.binds md e && U.contains e.on)|none=>false)then U++[j]else U) [i]
def QC(md:Region.Mode)(ops:Array Oper)(U:List Nat)(i:Nat):Bool:=U.all λu=>u == i || (match ops[u]? with|some o=>o.after.any (λe=>Region.binds md e && U.contains e.on)|none=>false)
def QM(md:Region.Mode)(ops:Array Oper)(T:List Nat)(listed:Array Bool)(i:Nat):Bool:=
 QC md ops (Zq md ops i) i && T.all (λt=>(Zq md ops i).contains t) && (Zq md ops i).all (λu=>!listed.getD u true)
theorem JQ(h:QC md ops U i=true):NJ md ops U i:=by
 intro u hu hne;have h1:=List.all_eq_true.1 h u hu;simp only[qm,beq_iff_eq,hne,false_or]at h1;cases ho:ops[u]? with
 |none=>simp[ho]at h1
 |some o=>
  simp only[ho]at h1;obtain⟨e,he,hb⟩:=Array.any_eq_true'.1 h1;simp only[dS]at hb;exact⟨o,rfl,e,he,hb.1,by simpa using hb.2⟩
theorem Gp(hi:ops[i]?=some oi)
 (hs:Region.noSelect ops=true) (hf:Region.free md ops listed i=true) (hr:(Region.ready md ops listed).contains i=true) (ht:QM md ops T listed i=true)
 (hQ:∀c a w,Q (.panic c) (a.put oi.dst v) w->Q (.panic c) a w) (hS:S w) (hy:YieldsIf P ops S oi v a)
 (h:gJ P md ops Q S T fuel (listed.setIfInBounds i true) (a.put oi.dst v) w):gJ P md ops Q S T (fuel+1) listed a w:=by
 simp only[QM,dS]at ht;obtain⟨⟨h1,h2⟩,h3⟩:=ht;refine xx hi (Region.noSelect_spec hs) hQ (JQ h1) (λt ht=>?_) fuel listed a w (Region.free_spec hi hf) (λu hu=>?_) (by simpa using hr) hy hS h
 .have:=List.all_eq_true.1 h2 t (by simpa using ht)
  simpa using this
 .have:=List.all_eq_true.1 h3 u hu
  simpa using this
theorem jT(i:Nat){a':Act}(hS:S w)(h:gJ P md ops Q S T fuel (listed.setIfInBounds i true) a' w)(hi:ops[i]?=some oi:=by simp only[gE];rfl)
 (hy:YieldsIf P ops S oi v a:=by exact Or.inl ⟨by rfl,by intro w' hSw;(try dsimp only at hSw);go_simp;(try with_reducible rfl)⟩)
 (hs:Region.noSelect ops=true:=by kernel_rfl) (hf:Region.free md ops listed i=true:=by kernel_rfl) (hr:(Region.ready md ops listed).contains i=true:=by kernel_rfl) (ht:QM md ops T listed i=true:=by kernel_rfl)
 (ha:a.put oi.dst v=a':=by first|(simp only[nP];done)|(simp only[nP];rfl)|rfl)
 (hQ:∀c a w,Q (.panic c) (a.put oi.dst v) w->Q (.panic c) a w:=by exact λ_ _ _ h=>h):gJ P md ops Q S T (fuel+1) listed a w:=
 Gp hi hs hf hr ht hQ hS hy (by rw[ha];exact h)
theorem zB(hr:Region.ready md ops listed=[i])(ho:ops[i]?=some o)
 (h:∀K':Act->World->Prop,Shut (∀a w,(T.contains i=false->S w)->gJ P md ops Q S T fuel (listed.setIfInBounds i true) a w->K' a w)->if Region.wanted o (yielded ops a.tmps)=true then Oper.wp P o a w K' Q else K' (a.put o.dst undef) w):
 gJ P md ops Q S T (fuel+1) listed a w:=by
 refine⟨λh0=>(by rw[hr]at h0;cases h0),λj hj=>?_⟩;rw[hr]at hj;obtain rfl:j=i:=by simpa using hj
 exact wpOp_step ho (λK' hK=>h K' (λa w hS hW=>hK a w ⟨hS,hW⟩))
def StepT(P:Program)(md:Region.Mode)(ops:Array Oper)(Q:Exit->Act->World->Prop)(S:World->Prop)(T:List Nat)(fuel:Nat)(listed:Array Bool)(a:Act)(w:World)(i:Nat):Prop:=
 wpOp P ops Q i (λa' w'=>(T.contains i=false->S w')/\gJ P md ops Q S T fuel (listed.setIfInBounds i true) a' w') a w
theorem StepT.run(ho:ops[i]?=some o)
 (h:∀K':Act->World->Prop,Shut (∀a w,(T.contains i=false->S w)->gJ P md ops Q S T fuel (listed.setIfInBounds i true) a w->K' a w)->if Region.wanted o (yielded ops a.tmps)=true then Oper.wp P o a w K' Q else K' (a.put o.dst undef) w):
 StepT P md ops Q S T fuel listed a w i:=wpOp_step ho (λK' hK=>h K' (λa w hS hW=>hK a w ⟨hS,hW⟩))
theorem stA
 (h:∀K':Act->World->Prop,Shut (∀a w,(T.contains i=false->S w)->gJ P md ops Q S T fuel (listed.setIfInBounds i true) a w->K' a w)->if Region.wanted o (yielded ops a.tmps)=true then Oper.wp P o a w K' Q else K' (a.put o.dst undef) w)
 (hr:Region.ready md ops listed=[i]:=by kernel_rfl) (ho:ops[i]?=some o:=by simp only[gE];rfl):gJ P md ops Q S T (fuel+1) listed a w:=zB hr ho h
theorem rnA
 (h:∀K':Act->World->Prop,Shut (∀a w,(T.contains i=false->S w)->gJ P md ops Q S T fuel (listed.setIfInBounds i true) a w->K' a w)->if Region.wanted o (yielded ops a.tmps)=true then Oper.wp P o a w K' Q else K' (a.put o.dst undef) w)
 (ho:ops[i]?=some o:=by simp only[gE];rfl):StepT P md ops Q S T fuel listed a w i:=StepT.run ho h
theorem wN{j:Nat}(hr:Region.ready md ops listed=[i,j])(h1:StepT P md ops Q S T fuel listed a w i)(h2:StepT P md ops Q S T fuel listed a w j):
 gJ P md ops Q S T (fuel+1) listed a w:=by
 refine⟨λh0=>(by rw[hr]at h0;cases h0),λk hk=>?_⟩;rw[hr]at hk;rcases dZ.1 hk with rfl|hk
 .exact h1
 .obtain rfl:k=j:=by simpa using hk
  exact h2
def chainB(md:Region.Mode)(ops:Array Oper):List Nat->Array Bool->Bool
 |[],listed=>Region.ready md ops listed == []
 |i :: rs,listed=>Region.ready md ops listed == [i] && chainB md ops rs (listed.setIfInBounds i true)
theorem um:∀(rs:List Nat) (os:List Oper) (fuel:Nat) (listed:Array Bool) (a:Act) (w:World),rs.length<=fuel->chainB md ops rs listed=true->rs.all (λi=>T.contains i)=true->rs.map (λi=>ops[i]?)=os.map some->
 wpList P ops Q os a w->gJ P md ops Q S T fuel listed a w
 |[],[],0,listed,a,w,_,hc,_,_,h=>⟨by simpa [chainB]using hc,h⟩
 |[],[],fuel+1,listed,a,w,_,hc,_,_,h=>⟨λ_=>h,λj hj=>by have h0:Region.ready md ops listed=[]:=(by simpa [chainB]using hc);rw[h0]at hj;cases hj⟩
 |i :: rs,o :: os,fuel+1,listed,a,w,hl,hc,hT,hm,h=>by
  simp only[chainB,dS,beq_iff_eq]at hc;simp only[List.all_cons,dS]at hT;simp only[eF,iZ]at hm;refine⟨λh0=>(by rw[hc.1]at h0;cases h0),λj hj=>?_⟩;rw[hc.1]at hj;obtain rfl:j=i:=by simpa using hj
  unfold wpOp;simp only[hm.1];have ih:=λa w hw=>um rs os fuel (listed.setIfInBounds j true) a w (by simpa using hl) hc.2 hT.2 hm.2 hw
  unfold wpList at h;by_cases hw:Region.wanted o (yielded ops a.tmps)=true
  .rw[if_pos hw]at h
   rw[if_pos hw];exact h.imp (Oper.wp_mono λa' w' hh=>⟨λhn=>(by rw[hT.1]at hn;cases hn),ih a' w' hh⟩) id
  .rw[if_neg hw]at h
   rw[if_neg hw];exact⟨λhn=>(by rw[hT.1]at hn;cases hn),ih _ _ h⟩
 |[],_ :: _,_,_,_,_,_,_,_,hm,_=>by simp at hm
 |_ :: _,[],_,_,_,_,_,_,_,hm,_=>by simp at hm
 |_ :: _,_ :: _,0,_,_,_,hl,_,_,_,_=>by simp at hl
theorem VX(rs:List Nat)(os:List Oper)(h:wpList P ops Q os a w)(hl:rs.length<=fuel:=by simp)(hc:chainB md ops rs listed=true:=by kernel_rfl)(hT:rs.all (λi=>T.contains i)=true:=by rfl)
 (hm:rs.map (λi=>ops[i]?)=os.map some:=by simp only[eF,List.map_nil,gE];rfl):gJ P md ops Q S T fuel listed a w:=um rs os fuel listed a w hl hc hT hm h
theorem kH{id:Nat}(S:World->Prop)(T:List Nat)(hm:P.follows .mixedOrders=true)(hS:S w.drew)
 (h:S w.drew->gJ P .any ops Q S T ops.size (Array.replicate ops.size false) a w.drew):(Code.region id ops true).wp P Q a w:=
 wp_region_any hm (AV _ _ _ _ (h hS))
end
end
section
open Go Go.RowKit
variable {x n u:Nat} {l L:List Nat}
structure Row where
 no:Nat
 after:List Nat
 dst:Nat
 looks:List Nat
def rowOf(md:Region.Mode)(ops:Array Oper)(k:Nat)(o:Oper):Row:=⟨k,(o.after.toList.filter (Region.binds md)).map (·.on),match o.dst with|some d=>d+1|none=>0,o.looksAt ops⟩
def qy(md:Region.Mode)(ops:Array Oper):Nat->List Oper->List Row
 |_,[]=>[]
 |k,o :: l=>rowOf md ops k o :: qy md ops (k+1) l
def Dt(md:Region.Mode)(ops:Array Oper):List Row:=qy md ops 0 ops.toList
def uF(x:Nat):List Nat->Bool
 |[]=>false
 |y :: l=>Nat.beq x y || uF x l
theorem qb:uF x l=true↔x∈l:=by
 induction l with
 |nil=>simp[uF]
 |cons y l ih=>simp[uF,ih]
theorem om:uF x l=false↔x ∉ l:=by rw[<-qb];simp
def dO(n:Nat):List Nat->Array Bool
 |[]=>Array.replicate n false
 |i :: L=>(dO n L).setIfInBounds i true
theorem zJ(n:Nat)(L:List Nat):(dO n L).size=n:=by
 induction L with
 |nil=>simp[dO]
 |cons i L ih=>simp[dO,ih]
theorem BD(h:u<n):(dO n L)[u]?=some (uF u L):=by
 induction L with
 |nil=>simp[dO,uF,h]
 |cons i L ih=>
  simp only[dO,uF];rw[Array.getElem?_setIfInBounds];by_cases e:i=u
  .subst e
   rw[if_pos rfl,if_pos (by rw[zJ];exact h)];simp
  .rw[if_neg e,ih]
   have:Nat.beq u i=false:=by cases hb:Nat.beq u i with|false=>rfl|true=>exact absurd (Nat.eq_of_beq_eq_true hb).symm e
   rw[this];simp
theorem listed_none(h:¬u<n):(dO n L)[u]?=none:=Array.getElem?_eq_none (by rw[zJ];omega)
theorem vJ:(dO n L).getD u true=false↔u<n/\u ∉ L:=by
 rw[Array.getD_eq_getD_getElem?];by_cases h:u<n
 .rw[BD h];simp[om,h]
 .rw[listed_none h];simp[h]
theorem D6:(dO n L).getD u false=true↔u<n/\u∈L:=by
 rw[Array.getD_eq_getD_getElem?];by_cases h:u<n
 .rw[BD h];simp[qb,h]
 .rw[listed_none h];simp[h]
section
variable {P:Program} {ops:Array Oper} {Q:Exit->Act->World->Prop} {md:Region.Mode} {S:World->Prop} {T:List Nat} {tab:List Row}
variable {r:Row} {j i fuel:Nat} {o oi:Oper} {l:List Row} {L:List Nat} {v:Value} {a:Act} {w:World}
theorem GA(l:List Oper):∀k j,(qy md ops k l)[j]?=(l[j]?).map (rowOf md ops (k+j)):=by
 induction l with
 |nil=>intro k j;simp[qy]
 |cons o l ih=>
  intro k j;cases j with
  |zero=>simp[qy]
  |succ j=>simp only[qy,dQ];rw[ih];congr 1;funext o;congr 1;omega
theorem MK(h:Dt md ops=tab)(j:Nat):tab[j]?=(ops[j]?).map (rowOf md ops j):=by
 rw[<-h,Dt,GA,ik];simp
theorem EI(h:Dt md ops=tab)(hr:r∈tab):∃o,ops[r.no]?=some o/\r=rowOf md ops r.no o:=by
 obtain⟨j,hj,e⟩:=aH.1 hr;have h1:=MK h j;rw[ae hj,e]at h1;cases ho:ops[j]? with
 |none=>rw[ho]at h1;simp at h1
 |some o=>
  rw[ho]at h1;simp at h1;have hn:r.no=j:=by rw[h1];rfl
  exact⟨o,by rw[hn];exact ho,by rw[hn];exact h1⟩
theorem MJ(h:Dt md ops=tab)(ho:ops[j]?=some o):rowOf md ops j o∈tab:=by
 have h1:=MK h j;rw[ho]at h1;exact fq h1
def FZ(p:Nat->Bool):List Nat->Bool
 |[]=>true
 |x :: l=>p x && FZ p l
theorem rG{p:Nat->Bool}{l:List Nat}:FZ p l=true↔∀x,x∈l->p x=true:=by
 induction l with
 |nil=>simp[FZ]
 |cons x l ih=>simp[FZ,ih]
def DC(p:Row->Bool):List Row->Bool
 |[]=>true
 |x :: l=>p x && DC p l
theorem Dz{p:Row->Bool}:DC p l=true↔∀x,x∈l->p x=true:=by
 induction l with
 |nil=>simp[DC]
 |cons x l ih=>simp[DC,ih]
def OQ(L:List Nat)(r:Row):Bool:=!uF r.no L && FZ (λe=>uF e L) r.after
structure lQ(md:Region.Mode)(ops:Array Oper)(tab:List Row):Prop where
 eqn:Dt md ops=tab
 sel:Region.noSelect ops=true
 edge:DC (λr=>FZ (λe=>Nat.blt e ops.size) r.after) tab=true
theorem lQ.lt(h:lQ md ops tab)(ho:ops[j]?=some o){e:Edge}(he:e∈o.after)(hb:Region.binds md e=true):e.on<ops.size:=by
 have h1:=rG.1 (Dz.1 h.edge _ (MJ h.eqn ho)) e.on (by simp only[rowOf,ay,iY,Array.mem_toList_iff];exact⟨e,⟨he,hb⟩,rfl⟩);rw[Nat.blt_eq]at h1;exact h1
theorem vH{md:Region.Mode}{ops:Array Oper}{x:Nat}:x∈(rowOf md ops j o).after↔∃e,e∈o.after/\Region.binds md e=true/\e.on=x:=by
 simp only[rowOf,ay,iY,Array.mem_toList_iff,and_assoc]
theorem DK(h:lQ md ops tab):j∈Region.ready md ops (dO ops.size L)↔∃o,ops[j]?=some o/\OQ L (rowOf md ops j o)=true:=by
 rw[mem_ready];constructor
 .rintro⟨h1,o,ho,h2⟩
  refine⟨o,ho,?_⟩;simp only[OQ,dS,lu];refine⟨om.2 (vJ.1 h1).2,rG.2 λx hx=>?_⟩;obtain⟨e,he,hb,rfl⟩:=vH.1 hx;exact qb.2 (D6.1 (h2 e he hb)).2
 .rintro⟨o,ho,hm⟩
  simp only[OQ,dS,lu]at hm;refine⟨vJ.2 ⟨(fC.1 ho).1,om.1 hm.1⟩,o,ho,λe he hb=>D6.2 ⟨h.lt ho he hb,qb.1 (rG.1 hm.2 _ (vH.2 ⟨e,he,hb,rfl⟩))⟩⟩
def qL(L:List Nat):List Row->List Nat
 |[]=>[]
 |r :: l=>if OQ L r then r.no :: qL L l else qL L l
theorem CS(L:List Nat)(l:List Row):qL L l=(l.filter (OQ L)).map (·.no):=by
 induction l with
 |nil=>rfl
 |cons r l ih=>simp only[qL,List.filter_cons];split <;> simp[ih]
theorem JZ(l:List Oper):∀k,(qy md ops k l).map (·.no)=List.range' k l.length:=by
 induction l with
 |nil=>intro k;rfl
 |cons o l ih=>intro k;simp[qy,ih,List.range'_succ,rowOf]
theorem ready_eq(h:lQ md ops tab)(L:List Nat):Region.ready md ops (dO ops.size L)=qL L tab:=by
 have hno:tab.map (·.no)=List.range ops.size:=by rw[<-h.eqn,Dt,JZ,List.range_eq_range',ib]
 have e1:Region.ready md ops (dO ops.size L)=(List.range ops.size).filter (λj=>decide (j∈Region.ready md ops (dO ops.size L))):=by
  conv=>lhs;unfold Region.ready
  refine nH λj hj=>?_
  rw[fV,decide_eq_true_iff];unfold Region.ready;rw[iY];exact⟨λk=>⟨hj,k⟩,λk=>k.2⟩
 rw[e1,CS,<-hno,List.filter_map];congr 1;refine nH λr hr=>?_
 rw[fV];show decide (r.no∈_)=true↔_;rw[decide_eq_true_iff,DK h];obtain⟨o,ho,e⟩:=EI h.eqn hr;constructor
 .rintro⟨o',ho',hm⟩
  rw[ho]at ho';injection ho' with ho';subst ho';rw[e];exact hm
 .intro hm
  exact⟨o,ho,by rw[<-e];exact hm⟩
def Pv(i:Nat):List Row->Option Row
 |[]=>none
 |r :: l=>if Nat.beq r.no i then some r else Pv i l
theorem Ty(h:Pv i l=some r):r∈l/\r.no=i:=by
 induction l with
 |nil=>simp[Pv]at h
 |cons x l ih=>
  simp only[Pv]at h;split at h
  .rename_i hb;injection h with h;subst h;exact⟨by simp,Nat.eq_of_beq_eq_true hb⟩
  .have:=ih h;exact⟨by simp[this.1],this.2⟩
def Mh(x y:Row):Bool:=
 (match x.dst with
  |d+1=>!uF d y.looks && !Nat.beq y.dst (d+1)
  | 0=>true) &&
 (match y.dst with
  |d+1=>!uF d x.looks
  | 0=>true)
theorem Jw{x y:Oper}(h:Mh (rowOf md ops i x) (rowOf md ops j y)=true):x.apart ops y=true:=by
 unfold Mh rowOf at h;unfold Oper.apart;cases hx:x.dst with
 |none=>
  cases hy:y.dst with
  |none=>rfl
  |some d=>simp only[hx,hy,Bool.true_and,lu,om]at h;simpa using h
 |some d=>
  cases hy:y.dst with
  |none=>
   simp only[hx,hy,Bool.and_true,dS,lu,om]at h
   simpa using h.1
  |some d'=>
   simp only[hx,hy,dS,lu,om]at h;have hne:d'≠d:=λe=>by
    have h3:=h.1.2;rw[e]at h3;rw[Nat.beq_refl]at h3;cases h3
   simp[h.1.1,h.2,hne]
def wO:List Nat->List Row->List Nat
 |U,[]=>U
 |U,r :: l=>if FZ (λe=>!uF e U) r.after then wO U l else wO (r.no :: U) l
theorem xB(h:lQ md ops tab)(i:Nat):∀(l:List Row) (U:List Nat),(∀r,r∈l->r∈tab)->NJ md ops U i->NJ md ops (wO U l) i:=by
 intro l
 induction l with
 |nil=>intro U _ hU;exact hU
 |cons r l ih=>
  intro U hl hU;simp only[wO];split
  .exact ih U (λx hx=>hl x (by simp[hx])) hU
  .rename_i hn
   refine ih _ (λx hx=>hl x (by simp[hx])) λu hu hne=>?_
   rcases dZ.1 hu with rfl|hu
   .obtain⟨o,ho,e⟩:=EI h.eqn (hl r (by simp))
    have:∃x,x∈r.after/\x∈U:=by
     refine kF λhc=>hn (rG.2 λx hx=>?_)
     simp only[lu,om];exact λhx'=>hc ⟨x,hx,hx'⟩
    obtain⟨x,hx,hxU⟩:=this;rw[e]at hx;obtain⟨ed,he,hb,rfl⟩:=vH.1 hx;exact⟨o,ho,ed,he,hb,by simp[hxU]⟩
   .obtain⟨o,ho,ed,he,hb,hm⟩:=hU u hu hne
    exact⟨o,ho,ed,he,hb,by simp[hm]⟩
def takeB(tab:List Row)(L T:List Nat)(i:Nat):Bool:=
 match Pv i tab with
 |none=>false
 |some r=>OQ L r && DC (λs=>Nat.beq s.no i || uF s.no L || uF i s.after || Mh r s) tab && FZ (λt=>uF t (wO [i] tab)) T && FZ (λu=>!uF u L) (wO [i] tab)
theorem bK(h:lQ md ops tab)(hi:ops[i]?=some oi)(hc:takeB tab L T i=true)
 (hQ:∀c a w,Q (.panic c) (a.put oi.dst v) w->Q (.panic c) a w) (hS:S w) (hy:YieldsIf P ops S oi v a)
 (hr:gJ P md ops Q S T fuel (dO ops.size (i :: L)) (a.put oi.dst v) w):gJ P md ops Q S T (fuel+1) (dO ops.size L) a w:=by
 unfold takeB at hc;cases hg:Pv i tab with
 |none=>simp[hg]at hc
 |some r=>
  simp only[hg,dS]at hc;obtain⟨⟨⟨h1,h2⟩,h3⟩,h4⟩:=hc;obtain⟨hm,hno⟩:=Ty hg;obtain⟨o,ho,e⟩:=EI h.eqn hm;rw[hno]at ho e;rw[hi]at ho;injection ho with ho;subst ho;have ZT:i∈Region.ready md ops (dO ops.size L):=(DK h).2 ⟨oi,hi,by rw[<-e];exact h1⟩;have hup:∀u,u∈wO [i] tab->(dO ops.size L).getD u true=false:=λu hu=>by
   have hn:=rG.1 h4 u hu;simp only[lu,om]at hn;refine vJ.2 ⟨?_,hn⟩;by_cases hui:u=i
   .subst hui;exact(fC.1 hi).1
   .obtain⟨o',ho',_⟩:=xB h i tab [i] (λ_ hr=>hr) (λu hu hne=>by simp at hu;exact absurd hu hne) u hu hui
    exact(fC.1 ho').1
  refine xx hi (Region.noSelect_spec h.sel) hQ (xB h i tab [i] (λ_ hr=>hr) (λu hu hne=>by simp at hu;exact absurd hu hne)) (λt ht=>qb.1 (rG.1 h3 t (by simpa using ht))) fuel _ a w (λj oj hj hji hun hno=>?_) hup ZT hy hS hr;have h5:=Dz.1 h2 _ (MJ h.eqn hj);simp only[qm]at h5;rcases h5 with((h5|h5)|h5)|h5
  .exact absurd (Nat.eq_of_beq_eq_true h5) hji
  .exact absurd (qb.1 h5) (vJ.1 hun).2
  .obtain⟨ed,he,hb,hon⟩:=vH.1 (qb.1 h5)
   exact absurd hon (hno ed he hb)
  .rw[e]at h5;exact Jw h5
theorem bg(i:Nat)(h:lQ md ops tab){a':Act}(hS:S w)(hr:gJ P md ops Q S T fuel (dO ops.size (i :: L)) a' w)(hi:ops[i]?=some oi:=by simp only[gE];rfl)
 (hy:YieldsIf P ops S oi v a:=by exact Or.inl ⟨by rfl,by intro w' hSw;(try dsimp only at hSw);go_simp;(try with_reducible rfl)⟩) (hc:takeB tab L T i=true:=by kernel_rfl)
 (ha:a.put oi.dst v=a':=by first|(simp only[nP];done)|(simp only[nP];rfl)|rfl)
 (hQ:∀c a w,Q (.panic c) (a.put oi.dst v) w->Q (.panic c) a w:=by exact λ_ _ _ h=>h):gJ P md ops Q S T (fuel+1) (dO ops.size L) a w:=
 bK h hi hc hQ hS hy (by rw[ha];exact hr)
theorem Gr(h:lQ md ops tab)(hr:qL L tab=[i])(ho:ops[i]?=some o)
 (hk:∀K':Act->World->Prop,Shut (∀a w,(T.contains i=false->S w)->gJ P md ops Q S T fuel (dO ops.size (i :: L)) a w->K' a w)->if Region.wanted o (yielded ops a.tmps)=true then Oper.wp P o a w K' Q else K' (a.put o.dst undef) w):
 gJ P md ops Q S T (fuel+1) (dO ops.size L) a w:=zB ((ready_eq h L).trans hr) ho hk
theorem kL(h:lQ md ops tab)(hr:qL L tab=[i,j])(h1:StepT P md ops Q S T fuel (dO ops.size L) a w i)(h2:StepT P md ops Q S T fuel (dO ops.size L) a w j):
 gJ P md ops Q S T (fuel+1) (dO ops.size L) a w:=wN ((ready_eq h L).trans hr) h1 h2
theorem ad8.run{i:Nat}{o:Oper}{fuel:Nat}{L:List Nat}{a:Act}{w:World}(ho:ops[i]?=some o)
 (hk:∀K':Act->World->Prop,Shut (∀a w,(T.contains i=false->S w)->gJ P md ops Q S T fuel (dO ops.size (i :: L)) a w->K' a w)->if Region.wanted o (yielded ops a.tmps)=true then Oper.wp P o a w K' Q else K' (a.put o.dst undef) w):
 StepT P md ops Q S T fuel (dO ops.size L) a w i:=StepT.run ho hk
def zl(tab:List Row):List Nat->List Nat->Bool
 |[],L=>match qL L tab with|[]=>true|_=>false
 |i :: rs,L=>(match qL L tab with|[j]=>Nat.beq i j|_=>false) && zl tab rs (i :: L)
theorem Jq(h:lQ md ops tab):∀(rs L:List Nat),zl tab rs L=true->chainB md ops rs (dO ops.size L)=true:=by
 intro rs
 induction rs with
 |nil=>
  intro L hc;simp only[zl]at hc;simp only[chainB,beq_iff_eq,ready_eq h];split at hc
  .assumption
  .cases hc
 |cons i rs ih=>
  intro L hc;simp only[zl,dS]at hc;simp only[chainB,dS,beq_iff_eq,ready_eq h];refine⟨?_,ih (i :: L) hc.2⟩;have h1:=hc.1;split at h1
  .rename_i j hj;rw[hj,Nat.eq_of_beq_eq_true h1]
  .cases h1
theorem Gq(h:lQ md ops tab)(rs:List Nat)(os:List Oper)(fuel:Nat)(L:List Nat)(a:Act)(w:World)(hl:rs.length<=fuel)(hc:zl tab rs L=true)(hT:rs.all (λi=>T.contains i)=true)(hm:rs.map (λi=>ops[i]?)=os.map some)
 (hw:wpList P ops Q os a w):gJ P md ops Q S T fuel (dO ops.size L) a w:=um rs os fuel _ a w hl (Jq h rs L hc) hT hm hw
theorem kS(h:lQ md ops tab)
 (hk:∀K':Act->World->Prop,Shut (∀a w,(T.contains i=false->S w)->gJ P md ops Q S T fuel (dO ops.size (i :: L)) a w->K' a w)->if Region.wanted o (yielded ops a.tmps)=true then Oper.wp P o a w K' Q else K' (a.put o.dst undef) w)
 (hr:qL L tab=[i]:=by kernel_rfl) (ho:ops[i]?=some o:=by simp only[gE];rfl):gJ P md ops Q S T (fuel+1) (dO ops.size L) a w:=Gr h hr ho hk
theorem F9
 (hk:∀K':Act->World->Prop,Shut (∀a w,(T.contains i=false->S w)->gJ P md ops Q S T fuel (dO ops.size (i :: L)) a w->K' a w)->if Region.wanted o (yielded ops a.tmps)=true then Oper.wp P o a w K' Q else K' (a.put o.dst undef) w)
 (ho:ops[i]?=some o:=by simp only[gE];rfl):StepT P md ops Q S T fuel (dO ops.size L) a w i:=ad8.run ho hk
theorem mM(h:lQ md ops tab)(rs:List Nat)(os:List Oper)(hw:wpList P ops Q os a w)(hl:rs.length<=fuel:=by simp)(hc:zl tab rs L=true:=by kernel_rfl)(hT:rs.all (λi=>T.contains i)=true:=by rfl)
 (hm:rs.map (λi=>ops[i]?)=os.map some:=by simp only[eF,List.map_nil,gE];rfl):gJ P md ops Q S T fuel (dO ops.size L) a w:=Gq h rs os fuel L a w hl hc hT hm hw
theorem Gn{id:Nat}(S:World->Prop)(T:List Nat)(tab:List Row)(hm:P.follows .mixedOrders=true)(h:lQ .any ops tab)(hS:S w.drew)
 (hk:lQ .any ops tab->S w.drew->gJ P .any ops Q S T ops.size (dO ops.size []) a w.drew):(Code.region id ops true).wp P Q a w:=kH S T hm hS (hk h)
end
theorem mQ{P:Program}{ops:Array Oper}{Q:Exit->Act->World->Prop}{id:Nat}{a:Act}{w:World}(S:World->Prop)(T:List Nat)(tab:List Row)(hS:S w.drew)
 (hk:lQ .any ops tab->S w.drew->gJ P .any ops Q S T ops.size (dO ops.size []) a w.drew) (hm:P.follows .mixedOrders=true:=by kernel_rfl) (h:lQ .any ops tab:=by exact⟨by kernel_rfl,by kernel_rfl,by kernel_rfl⟩):(Code.region id ops true).wp P Q a w:=Gn S T tab hm h hS hk
end
