/- 1 -/
import Derived.Test.YtplgooajigigkaaGreatDoorK0
import Derived.Test.YtplgooajigigkaaGreatDoorProg
import Derived.WalkKit
import Derived.Lib.Hide
import Derived.BigQuiet
import Derived.Deep.RegionHeld3
import Derived.HandedShaped
import Derived.LaidMore
import Derived.ProofKit
import Derived.OpenShut
set_option maxRecDepth 100000
set_option maxHeartbeats 4000000
namespace Go.Proofs.YtplgooajigigkaaGreatDoor
theorem l9:type_of% @Go.IntWalk.i64_left:=@Go.IntWalk.i64_left
section
open Go.RowKit
variable {k:Nat} {l:List Int}
theorem gE.{u} {α:Type u}:(∀(l:List α) (i:Nat),l.toArray[i]?=l[i]?)/\(∀(a:α) (l:List α) (i:Nat),(a :: l)[i+1]?=l[i]?)/\∀(a:α) (l:List α),(a :: l)[0]?=some a:=⟨λ_ _=>by simp,λ_ _ _=>by simp,λ_ _=>by simp⟩
theorem nE.{u} {α:Type u}:(∀(l:List α) (i:Nat) (a:α),l.toArray.setIfInBounds i a=(l.set i a).toArray)/\(∀(a b:α) (l:List α),(a :: l).set 0 b=b :: l)/\∀(a b:α) (l:List α) (i:Nat),(a :: l).set (i+1) b=a :: l.set i b:=⟨λ_ _ _=>by simp,λ_ _ _=>by simp,λ_ _ _ _=>by simp⟩
theorem nP:(∀(a:Act) (i:Nat) (v:Value),a.put (some i) v={ a with tmps:=a.tmps.setIfInBounds i v })/\(∀(a:Act) (v:Value),a.put none v=a)/\(∀(l:List Value) (i:Nat) (a:Value),l.toArray.setIfInBounds i a=(l.set i a).toArray)/\(∀(a b:Value) (l:List Value),(a :: l).set 0 b=b :: l)/\∀(a b:Value) (l:List Value) (i:Nat),(a :: l).set (i+1) b=a :: l.set i b:=⟨λ_ _ _=>rfl,λ_ _=>rfl,λ_ _ _=>by simp,λ_ _ _=>by simp,λ_ _ _ _=>by simp⟩
theorem aW{p:Prop}(h:p):Hid p:=h
theorem fU(w:World)(o:Obj):(w.alloc o).heap.size=w.heap.size+1:=by simp
theorem iW{k:IntKind}{a b:Int}(h:a=b):Ending.returned (.int k a)=.returned (.int k b):=by rw[h]
theorem gJ{a b:Bool}(h:a=b):Ending.returned (.bool a)=.returned (.bool b):=by rw[h]
theorem sG{P:Program}{f:FuncId}{args:Array Value}{w:World}{a n:Nat}{v:Value}
 (h:Calls P f args (w.drewN (a+n)) λe w'=>e=.returned v/\∃m,w'=(w.drewN (a+n)).drewN m):
 Calls P f args (w.drewN (a+n)) λe w''=>e=.returned v/\∃m,w''=w.drewN (a+m):=
 h.mono λ_ _ ⟨he,m,hm⟩=>⟨he,n+m,by rw[hm,World.drewN_drewN,Nat.add_assoc]⟩
def RD(w w':World):Prop:=∃n,w'=w.drewN n
theorem uX(w:World):RD w w:=⟨0,rfl⟩
theorem AY(w:World)(n:Nat):RD w (w.drewN n):=⟨n,rfl⟩
theorem Ca(w:World)(n m:Nat):RD w ((w.drewN n).drewN m):=⟨n+m,by simp⟩
theorem BZ(w:World)(n m k:Nat):RD w (((w.drewN n).drewN m).drewN k):=⟨n+m+k,by simp⟩
def jl(l:List Int)(k:Nat):Int:=l[k]?.getD 0
theorem rC(h:k<l.length):jl l k=l[k]:=by simp[jl,h]
theorem Qg(h:k<l.length):jl l k∈l:=by rw[rC h];exact ai h
theorem oZ(h:k<l.length):l.take (k+1)=l.take k++[jl l k]:=by
 rw[bJ h,rC h]
def oV(l:List Int)(n:Int):Bool:=decide (n∈l)
def Ints(w:World)(v:Value)(l:List Int):Prop:=
 ∃a cap,v=.slice a l.length cap/\l.length<=cap/\l.length<=1152921504606846976/\
  (0<l.length->∃b off,a=some ⟨b,off,none⟩/\∀i,i<l.length->w.cell? ⟨b,off+i,none⟩=some (.int .i64 (jl l i)))
end
section
open Go Go.RowKit
section
variable {P:Program} {ops:Array Oper} {Q:Exit->Act->World->Prop} {md:Region.Mode} {S:World->Prop} {T:List Nat}
variable {listed:Array Bool} {i fuel:Nat} {oi o:Oper} {v:Value} {U:List Nat} {a:Act} {w:World}
def jw(P:Program)(md:Region.Mode)(ops:Array Oper)(Q:Exit->Act->World->Prop)(S:World->Prop)(T:List Nat):Nat->Array Bool->Act->World->Prop
 | 0,listed,a,w=>Region.ready md ops listed=[]/\Q .normal a w
 |fuel+1,listed,a,w=>
  (Region.ready md ops listed=[]->Q .normal a w)/\
  ∀i∈Region.ready md ops listed,wpOp P ops Q i (λa' w'=>(T.contains i=false->S w')/\jw P md ops Q S T fuel (listed.setIfInBounds i true) a' w') a w
theorem Ev:∀(fuel:Nat) (listed:Array Bool) (a:Act) (w:World),jw P md ops Q S T fuel listed a w->wpAny P md ops Q fuel listed a w
 | 0,_,_,_,h=>h
 |fuel+1,_,_,_,h=>⟨h.1,λi hi=>wpOp_mono (λa' w' h'=>Ev fuel _ a' w' h'.2) (h.2 i hi)⟩
theorem U3{u:Nat}(h:listed.getD u true=false):listed.getD u false=false:=by
 rcases ib u listed.size with h'|h'
 .simpa [h']using h
 .simp[h']
def RA(md:Region.Mode)(ops:Array Oper)(U:List Nat)(i:Nat):Prop:=∀u,u∈U->u≠i->∃o,ops[u]?=some o/\∃e,e∈o.after/\Region.binds md e=true/\e.on∈U
theorem Ay(hi:ops[i]?=some oi)(hsel:∀(j:Nat) (o:Oper) cs b,ops[j]?=some o->o.op≠.select cs b)
 (hQ:∀c a w,Q (.panic c) (a.put oi.dst v) w->Q (.panic c) a w) (hU:RA md ops U i) (hT:∀t,T.contains t=true->t∈U):
 ∀(fuel:Nat) (listed:Array Bool) (a:Act) (w:World),
  (∀j oj,ops[j]?=some oj->j≠i->listed.getD j true=false->(∀e∈oj.after,Region.binds md e=true->e.on≠i)->oi.apart ops oj=true)->
  (∀u,u∈U->listed.getD u true=false)->
  i∈Region.ready md ops listed->YieldsIf P ops S oi v a->S w->
  jw P md ops Q S T fuel (listed.setIfInBounds i true) (a.put oi.dst v) w->jw P md ops Q S T (fuel+1) listed a w:=by
 intro fuel
 induction fuel with
 |zero=>
  intro listed a w _ hul hr hy hS H;refine⟨λh=>(by rw[h]at hr;cases hr),λj hj=>?_⟩;by_cases hji:j=i
  .subst hji;exact hy.wpOp hi hS ⟨λ_=>hS,H⟩
  .have:=ready_mono hj hji
   rw[H.1]at this;cases this
 |succ fuel ih=>
  intro listed a w hfree hul hr hy hS H;refine⟨λh=>(by rw[h]at hr;cases hr),λj hj=>?_⟩;by_cases hji:j=i
  .subst hji;exact hy.wpOp hi hS ⟨λ_=>hS,H⟩
  .have h1:=H.2 j (ready_mono hj hji)
   obtain⟨hjun,oj,hoj,hall⟩:=mem_ready.1 hj;have hjU:j ∉ U:=λh=>by
    obtain⟨o,ho,e,he,hb,hon⟩:=hU j h hji;obtain rfl:o=oj:=(by rw[ho]at hoj;injection hoj);have h2:=hall e he hb;rw[U3 (hul _ hon)]at h2;cases h2
   have hjT:T.contains j=false:=by
    cases h:T.contains j with
    |false=>rfl
    |true=>exact absurd (hT j h) hjU
   have hnot:∀e∈oj.after,Region.binds md e=true->e.on≠i:=λe he hb heq=>by
    have h1:=hall e he hb;have h0:=(mem_ready.1 hr).1;rw[heq]at h1;rcases ib i listed.size with h'|h'
    .simp[h']at h0 h1;rw[h0]at h1;cases h1
    .simp[Array.getElem?_eq_none h']at h1
   have h2:=wpOp_putIf hoj (hfree j oj hoj hji hjun hnot) (λcs b=>hsel i oi cs b hi) (λcs b=>hsel j oj cs b hoj) hQ hy h1
   have hfree':∀k ok,ops[k]?=some ok->k≠i->(listed.setIfInBounds j true).getD k true=false->
    (∀e∈ok.after,Region.binds md e=true->e.on≠i)->oi.apart ops ok=true:=λk ok hk hki hun hno=>by
    refine hfree k ok hk hki ?_ hno;by_cases hjk:j=k
    .subst hjk;exact hjun
    .rw[getD_set_ne true hjk]at hun;exact hun
   have ak1:∀u,u∈U->(listed.setIfInBounds j true).getD u true=false:=λu hu=>by
    rw[getD_set_ne true (λe=>hjU (by rw[e];exact hu))];exact hul u hu
   refine wpOp_mono (λa' w' h3=>⟨λ_=>h3.2.1 hjT,ih (listed.setIfInBounds j true) a' w' hfree' ak1 (ready_mono hr (Ne.symm hji)) h3.1 (h3.2.1 hjT) ?_⟩) h2;rw[Array.setIfInBounds_comm _ _ hji];exact h3.2.2
def acT(md:Region.Mode)(ops:Array Oper)(i:Nat):List Nat:=(List.range ops.size).foldl (λU j=>if (match ops[j]? with|some o=>o.after.any (λe=>Region.binds md e && U.contains e.on)|none=>false)then U++[j]else U) [i]
def UZ(md:Region.Mode)(ops:Array Oper)(U:List Nat)(i:Nat):Bool:=U.all λu=>u == i || (match ops[u]? with|some o=>o.after.any (λe=>Region.binds md e && U.contains e.on)|none=>false)
def U4(md:Region.Mode)(ops:Array Oper)(T:List Nat)(listed:Array Bool)(i:Nat):Bool:=
 UZ md ops (acT md ops i) i && T.all (λt=>(acT md ops i).contains t) && (acT md ops i).all (λu=>!listed.getD u true)
theorem Nq(h:UZ md ops U i=true):RA md ops U i:=by
 intro u hu hne;have h1:=List.all_eq_true.1 h u hu;simp only[Bool.or_eq_true,beq_iff_eq,hne,false_or]at h1;cases ho:ops[u]? with
 |none=>simp[ho]at h1
 |some o=>
  simp only[ho]at h1;obtain⟨e,he,hb⟩:=Array.any_eq_true'.1 h1;simp only[jP]at hb;exact⟨o,rfl,e,he,hb.1,by simpa using hb.2⟩
theorem Kt(hi:ops[i]?=some oi)
 (hs:Region.noSelect ops=true) (hf:Region.free md ops listed i=true) (hr:(Region.ready md ops listed).contains i=true) (ht:U4 md ops T listed i=true)
 (hQ:∀c a w,Q (.panic c) (a.put oi.dst v) w->Q (.panic c) a w) (hS:S w) (hy:YieldsIf P ops S oi v a)
 (h:jw P md ops Q S T fuel (listed.setIfInBounds i true) (a.put oi.dst v) w):jw P md ops Q S T (fuel+1) listed a w:=by
 simp only[U4,jP]at ht;obtain⟨⟨h1,h2⟩,h3⟩:=ht;refine Ay hi (Region.noSelect_spec hs) hQ (Nq h1) (λt ht=>?_) fuel listed a w (Region.free_spec hi hf) (λu hu=>?_) (by simpa using hr) hy hS h
 .have:=List.all_eq_true.1 h2 t (by simpa using ht)
  simpa using this
 .have:=List.all_eq_true.1 h3 u hu
  simpa using this
theorem nX(i:Nat){a':Act}(hS:S w)(h:jw P md ops Q S T fuel (listed.setIfInBounds i true) a' w)(hi:ops[i]?=some oi:=by simp only[gE];rfl)
 (hy:YieldsIf P ops S oi v a:=by exact Or.inl ⟨by rfl,by intro w' hSw;(try dsimp only at hSw);go_simp;(try with_reducible rfl)⟩)
 (hs:Region.noSelect ops=true:=by kernel_rfl) (hf:Region.free md ops listed i=true:=by kernel_rfl) (hr:(Region.ready md ops listed).contains i=true:=by kernel_rfl) (ht:U4 md ops T listed i=true:=by kernel_rfl)
 (ha:a.put oi.dst v=a':=by first|(simp only[nP];done)|(simp only[nP];rfl)|rfl)
 (hQ:∀c a w,Q (.panic c) (a.put oi.dst v) w->Q (.panic c) a w:=by exact λ_ _ _ h=>h):jw P md ops Q S T (fuel+1) listed a w:=
 Kt hi hs hf hr ht hQ hS hy (by rw[ha];exact h)
theorem CY(hr:Region.ready md ops listed=[i])(ho:ops[i]?=some o)
 (h:∀K':Act->World->Prop,Shut (∀a w,(T.contains i=false->S w)->jw P md ops Q S T fuel (listed.setIfInBounds i true) a w->K' a w)->if Region.wanted o (yielded ops a.tmps)=true then Oper.wp P o a w K' Q else K' (a.put o.dst undef) w):
 jw P md ops Q S T (fuel+1) listed a w:=by
 refine⟨λh0=>(by rw[hr]at h0;cases h0),λj hj=>?_⟩;rw[hr]at hj;obtain rfl:j=i:=by simpa using hj
 exact wpOp_step ho (λK' hK=>h K' (λa w hS hW=>hK a w ⟨hS,hW⟩))
def StepT(P:Program)(md:Region.Mode)(ops:Array Oper)(Q:Exit->Act->World->Prop)(S:World->Prop)(T:List Nat)(fuel:Nat)(listed:Array Bool)(a:Act)(w:World)(i:Nat):Prop:=
 wpOp P ops Q i (λa' w'=>(T.contains i=false->S w')/\jw P md ops Q S T fuel (listed.setIfInBounds i true) a' w') a w
theorem StepT.run(ho:ops[i]?=some o)
 (h:∀K':Act->World->Prop,Shut (∀a w,(T.contains i=false->S w)->jw P md ops Q S T fuel (listed.setIfInBounds i true) a w->K' a w)->if Region.wanted o (yielded ops a.tmps)=true then Oper.wp P o a w K' Q else K' (a.put o.dst undef) w):
 StepT P md ops Q S T fuel listed a w i:=wpOp_step ho (λK' hK=>h K' (λa w hS hW=>hK a w ⟨hS,hW⟩))
theorem stA
 (h:∀K':Act->World->Prop,Shut (∀a w,(T.contains i=false->S w)->jw P md ops Q S T fuel (listed.setIfInBounds i true) a w->K' a w)->if Region.wanted o (yielded ops a.tmps)=true then Oper.wp P o a w K' Q else K' (a.put o.dst undef) w)
 (hr:Region.ready md ops listed=[i]:=by kernel_rfl) (ho:ops[i]?=some o:=by simp only[gE];rfl):jw P md ops Q S T (fuel+1) listed a w:=CY hr ho h
theorem Np{j:Nat}(hr:Region.ready md ops listed=[i,j])(h1:StepT P md ops Q S T fuel listed a w i)(h2:StepT P md ops Q S T fuel listed a w j):
 jw P md ops Q S T (fuel+1) listed a w:=by
 refine⟨λh0=>(by rw[hr]at h0;cases h0),λk hk=>?_⟩;rw[hr]at hk;rcases jk.1 hk with rfl|hk
 .exact h1
 .obtain rfl:k=j:=by simpa using hk
  exact h2
def chainB(md:Region.Mode)(ops:Array Oper):List Nat->Array Bool->Bool
 |[],listed=>Region.ready md ops listed == []
 |i :: rs,listed=>Region.ready md ops listed == [i] && chainB md ops rs (listed.setIfInBounds i true)
theorem xM:∀(rs:List Nat) (os:List Oper) (fuel:Nat) (listed:Array Bool) (a:Act) (w:World),rs.length<=fuel->chainB md ops rs listed=true->rs.all (λi=>T.contains i)=true->rs.map (λi=>ops[i]?)=os.map some->
 wpList P ops Q os a w->jw P md ops Q S T fuel listed a w
 |[],[],0,listed,a,w,_,hc,_,_,h=>⟨by simpa [chainB]using hc,h⟩
 |[],[],fuel+1,listed,a,w,_,hc,_,_,h=>⟨λ_=>h,λj hj=>by have h0:Region.ready md ops listed=[]:=(by simpa [chainB]using hc);rw[h0]at hj;cases hj⟩
 |i :: rs,o :: os,fuel+1,listed,a,w,hl,hc,hT,hm,h=>by
  simp only[chainB,jP,beq_iff_eq]at hc;simp only[List.all_cons,jP]at hT;simp only[List.map_cons,mf]at hm;refine⟨λh0=>(by rw[hc.1]at h0;cases h0),λj hj=>?_⟩;rw[hc.1]at hj;obtain rfl:j=i:=by simpa using hj
  unfold wpOp;simp only[hm.1];have ih:=λa w hw=>xM rs os fuel (listed.setIfInBounds j true) a w (by simpa using hl) hc.2 hT.2 hm.2 hw
  unfold wpList at h;by_cases hw:Region.wanted o (yielded ops a.tmps)=true
  .rw[if_pos hw]at h
   rw[if_pos hw];exact h.imp (Oper.wp_mono λa' w' hh=>⟨λhn=>(by rw[hT.1]at hn;cases hn),ih a' w' hh⟩) id
  .rw[if_neg hw]at h
   rw[if_neg hw];exact⟨λhn=>(by rw[hT.1]at hn;cases hn),ih _ _ h⟩
 |[],_ :: _,_,_,_,_,_,_,_,hm,_=>by simp at hm
 |_ :: _,[],_,_,_,_,_,_,_,hm,_=>by simp at hm
 |_ :: _,_ :: _,0,_,_,_,hl,_,_,_,_=>by simp at hl
theorem tlA(rs:List Nat)(os:List Oper)(h:wpList P ops Q os a w)(hl:rs.length<=fuel:=by simp)(hc:chainB md ops rs listed=true:=by kernel_rfl)(hT:rs.all (λi=>T.contains i)=true:=by rfl)
 (hm:rs.map (λi=>ops[i]?)=os.map some:=by simp only[List.map_cons,List.map_nil,gE];rfl):jw P md ops Q S T fuel listed a w:=xM rs os fuel listed a w hl hc hT hm h
theorem pQ{id:Nat}(S:World->Prop)(T:List Nat)(hm:P.follows .mixedOrders=true)(hS:S w.drew)
 (h:S w.drew->jw P .any ops Q S T ops.size (Array.replicate ops.size false) a w.drew):(Code.region id ops true).wp P Q a w:=
 wp_region_any hm (Ev _ _ _ _ (h hS))
end
end
section
open Go Go.RowKit
variable {x n u:Nat} {l L:List Nat}
structure Row where
 no:Nat
 after:List Nat
 dst:Nat
 looks:List Nat
def rowOf(md:Region.Mode)(ops:Array Oper)(k:Nat)(o:Oper):Row:=⟨k,(o.after.toList.filter (Region.binds md)).map (·.on),match o.dst with|some d=>d+1|none=>0,o.looksAt ops⟩
def uw(md:Region.Mode)(ops:Array Oper):Nat->List Oper->List Row
 |_,[]=>[]
 |k,o :: l=>rowOf md ops k o :: uw md ops (k+1) l
def Hl(md:Region.Mode)(ops:Array Oper):List Row:=uw md ops 0 ops.toList
def xX(x:Nat):List Nat->Bool
 |[]=>false
 |y :: l=>Nat.beq x y || xX x l
theorem tJ:xX x l=true↔x∈l:=by
 induction l with
 |nil=>simp[xX]
 |cons y l ih=>simp[xX,ih]
theorem qZ:xX x l=false↔x ∉ l:=by rw[<-tJ];simp
def fZ(n:Nat):List Nat->Array Bool
 |[]=>Array.replicate n false
 |i :: L=>(fZ n L).setIfInBounds i true
theorem Df(n:Nat)(L:List Nat):(fZ n L).size=n:=by
 induction L with
 |nil=>simp[fZ]
 |cons i L ih=>simp[fZ,ih]
theorem E8(h:u<n):(fZ n L)[u]?=some (xX u L):=by
 induction L with
 |nil=>simp[fZ,xX,h]
 |cons i L ih=>
  simp only[fZ,xX];rw[Array.getElem?_setIfInBounds];by_cases e:i=u
  .subst e
   rw[if_pos rfl,if_pos (by rw[Df];exact h)];simp
  .rw[if_neg e,ih]
   have:Nat.beq u i=false:=by cases hb:Nat.beq u i with|false=>rfl|true=>exact absurd (Nat.eq_of_beq_eq_true hb).symm e
   rw[this];simp
theorem listed_none(h:¬u<n):(fZ n L)[u]?=none:=Array.getElem?_eq_none (by rw[Df];omega)
theorem yZ:(fZ n L).getD u true=false↔u<n/\u ∉ L:=by
 rw[Array.getD_eq_getD_getElem?];by_cases h:u<n
 .rw[E8 h];simp[qZ,h]
 .rw[listed_none h];simp[h]
theorem Iq:(fZ n L).getD u false=true↔u<n/\u∈L:=by
 rw[Array.getD_eq_getD_getElem?];by_cases h:u<n
 .rw[E8 h];simp[tJ,h]
 .rw[listed_none h];simp[h]
section
variable {P:Program} {ops:Array Oper} {Q:Exit->Act->World->Prop} {md:Region.Mode} {S:World->Prop} {T:List Nat} {tab:List Row}
variable {r:Row} {j i fuel:Nat} {o oi:Oper} {l:List Row} {L:List Nat} {v:Value} {a:Act} {w:World}
theorem KE(l:List Oper):∀k j,(uw md ops k l)[j]?=(l[j]?).map (rowOf md ops (k+j)):=by
 induction l with
 |nil=>intro k j;simp[uw]
 |cons o l ih=>
  intro k j;cases j with
  |zero=>simp[uw]
  |succ j=>simp only[uw,ry];rw[ih];congr 1;funext o;congr 1;omega
theorem Qr(h:Hl md ops=tab)(j:Nat):tab[j]?=(ops[j]?).map (rowOf md ops j):=by
 rw[<-h,Hl,KE,kZ];simp
theorem I4(h:Hl md ops=tab)(hr:r∈tab):∃o,ops[r.no]?=some o/\r=rowOf md ops r.no o:=by
 obtain⟨j,hj,e⟩:=aQ.1 hr;have h1:=Qr h j;rw[af hj,e]at h1;cases ho:ops[j]? with
 |none=>rw[ho]at h1;simp at h1
 |some o=>
  rw[ho]at h1;simp at h1;have hn:r.no=j:=by rw[h1];rfl
  exact⟨o,by rw[hn];exact ho,by rw[hn];exact h1⟩
theorem Qq(h:Hl md ops=tab)(ho:ops[j]?=some o):rowOf md ops j o∈tab:=by
 have h1:=Qr h j;rw[ho]at h1;exact nz h1
def JY(p:Nat->Bool):List Nat->Bool
 |[]=>true
 |x :: l=>p x && JY p l
theorem vX{p:Nat->Bool}{l:List Nat}:JY p l=true↔∀x,x∈l->p x=true:=by
 induction l with
 |nil=>simp[JY]
 |cons x l ih=>simp[JY,ih]
def Hw(p:Row->Bool):List Row->Bool
 |[]=>true
 |x :: l=>p x && Hw p l
theorem Hu{p:Row->Bool}:Hw p l=true↔∀x,x∈l->p x=true:=by
 induction l with
 |nil=>simp[Hw]
 |cons x l ih=>simp[Hw,ih]
def Sz(L:List Nat)(r:Row):Bool:=!xX r.no L && JY (λe=>xX e L) r.after
structure oD(md:Region.Mode)(ops:Array Oper)(tab:List Row):Prop where
 eqn:Hl md ops=tab
 sel:Region.noSelect ops=true
 edge:Hw (λr=>JY (λe=>Nat.blt e ops.size) r.after) tab=true
theorem oD.lt(h:oD md ops tab)(ho:ops[j]?=some o){e:Edge}(he:e∈o.after)(hb:Region.binds md e=true):e.on<ops.size:=by
 have h1:=vX.1 (Hu.1 h.edge _ (Qq h.eqn ho)) e.on (by simp only[rowOf,az,lh,Array.mem_toList_iff];exact⟨e,⟨he,hb⟩,rfl⟩);rw[Nat.blt_eq]at h1;exact h1
theorem yY{md:Region.Mode}{ops:Array Oper}{x:Nat}:x∈(rowOf md ops j o).after↔∃e,e∈o.after/\Region.binds md e=true/\e.on=x:=by
 simp only[rowOf,az,lh,Array.mem_toList_iff,and_assoc]
theorem Ic(h:oD md ops tab):j∈Region.ready md ops (fZ ops.size L)↔∃o,ops[j]?=some o/\Sz L (rowOf md ops j o)=true:=by
 rw[mem_ready];constructor
 .rintro⟨h1,o,ho,h2⟩
  refine⟨o,ho,?_⟩;simp only[Sz,jP,qB];refine⟨qZ.2 (yZ.1 h1).2,vX.2 λx hx=>?_⟩;obtain⟨e,he,hb,rfl⟩:=yY.1 hx;exact tJ.2 (Iq.1 (h2 e he hb)).2
 .rintro⟨o,ho,hm⟩
  simp only[Sz,jP,qB]at hm;refine⟨yZ.2 ⟨(iV.1 ho).1,qZ.1 hm.1⟩,o,ho,λe he hb=>Iq.2 ⟨h.lt ho he hb,tJ.1 (vX.1 hm.2 _ (yY.2 ⟨e,he,hb,rfl⟩))⟩⟩
def uM(L:List Nat):List Row->List Nat
 |[]=>[]
 |r :: l=>if Sz L r then r.no :: uM L l else uM L l
theorem Gt(L:List Nat)(l:List Row):uM L l=(l.filter (Sz L)).map (·.no):=by
 induction l with
 |nil=>rfl
 |cons r l ih=>simp only[uM,List.filter_cons];split <;> simp[ih]
theorem Nu(l:List Oper):∀k,(uw md ops k l).map (·.no)=List.range' k l.length:=by
 induction l with
 |nil=>intro k;rfl
 |cons o l ih=>intro k;simp[uw,ih,List.range'_succ,rowOf]
theorem ready_eq(h:oD md ops tab)(L:List Nat):Region.ready md ops (fZ ops.size L)=uM L tab:=by
 have hno:tab.map (·.no)=List.range ops.size:=by rw[<-h.eqn,Hl,Nu,List.range_eq_range',Array.length_toList]
 have e1:Region.ready md ops (fZ ops.size L)=(List.range ops.size).filter (λj=>decide (j∈Region.ready md ops (fZ ops.size L))):=by
  conv=>lhs;unfold Region.ready
  refine List.filter_congr λj hj=>?_
  rw[uk,decide_eq_true_iff];unfold Region.ready;rw[lh];exact⟨λk=>⟨hj,k⟩,λk=>k.2⟩
 rw[e1,Gt,<-hno,List.filter_map];congr 1;refine List.filter_congr λr hr=>?_
 rw[uk];show decide (r.no∈_)=true↔_;rw[decide_eq_true_iff,Ic h];obtain⟨o,ho,e⟩:=I4 h.eqn hr;constructor
 .rintro⟨o',ho',hm⟩
  rw[ho]at ho';injection ho' with ho';subst ho';rw[e];exact hm
 .intro hm
  exact⟨o,ho,by rw[<-e];exact hm⟩
def TJ(i:Nat):List Row->Option Row
 |[]=>none
 |r :: l=>if Nat.beq r.no i then some r else TJ i l
theorem X0(h:TJ i l=some r):r∈l/\r.no=i:=by
 induction l with
 |nil=>simp[TJ]at h
 |cons x l ih=>
  simp only[TJ]at h;split at h
  .rename_i hb;injection h with h;subst h;exact⟨by simp,Nat.eq_of_beq_eq_true hb⟩
  .have:=ih h;exact⟨by simp[this.1],this.2⟩
def PU(x y:Row):Bool:=
 (match x.dst with
  |d+1=>!xX d y.looks && !Nat.beq y.dst (d+1)
  | 0=>true) &&
 (match y.dst with
  |d+1=>!xX d x.looks
  | 0=>true)
theorem MS{x y:Oper}(h:PU (rowOf md ops i x) (rowOf md ops j y)=true):x.apart ops y=true:=by
 unfold PU rowOf at h;unfold Oper.apart;cases hx:x.dst with
 |none=>
  cases hy:y.dst with
  |none=>rfl
  |some d=>simp only[hx,hy,Bool.true_and,qB,qZ]at h;simpa using h
 |some d=>
  cases hy:y.dst with
  |none=>
   simp only[hx,hy,Bool.and_true,jP,qB,qZ]at h
   simpa using h.1
  |some d'=>
   simp only[hx,hy,jP,qB,qZ]at h;have hne:d'≠d:=λe=>by
    have h3:=h.1.2;rw[e]at h3;rw[Nat.beq_refl]at h3;cases h3
   simp[h.1.1,h.2,hne]
def zT:List Nat->List Row->List Nat
 |U,[]=>U
 |U,r :: l=>if JY (λe=>!xX e U) r.after then zT U l else zT (r.no :: U) l
theorem AO(h:oD md ops tab)(i:Nat):∀(l:List Row) (U:List Nat),(∀r,r∈l->r∈tab)->RA md ops U i->RA md ops (zT U l) i:=by
 intro l
 induction l with
 |nil=>intro U _ hU;exact hU
 |cons r l ih=>
  intro U hl hU;simp only[zT];split
  .exact ih U (λx hx=>hl x (by simp[hx])) hU
  .rename_i hn
   refine ih _ (λx hx=>hl x (by simp[hx])) λu hu hne=>?_
   rcases jk.1 hu with rfl|hu
   .obtain⟨o,ho,e⟩:=I4 h.eqn (hl r (by simp))
    have:∃x,x∈r.after/\x∈U:=by
     refine iw λhc=>hn (vX.2 λx hx=>?_)
     simp only[qB,qZ];exact λhx'=>hc ⟨x,hx,hx'⟩
    obtain⟨x,hx,hxU⟩:=this;rw[e]at hx;obtain⟨ed,he,hb,rfl⟩:=yY.1 hx;exact⟨o,ho,ed,he,hb,by simp[hxU]⟩
   .obtain⟨o,ho,ed,he,hb,hm⟩:=hU u hu hne
    exact⟨o,ho,ed,he,hb,by simp[hm]⟩
def takeB(tab:List Row)(L T:List Nat)(i:Nat):Bool:=
 match TJ i tab with
 |none=>false
 |some r=>Sz L r && Hw (λs=>Nat.beq s.no i || xX s.no L || xX i s.after || PU r s) tab && JY (λt=>xX t (zT [i] tab)) T && JY (λu=>!xX u L) (zT [i] tab)
theorem dK(h:oD md ops tab)(hi:ops[i]?=some oi)(hc:takeB tab L T i=true)
 (hQ:∀c a w,Q (.panic c) (a.put oi.dst v) w->Q (.panic c) a w) (hS:S w) (hy:YieldsIf P ops S oi v a)
 (hr:jw P md ops Q S T fuel (fZ ops.size (i :: L)) (a.put oi.dst v) w):jw P md ops Q S T (fuel+1) (fZ ops.size L) a w:=by
 unfold takeB at hc;cases hg:TJ i tab with
 |none=>simp[hg]at hc
 |some r=>
  simp only[hg,jP]at hc;obtain⟨⟨⟨h1,h2⟩,h3⟩,h4⟩:=hc;obtain⟨hm,hno⟩:=X0 hg;obtain⟨o,ho,e⟩:=I4 h.eqn hm;rw[hno]at ho e;rw[hi]at ho;injection ho with ho;subst ho;have ado:i∈Region.ready md ops (fZ ops.size L):=(Ic h).2 ⟨oi,hi,by rw[<-e];exact h1⟩;have hup:∀u,u∈zT [i] tab->(fZ ops.size L).getD u true=false:=λu hu=>by
   have hn:=vX.1 h4 u hu;simp only[qB,qZ]at hn;refine yZ.2 ⟨?_,hn⟩;by_cases hui:u=i
   .subst hui;exact(iV.1 hi).1
   .obtain⟨o',ho',_⟩:=AO h i tab [i] (λ_ hr=>hr) (λu hu hne=>by simp at hu;exact absurd hu hne) u hu hui
    exact(iV.1 ho').1
  refine Ay hi (Region.noSelect_spec h.sel) hQ (AO h i tab [i] (λ_ hr=>hr) (λu hu hne=>by simp at hu;exact absurd hu hne)) (λt ht=>tJ.1 (vX.1 h3 t (by simpa using ht))) fuel _ a w (λj oj hj hji hun hno=>?_) hup ado hy hS hr;have h5:=Hu.1 h2 _ (Qq h.eqn hj);simp only[Bool.or_eq_true]at h5;rcases h5 with((h5|h5)|h5)|h5
  .exact absurd (Nat.eq_of_beq_eq_true h5) hji
  .exact absurd (tJ.1 h5) (yZ.1 hun).2
  .obtain⟨ed,he,hb,hon⟩:=yY.1 (tJ.1 h5)
   exact absurd hon (hno ed he hb)
  .rw[e]at h5;exact MS h5
theorem bP(i:Nat)(h:oD md ops tab){a':Act}(hS:S w)(hr:jw P md ops Q S T fuel (fZ ops.size (i :: L)) a' w)(hi:ops[i]?=some oi:=by simp only[gE];rfl)
 (hy:YieldsIf P ops S oi v a:=by exact Or.inl ⟨by rfl,by intro w' hSw;(try dsimp only at hSw);go_simp;(try with_reducible rfl)⟩) (hc:takeB tab L T i=true:=by kernel_rfl)
 (ha:a.put oi.dst v=a':=by first|(simp only[nP];done)|(simp only[nP];rfl)|rfl)
 (hQ:∀c a w,Q (.panic c) (a.put oi.dst v) w->Q (.panic c) a w:=by exact λ_ _ _ h=>h):jw P md ops Q S T (fuel+1) (fZ ops.size L) a w:=
 dK h hi hc hQ hS hy (by rw[ha];exact hr)
theorem Kv(h:oD md ops tab)(hr:uM L tab=[i])(ho:ops[i]?=some o)
 (hk:∀K':Act->World->Prop,Shut (∀a w,(T.contains i=false->S w)->jw P md ops Q S T fuel (fZ ops.size (i :: L)) a w->K' a w)->if Region.wanted o (yielded ops a.tmps)=true then Oper.wp P o a w K' Q else K' (a.put o.dst undef) w):
 jw P md ops Q S T (fuel+1) (fZ ops.size L) a w:=CY ((ready_eq h L).trans hr) ho hk
theorem gX(h:oD md ops tab)(hr:uM L tab=[i,j])(h1:StepT P md ops Q S T fuel (fZ ops.size L) a w i)(h2:StepT P md ops Q S T fuel (fZ ops.size L) a w j):
 jw P md ops Q S T (fuel+1) (fZ ops.size L) a w:=Np ((ready_eq h L).trans hr) h1 h2
theorem aix.run{i:Nat}{o:Oper}{fuel:Nat}{L:List Nat}{a:Act}{w:World}(ho:ops[i]?=some o)
 (hk:∀K':Act->World->Prop,Shut (∀a w,(T.contains i=false->S w)->jw P md ops Q S T fuel (fZ ops.size (i :: L)) a w->K' a w)->if Region.wanted o (yielded ops a.tmps)=true then Oper.wp P o a w K' Q else K' (a.put o.dst undef) w):
 StepT P md ops Q S T fuel (fZ ops.size L) a w i:=StepT.run ho hk
def CK(tab:List Row):List Nat->List Nat->Bool
 |[],L=>match uM L tab with|[]=>true|_=>false
 |i :: rs,L=>(match uM L tab with|[j]=>Nat.beq i j|_=>false) && CK tab rs (i :: L)
theorem MK(h:oD md ops tab):∀(rs L:List Nat),CK tab rs L=true->chainB md ops rs (fZ ops.size L)=true:=by
 intro rs
 induction rs with
 |nil=>
  intro L hc;simp only[CK]at hc;simp only[chainB,beq_iff_eq,ready_eq h];split at hc
  .assumption
  .cases hc
 |cons i rs ih=>
  intro L hc;simp only[CK,jP]at hc;simp only[chainB,jP,beq_iff_eq,ready_eq h];refine⟨?_,ih (i :: L) hc.2⟩;have h1:=hc.1;split at h1
  .rename_i j hj;rw[hj,Nat.eq_of_beq_eq_true h1]
  .cases h1
theorem Ku(h:oD md ops tab)(rs:List Nat)(os:List Oper)(fuel:Nat)(L:List Nat)(a:Act)(w:World)(hl:rs.length<=fuel)(hc:CK tab rs L=true)(hT:rs.all (λi=>T.contains i)=true)(hm:rs.map (λi=>ops[i]?)=os.map some)
 (hw:wpList P ops Q os a w):jw P md ops Q S T fuel (fZ ops.size L) a w:=xM rs os fuel _ a w hl (MK h rs L hc) hT hm hw
theorem jv(h:oD md ops tab)
 (hk:∀K':Act->World->Prop,Shut (∀a w,(T.contains i=false->S w)->jw P md ops Q S T fuel (fZ ops.size (i :: L)) a w->K' a w)->if Region.wanted o (yielded ops a.tmps)=true then Oper.wp P o a w K' Q else K' (a.put o.dst undef) w)
 (hr:uM L tab=[i]:=by kernel_rfl) (ho:ops[i]?=some o:=by simp only[gE];rfl):jw P md ops Q S T (fuel+1) (fZ ops.size L) a w:=Kv h hr ho hk
theorem ui
 (hk:∀K':Act->World->Prop,Shut (∀a w,(T.contains i=false->S w)->jw P md ops Q S T fuel (fZ ops.size (i :: L)) a w->K' a w)->if Region.wanted o (yielded ops a.tmps)=true then Oper.wp P o a w K' Q else K' (a.put o.dst undef) w)
 (ho:ops[i]?=some o:=by simp only[gE];rfl):StepT P md ops Q S T fuel (fZ ops.size L) a w i:=aix.run ho hk
theorem nQ(h:oD md ops tab)(rs:List Nat)(os:List Oper)(hw:wpList P ops Q os a w)(hl:rs.length<=fuel:=by simp)(hc:CK tab rs L=true:=by kernel_rfl)(hT:rs.all (λi=>T.contains i)=true:=by rfl)
 (hm:rs.map (λi=>ops[i]?)=os.map some:=by simp only[List.map_cons,List.map_nil,gE];rfl):jw P md ops Q S T fuel (fZ ops.size L) a w:=Ku h rs os fuel L a w hl hc hT hm hw
theorem Kr{id:Nat}(S:World->Prop)(T:List Nat)(tab:List Row)(hm:P.follows .mixedOrders=true)(h:oD .any ops tab)(hS:S w.drew)
 (hk:oD .any ops tab->S w.drew->jw P .any ops Q S T ops.size (fZ ops.size []) a w.drew):(Code.region id ops true).wp P Q a w:=pQ S T hm hS (hk h)
end
theorem oJ{P:Program}{ops:Array Oper}{Q:Exit->Act->World->Prop}{id:Nat}{a:Act}{w:World}(S:World->Prop)(T:List Nat)(tab:List Row)(hS:S w.drew)
 (hk:oD .any ops tab->S w.drew->jw P .any ops Q S T ops.size (fZ ops.size []) a w.drew) (hm:P.follows .mixedOrders=true:=by kernel_rfl) (h:oD .any ops tab:=by exact⟨by kernel_rfl,by kernel_rfl,by kernel_rfl⟩):(Code.region id ops true).wp P Q a w:=Kr S T tab hm h hS hk
end
section
open Go.RowKit Go.ChangeShapes Go.WideShapes Go.ChangeAt
theorem Lv{H:Type}{enc:TypeId × Value->H}{a:Assume}{C:Checked}{os:Os}{f:FuncId}{fn:Func}{s:ChangeSpec}{conds:List PathCond}{apart fresh handsOn again:Bool}{X:World->Array Value->Prop}
 (hX:∀(w w':World) (args:Array Value),w.heap=w'.heap->X w args->X w' args)
 (own:ownKnob C.prog.godebug=none) (started:os.Started) (noInit:C.prog.inits.idxOf? f=none) (hfn:C.prog.funcs[f]?=some fn)
 (witness:∃(w:World) (tape:Tape) (i:Input),w.os=os/\(w.forCall tape i).Shaped C.prog/\i.vars=[]/\Input.okWide C.prog (w.forCall tape i) .any w.heap.size f i/\
  ((s.pre enc C.prog fn conds apart (w.forCall tape i).memory i.args/\X (w.forCall tape i).memory i.args)/\sizedMet enc C.prog fn (OpenSpec.ofChange s) apart (w.forCall tape i).memory i.args)/\a.holds C.prog (lone (Frame.enter C.prog f i.args .normal) [] (w.forCall tape i)))
 (contract:∀(W:World) (base:Nat) (args:Array Value) (ds gs:List (DataW H)) (before:List MemPlace),
  (∀(j:Nat) t v,fn.params[j]?=some t->args[j]?=some v->Value.okWide C.prog W .any base t v)->
  DataW.Whole enc C.prog fn.params.toList s.vars apart W args.toList ds gs before->
  conds.all (PathCond.test C.prog ⟨fn.params.toList,ds,s.plain.varTypes C.prog,gs⟩)=true->
  (DataW.weightsEach C.prog (fn.params.toList++s.plain.varTypes C.prog) (ds++gs)).all (·<=reachBytes)=true->X W args->W.ShapedOpen C.prog->
  a.holds C.prog (lone (Frame.enter C.prog f args .normal) [] W)->
  Calls C.prog f args W λe W'=>∃v,e=.returned v/\s.post enc C.prog fn apart fresh handsOn again W args v W'):
 ReturnsInHanded a C os f .any (λw args=>(s.pre enc C.prog fn conds apart w args/\X w args)/\sizedMet enc C.prog fn (OpenSpec.ofChange s) apart w args) (s.post enc C.prog fn apart fresh handsOn again):=by
 refine returnsInHanded_of_calls own started noInit witness ?_;intro w tape i _ hsh _ hok hpre hholds;obtain⟨_,_,_,fn',hfn',_,_,_,_,hval⟩:=hok;have e:fn'=fn:=Option.some.inj (hfn'.symm.trans hfn);subst e;obtain⟨⟨⟨ds,gs,before,hw,hc⟩,hx⟩,hz⟩:=hpre;have hw':=DataW.Whole.of_heap (w':=w.forCall tape i) (by rfl) hw;refine(contract (w.forCall tape i) w.heap.size i.args ds gs before hval hw' hc (hz.weights hw) (hX _ _ _ (by rfl) hx) hsh hholds).mono λe W' ⟨v,he,hp⟩=>?_
 subst he;exact ChangeSpec.post_blind hp
end
