/-
  The lift of a law whose premise is what the listed variables read as, with the world's shape beside it. (4 texts.)
-/
import Derived.Test.YteknjeohbcgpdaaGreatDoorProg
import Derived.WalkKit
import Derived.Lib.Hide
import Derived.BigQuiet
import Derived.Deep.QuietTactic
import Derived.Deep.RegionHeld3
import Derived.OpenShut
import Derived.ChangeSlices
import Derived.WideShapes
import Derived.Carry
import Derived.SizedLaws
import Derived.ReadAgain
import Derived.HandedShaped
import Derived.Handed
import Derived.LaidMore
import Derived.ProofKit
set_option maxRecDepth 100000
namespace Go.Proofs.YteknjeohbcgpdaaGreatDoor
section
open Go.RowKit
theorem gE.{u} {α:Type u}:(∀ (l:List α) (i:Nat),l.toArray[i]?=l[i]?)∧(∀ (a:α) (l:List α) (i:Nat),(a :: l)[i+1]?=l[i]?)∧∀ (a:α) (l:List α),(a :: l)[0]?=some a:=⟨fun _ _=>by simp,fun _ _ _=>by simp,fun _ _=>by simp⟩
theorem nE.{u} {α:Type u}:(∀ (l:List α) (i:Nat) (a:α),l.toArray.setIfInBounds i a=(l.set i a).toArray)∧(∀ (a b:α) (l:List α),(a :: l).set 0 b=b :: l)∧∀ (a b:α) (l:List α) (i:Nat),(a :: l).set (i+1) b=a :: l.set i b:=⟨fun _ _ _=>by simp,fun _ _ _=>by simp,fun _ _ _ _=>by simp⟩
theorem nP:(∀ (a:Act) (i:Nat) (v:Value),a.put (some i) v={ a with tmps:=a.tmps.setIfInBounds i v })∧(∀ (a:Act) (v:Value),a.put none v=a)∧(∀ (l:List Value) (i:Nat) (a:Value),l.toArray.setIfInBounds i a=(l.set i a).toArray)∧(∀ (a b:Value) (l:List Value),(a :: l).set 0 b=b :: l)∧∀ (a b:Value) (l:List Value) (i:Nat),(a :: l).set (i+1) b=a :: l.set i b:=⟨fun _ _ _=>rfl,fun _ _=>rfl,fun _ _ _=>by simp,fun _ _ _=>by simp,fun _ _ _ _=>by simp⟩
theorem Hd_ {p:Prop} (h:p):Hid p:=h
theorem sA_ (w:World) (o:Obj):(w.alloc o).heap.size=w.heap.size+1:=by simp
theorem fw {k:IntKind} {a b:Int} (h:a=b):Ending.returned (.int k a)=.returned (.int k b):=by rw[h]
theorem bQ {a b:Bool} (h:a=b):Ending.returned (.bool a)=.returned (.bool b):=by rw[h]
theorem lN {P:Program} {f:FuncId} {args:Array Value} {w:World} {a n:Nat} {v:Value}
 (h:Calls P f args (w.drewN (a+n)) fun e w'=>e=.returned v∧∃ m,w'=(w.drewN (a+n)).drewN m) :
 Calls P f args (w.drewN (a+n)) fun e w''=>e=.returned v∧∃ m,w''=w.drewN (a+m) :=
 h.mono fun _ _ ⟨he,m,hm⟩=>⟨he,n+m,by rw[hm,World.drewN_drewN,Nat.add_assoc]⟩
def RD (w w':World):Prop:=∃ n,w'=w.drewN n
theorem rd0 (w:World):RD w w:=⟨0,rfl⟩
theorem rd1 (w:World) (n:Nat):RD w (w.drewN n):=⟨n,rfl⟩
theorem rd2 (w:World) (n m:Nat):RD w ((w.drewN n).drewN m):=⟨n+m,by simp⟩
theorem rd3 (w:World) (n m k:Nat):RD w (((w.drewN n).drewN m).drewN k):=⟨n+m+k,by simp⟩
theorem Us (w:World) (n m:Nat):(w.drewN n).drewN m=w.drewN (n+m):=by simp
def zat (l:List Int) (k:Nat):Int:=l[k]?.getD 0
theorem jP {l:List Int} {k:Nat} (h:k<l.length):zat l k=l[k]:=by simp[zat,h]
theorem Es {l:List Int} {k:Nat} (h:k<l.length):zat l k∈l:=by rw[jP h];exact List.getElem_mem h
theorem jB {l:List Int} {k:Nat} (h:k<l.length):l.take (k+1)=l.take k++[zat l k]:=by
 rw[List.take_succ_eq_append_getElem h,jP h]
def fJ (l:List Int) (n:Int):Bool:=decide (n∈l)
def Ints (w:World) (v:Value) (l:List Int):Prop :=
 ∃ a cap,v=.slice a l.length cap∧l.length≤cap∧l.length≤1152921504606846976 ∧
   (0<l.length→∃ b off,a=some ⟨b,off,none⟩∧∀ i,i<l.length→w.cell? ⟨b,off+i,none⟩=some (.int .i64 (zat l i)))
end
section
open Go Go.RowKit
section
variable {P:Program} {ops:Array Oper} {Q:Exit→Act→World→Prop} {md:Region.Mode} {S:World→Prop} {T:List Nat}
def dn (P:Program) (md:Region.Mode) (ops:Array Oper) (Q:Exit→Act→World→Prop) (S:World→Prop) (T:List Nat):Nat→Array Bool→Act→World→Prop
 | 0,listed,a,w=>Region.ready md ops listed=[]∧Q .normal a w
 | fuel+1,listed,a,w =>
   (Region.ready md ops listed=[]→Q .normal a w) ∧
   ∀ i∈Region.ready md ops listed,wpOp P ops Q i (fun a' w'=>(T.contains i=false→S w')∧dn P md ops Q S T fuel (listed.setIfInBounds i true) a' w') a w
theorem xW:∀ (fuel:Nat) (listed:Array Bool) (a:Act) (w:World),dn P md ops Q S T fuel listed a w→wpAny P md ops Q fuel listed a w
 | 0,_,_,_,h=>h
 | fuel+1,_,_,_,h=>⟨h.1,fun i hi=>wpOp_mono (fun a' w' h'=>xW fuel _ a' w' h'.2) (h.2 i hi)⟩
theorem Ko {listed:Array Bool} {u:Nat} (h:listed.getD u true=false):listed.getD u false=false:=by
 rcases Nat.lt_or_ge u listed.size with h' | h'
 · simpa [h'] using h
 · simp[h']
def Bz (md:Region.Mode) (ops:Array Oper) (U:List Nat) (i:Nat):Prop:=∀ u,u∈U→u≠i→∃ o,ops[u]?=some o∧∃ e,e∈o.after∧Region.binds md e=true∧e.on∈U
theorem tX {i:Nat} {oi:Oper} {v:Value} {U:List Nat} (hi:ops[i]?=some oi) (hsel:∀ (j:Nat) (o:Oper) cs b,ops[j]?=some o→o.op≠.select cs b)
 (hQ:∀ c a w,Q (.panic c) (a.put oi.dst v) w→Q (.panic c) a w) (hU:Bz md ops U i) (hT:∀ t,T.contains t=true→t∈U) :
 ∀ (fuel:Nat) (listed:Array Bool) (a:Act) (w:World),
   (∀ j oj,ops[j]?=some oj→j≠i→listed.getD j true=false→(∀ e∈oj.after,Region.binds md e=true→e.on≠i)→oi.apart ops oj=true) →
   (∀ u,u∈U→listed.getD u true=false) →
   i∈Region.ready md ops listed→YieldsIf P ops S oi v a→S w →
   dn P md ops Q S T fuel (listed.setIfInBounds i true) (a.put oi.dst v) w→dn P md ops Q S T (fuel+1) listed a w:=by
 intro fuel
 induction fuel with
 | zero =>
   intro listed a w _ hul hr hy hS H
   refine⟨fun h=>(by rw[h] at hr;cases hr),fun j hj=>?_⟩
   by_cases hji:j=i
   · subst hji;exact hy.wpOp hi hS ⟨fun _=>hS,H⟩
   · have:=ready_mono hj hji
     rw[H.1] at this
     cases this
 | succ fuel ih =>
   intro listed a w hfree hul hr hy hS H
   refine⟨fun h=>(by rw[h] at hr;cases hr),fun j hj=>?_⟩
   by_cases hji:j=i
   · subst hji;exact hy.wpOp hi hS ⟨fun _=>hS,H⟩
   · have h1:=H.2 j (ready_mono hj hji)
     obtain⟨hjun,oj,hoj,hall⟩:=mem_ready.1 hj
     have hjU:j ∉ U:=fun h=>by
      obtain⟨o,ho,e,he,hb,hon⟩:=hU j h hji
      obtain rfl:o=oj:=by rw[ho] at hoj;injection hoj
      have h2:=hall e he hb
      rw[Ko (hul _ hon)] at h2
      cases h2
     have hjT:T.contains j=false:=by
      cases h:T.contains j with
      | false=>rfl
      | true=>exact absurd (hT j h) hjU
     have hnot:∀ e∈oj.after,Region.binds md e=true→e.on≠i:=fun e he hb heq=>by
      have h1:=hall e he hb
      have h0:=(mem_ready.1 hr).1
      rw[heq] at h1
      rcases Nat.lt_or_ge i listed.size with h' | h'
      · simp[h'] at h0 h1;rw[h0] at h1;cases h1
      · simp[Array.getElem?_eq_none h'] at h1
     have h2:=wpOp_putIf hoj (hfree j oj hoj hji hjun hnot) (fun cs b=>hsel i oi cs b hi) (fun cs b=>hsel j oj cs b hoj) hQ hy h1
     have hfree':∀ k ok,ops[k]?=some ok→k≠i→(listed.setIfInBounds j true).getD k true=false →
      (∀ e∈ok.after,Region.binds md e=true→e.on≠i)→oi.apart ops ok=true:=fun k ok hk hki hun hno=>by
      refine hfree k ok hk hki ?_ hno
      by_cases hjk:j=k
      · subst hjk;exact hjun
      · rw[getD_set_ne true hjk] at hun;exact hun
     have Sa:∀ u,u∈U→(listed.setIfInBounds j true).getD u true=false:=fun u hu=>by
      rw[getD_set_ne true (fun e=>hjU (by rw[e];exact hu))];exact hul u hu
     refine wpOp_mono (fun a' w' h3=>⟨fun _=>h3.2.1 hjT,ih (listed.setIfInBounds j true) a' w' hfree' Sa (ready_mono hr (Ne.symm hji)) h3.1 (h3.2.1 hjT) ?_⟩) h2
     rw[Array.setIfInBounds_comm _ _ hji]
     exact h3.2.2
def Kn (md:Region.Mode) (ops:Array Oper) (i:Nat):List Nat:=(List.range ops.size).foldl (fun U j=>if (match ops[j]? with | some o=>o.after.any (fun e=>Region.binds md e && U.contains e.on) | none=>false) then U++[j] else U) [i]
def Ip (md:Region.Mode) (ops:Array Oper) (U:List Nat) (i:Nat):Bool:=U.all fun u=>u == i || (match ops[u]? with | some o=>o.after.any (fun e=>Region.binds md e && U.contains e.on) | none=>false)
def Bj (md:Region.Mode) (ops:Array Oper) (T:List Nat) (listed:Array Bool) (i:Nat):Bool :=
 Ip md ops (Kn md ops i) i && T.all (fun t=>(Kn md ops i).contains t) && (Kn md ops i).all (fun u=>!listed.getD u true)
theorem Fe {U:List Nat} {i:Nat} (h:Ip md ops U i=true):Bz md ops U i:=by
 intro u hu hne
 have h1:=List.all_eq_true.1 h u hu
 simp only[Bool.or_eq_true,beq_iff_eq,hne,false_or] at h1
 cases ho:ops[u]? with
 | none=>simp[ho] at h1
 | some o =>
   simp only[ho] at h1
   obtain⟨e,he,hb⟩:=Array.any_eq_true'.1 h1
   simp only[Bool.and_eq_true] at hb
   exact⟨o,rfl,e,he,hb.1,by simpa using hb.2⟩
theorem wD {i:Nat} {oi:Oper} {v:Value} {fuel:Nat} {listed:Array Bool} {a:Act} {w:World} (hi:ops[i]?=some oi)
 (hs:Region.noSelect ops=true) (hf:Region.free md ops listed i=true) (hr:(Region.ready md ops listed).contains i=true) (ht:Bj md ops T listed i=true)
 (hQ:∀ c a w,Q (.panic c) (a.put oi.dst v) w→Q (.panic c) a w) (hS:S w) (hy:YieldsIf P ops S oi v a)
 (h:dn P md ops Q S T fuel (listed.setIfInBounds i true) (a.put oi.dst v) w):dn P md ops Q S T (fuel+1) listed a w:=by
 simp only[Bj,Bool.and_eq_true] at ht
 obtain⟨⟨h1,h2⟩,h3⟩:=ht
 refine tX hi (Region.noSelect_spec hs) hQ (Fe h1) (fun t ht=>?_) fuel listed a w (Region.free_spec hi hf) (fun u hu=>?_) (by simpa using hr) hy hS h
 · have:=List.all_eq_true.1 h2 t (by simpa using ht)
   simpa using this
 · have:=List.all_eq_true.1 h3 u hu
   simpa using this
theorem tkT {i:Nat} {oi:Oper} {v:Value} {fuel:Nat} {listed:Array Bool} {a:Act} {w:World} (hi:ops[i]?=some oi) (hS:S w) (hy:YieldsIf P ops S oi v a)
 (h:dn P md ops Q S T fuel (listed.setIfInBounds i true) (a.put oi.dst v) w)
 (hs:Region.noSelect ops=true:=by kernel_rfl) (hf:Region.free md ops listed i=true:=by kernel_rfl) (hr:(Region.ready md ops listed).contains i=true:=by kernel_rfl) (ht:Bj md ops T listed i=true:=by kernel_rfl)
 (hQ:∀ c a w,Q (.panic c) (a.put oi.dst v) w→Q (.panic c) a w:=by exact fun _ _ _ h=>h):dn P md ops Q S T (fuel+1) listed a w :=
 wD hi hs hf hr ht hQ hS hy h
theorem tkA {i:Nat} {oi:Oper} {v:Value} {fuel:Nat} {listed:Array Bool} {a:Act} {w:World} (hS:S w) (h:dn P md ops Q S T fuel (listed.setIfInBounds i true) (a.put oi.dst v) w) (hi:ops[i]?=some oi:=by simp only[gE];rfl)
 (hy:YieldsIf P ops S oi v a:=by exact Or.inl ⟨by rfl,by intro w' hSw;(try dsimp only at hSw);go_simp;(try with_reducible rfl)⟩)
 (hs:Region.noSelect ops=true:=by kernel_rfl) (hf:Region.free md ops listed i=true:=by kernel_rfl) (hr:(Region.ready md ops listed).contains i=true:=by kernel_rfl) (ht:Bj md ops T listed i=true:=by kernel_rfl)
 (hQ:∀ c a w,Q (.panic c) (a.put oi.dst v) w→Q (.panic c) a w:=by exact fun _ _ _ h=>h):dn P md ops Q S T (fuel+1) listed a w :=
 wD hi hs hf hr ht hQ hS hy h
theorem wH {i:Nat} {o:Oper} {fuel:Nat} {listed:Array Bool} {a:Act} {w:World} (hr:Region.ready md ops listed=[i]) (ho:ops[i]?=some o)
 (h:∀ K':Act→World→Prop,Shut (∀ a w,(T.contains i=false→S w)→dn P md ops Q S T fuel (listed.setIfInBounds i true) a w→K' a w)→if Region.wanted o (yielded ops a.tmps)=true then Oper.wp P o a w K' Q else K' (a.put o.dst undef) w) :
 dn P md ops Q S T (fuel+1) listed a w:=by
 refine⟨fun h0=>(by rw[hr] at h0;cases h0),fun j hj=>?_⟩
 rw[hr] at hj
 obtain rfl:j=i:=by simpa using hj
 exact wpOp_step ho (fun K' hK=>h K' (fun a w hS hW=>hK a w ⟨hS,hW⟩))
def StepT (P:Program) (md:Region.Mode) (ops:Array Oper) (Q:Exit→Act→World→Prop) (S:World→Prop) (T:List Nat) (fuel:Nat) (listed:Array Bool) (a:Act) (w:World) (i:Nat):Prop :=
 wpOp P ops Q i (fun a' w'=>(T.contains i=false→S w')∧dn P md ops Q S T fuel (listed.setIfInBounds i true) a' w') a w
theorem StepT.run {i:Nat} {o:Oper} {fuel:Nat} {listed:Array Bool} {a:Act} {w:World} (ho:ops[i]?=some o)
 (h:∀ K':Act→World→Prop,Shut (∀ a w,(T.contains i=false→S w)→dn P md ops Q S T fuel (listed.setIfInBounds i true) a w→K' a w)→if Region.wanted o (yielded ops a.tmps)=true then Oper.wp P o a w K' Q else K' (a.put o.dst undef) w) :
 StepT P md ops Q S T fuel listed a w i:=wpOp_step ho (fun K' hK=>h K' (fun a w hS hW=>hK a w ⟨hS,hW⟩))
theorem stA {i:Nat} {o:Oper} {fuel:Nat} {listed:Array Bool} {a:Act} {w:World}
 (h:∀ K':Act→World→Prop,Shut (∀ a w,(T.contains i=false→S w)→dn P md ops Q S T fuel (listed.setIfInBounds i true) a w→K' a w)→if Region.wanted o (yielded ops a.tmps)=true then Oper.wp P o a w K' Q else K' (a.put o.dst undef) w)
 (hr:Region.ready md ops listed=[i]:=by kernel_rfl) (ho:ops[i]?=some o:=by simp only[gE];rfl):dn P md ops Q S T (fuel+1) listed a w:=wH hr ho h
theorem rnA {i:Nat} {o:Oper} {fuel:Nat} {listed:Array Bool} {a:Act} {w:World}
 (h:∀ K':Act→World→Prop,Shut (∀ a w,(T.contains i=false→S w)→dn P md ops Q S T fuel (listed.setIfInBounds i true) a w→K' a w)→if Region.wanted o (yielded ops a.tmps)=true then Oper.wp P o a w K' Q else K' (a.put o.dst undef) w)
 (ho:ops[i]?=some o:=by simp only[gE];rfl):StepT P md ops Q S T fuel listed a w i:=StepT.run ho h
theorem rU {i j:Nat} {fuel:Nat} {listed:Array Bool} {a:Act} {w:World} (hr:Region.ready md ops listed=[i,j]) (h1:StepT P md ops Q S T fuel listed a w i) (h2:StepT P md ops Q S T fuel listed a w j) :
 dn P md ops Q S T (fuel+1) listed a w:=by
 refine⟨fun h0=>(by rw[hr] at h0;cases h0),fun k hk=>?_⟩
 rw[hr] at hk
 rcases List.mem_cons.1 hk with rfl | hk
 · exact h1
 · obtain rfl:k=j:=by simpa using hk
   exact h2
def chainB (md:Region.Mode) (ops:Array Oper):List Nat→Array Bool→Bool
 | [],listed=>Region.ready md ops listed == []
 | i :: rs,listed=>Region.ready md ops listed == [i] && chainB md ops rs (listed.setIfInBounds i true)
theorem qM:∀ (rs:List Nat) (os:List Oper) (fuel:Nat) (listed:Array Bool) (a:Act) (w:World),rs.length≤fuel→chainB md ops rs listed=true→rs.all (fun i=>T.contains i)=true→rs.map (fun i=>ops[i]?)=os.map some →
 wpList P ops Q os a w→dn P md ops Q S T fuel listed a w
 | [],[],0,listed,a,w,_,hc,_,_,h=>⟨by simpa [chainB] using hc,h⟩
 | [],[],fuel+1,listed,a,w,_,hc,_,_,h=>⟨fun _=>h,fun j hj=>by have h0:Region.ready md ops listed=[]:=(by simpa [chainB] using hc);rw[h0] at hj;cases hj⟩
 | i :: rs,o :: os,fuel+1,listed,a,w,hl,hc,hT,hm,h=>by
   simp only[chainB,Bool.and_eq_true,beq_iff_eq] at hc
   simp only[List.all_cons,Bool.and_eq_true] at hT
   simp only[List.map_cons,List.cons.injEq] at hm
   refine⟨fun h0=>(by rw[hc.1] at h0;cases h0),fun j hj=>?_⟩
   rw[hc.1] at hj
   obtain rfl:j=i:=by simpa using hj
   unfold wpOp
   simp only[hm.1]
   have ih:=fun a w hw=>qM rs os fuel (listed.setIfInBounds j true) a w (by simpa using hl) hc.2 hT.2 hm.2 hw
   unfold wpList at h
   by_cases hw:Region.wanted o (yielded ops a.tmps)=true
   · rw[if_pos hw] at h
     rw[if_pos hw]
     exact h.imp (Oper.wp_mono fun a' w' hh=>⟨fun hn=>(by rw[hT.1] at hn;cases hn),ih a' w' hh⟩) id
   · rw[if_neg hw] at h
     rw[if_neg hw]
     exact⟨fun hn=>(by rw[hT.1] at hn;cases hn),ih _ _ h⟩
 | [],_ :: _,_,_,_,_,_,_,_,hm,_=>by simp at hm
 | _ :: _,[],_,_,_,_,_,_,_,hm,_=>by simp at hm
 | _ :: _,_ :: _,0,_,_,_,hl,_,_,_,_=>by simp at hl
theorem tlA (rs:List Nat) (os:List Oper) {fuel:Nat} {listed:Array Bool} {a:Act} {w:World} (h:wpList P ops Q os a w) (hl:rs.length≤fuel:=by simp) (hc:chainB md ops rs listed=true:=by kernel_rfl) (hT:rs.all (fun i=>T.contains i)=true:=by rfl)
 (hm:rs.map (fun i=>ops[i]?)=os.map some:=by simp only[List.map_cons,List.map_nil,gE];rfl):dn P md ops Q S T fuel listed a w:=qM rs os fuel listed a w hl hc hT hm h
theorem fZ {id:Nat} {a:Act} {w:World} (S:World→Prop) (T:List Nat) (hm:P.follows .mixedOrders=true) (hS:S w.drew)
 (h:S w.drew→dn P .any ops Q S T ops.size (Array.replicate ops.size false) a w.drew):(Code.region id ops true).wp P Q a w :=
 wp_region_any hm (xW _ _ _ _ (h hS))
end
end
section
end
section
open Go.RowKit Go.ChangeShapes Go.WideShapes Go.ChangeAt
theorem DW {H:Type} {enc:TypeId × Value→H} {a:Assume} {C:Checked} {os:Os} {f:FuncId} {fn:Func} {s:ChangeSpec} {conds:List PathCond} {apart fresh handsOn again:Bool} {X:World→Array Value→Prop}
 (hX:∀ (w w':World) (args:Array Value),w.heap=w'.heap→X w args→X w' args)
 (own:ownKnob C.prog.godebug=none) (started:os.Started) (noInit:C.prog.inits.idxOf? f=none) (hfn:C.prog.funcs[f]?=some fn)
 (witness:∃ (w:World) (tape:Tape) (i:Input),w.os=os∧(w.forCall tape i).Shaped C.prog∧i.vars=[]∧Input.okWide C.prog (w.forCall tape i) .any w.heap.size f i ∧
  ((s.pre enc C.prog fn conds apart (w.forCall tape i).memory i.args∧X (w.forCall tape i).memory i.args)∧sizedMet enc C.prog fn (OpenSpec.ofChange s) apart (w.forCall tape i).memory i.args)∧a.holds C.prog (lone (Frame.enter C.prog f i.args .normal) [] (w.forCall tape i)))
 (contract:∀ (W:World) (base:Nat) (args:Array Value) (ds gs:List (DataW H)) (before:List MemPlace),
  (∀ (j:Nat) t v,fn.params[j]?=some t→args[j]?=some v→Value.okWide C.prog W .any base t v) →
  DataW.Whole enc C.prog fn.params.toList s.vars apart W args.toList ds gs before →
  conds.all (PathCond.test C.prog ⟨fn.params.toList,ds,s.plain.varTypes C.prog,gs⟩)=true →
  (DataW.weightsEach C.prog (fn.params.toList++s.plain.varTypes C.prog) (ds++gs)).all (·≤reachBytes)=true→X W args→W.ShapedOpen C.prog →
  a.holds C.prog (lone (Frame.enter C.prog f args .normal) [] W) →
  Calls C.prog f args W fun e W'=>∃ v,e=.returned v∧s.post enc C.prog fn apart fresh handsOn again W args v W') :
 ReturnsInHanded a C os f .any (fun w args=>(s.pre enc C.prog fn conds apart w args∧X w args)∧sizedMet enc C.prog fn (OpenSpec.ofChange s) apart w args) (s.post enc C.prog fn apart fresh handsOn again):=by
 refine returnsInHanded_of_calls own started noInit witness ?_
 intro w tape i _ hsh _ hok hpre hholds
 obtain⟨_,_,_,fn',hfn',_,_,_,_,hval⟩:=hok
 have e:fn'=fn:=Option.some.inj (hfn'.symm.trans hfn)
 subst e
 obtain⟨⟨⟨ds,gs,before,hw,hc⟩,hx⟩,hz⟩:=hpre
 have hw':=DataW.Whole.of_heap (w':=w.forCall tape i) (by rfl) hw
 refine(contract (w.forCall tape i) w.heap.size i.args ds gs before hval hw' hc (hz.weights hw) (hX _ _ _ (by rfl) hx) hsh hholds).mono fun e W' ⟨v,he,hp⟩=>?_
 subst he
 exact ChangeSpec.post_blind hp
end
end Go.Proofs.YteknjeohbcgpdaaGreatDoor