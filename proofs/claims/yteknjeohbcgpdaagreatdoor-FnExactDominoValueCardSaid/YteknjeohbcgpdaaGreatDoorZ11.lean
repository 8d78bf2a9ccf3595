/-
  Plain law: three puts, two bypassings and two thinnings make the canonical node. (3 texts.)
-/
import Derived.Test.YteknjeohbcgpdaaGreatDoorZ10
set_option maxRecDepth 100000
namespace Go.Proofs.YteknjeohbcgpdaaGreatDoor
section
open Cgt
def ku (D:Dag) (left:Bool) (B F:List Nat):Prop:=(∀ x,x∈F→x∈B∧∀ z,z∈B→GeS D left z x→z=x)∧(∀ x,x∈B→∃ z,z∈F∧GeS D left z x)
theorem vQ {D:Dag} (hD:WF D) {i x:Nat} (h:x∈opt D true i):vl D x∈(vl D i).l:=by
 unfold opt at h
 cases e:D[i]? with
 | none=>rw[e] at h;simp at h
 | some nd=>rw[e] at h;rw[ib hD e];exact List.mem_map.2 ⟨x,by simpa using h,rfl⟩
theorem vO {D:Dag} (hD:WF D) {i x:Nat} (h:x∈opt D false i):vl D x∈(vl D i).r:=by
 unfold opt at h
 cases e:D[i]? with
 | none=>rw[e] at h;simp at h
 | some nd=>rw[e] at h;rw[gZ hD e];exact List.mem_map.2 ⟨x,by simpa using h,rfl⟩
theorem Bp {D:Dag} (hD:WF D) {i:Nat} {g:Gm} (h:g∈(vl D i).l):∃ x,x∈opt D true i∧g=vl D x:=by
 cases e:D[i]? with
 | none=>rw[y8 e] at h;simp[Gm.l] at h
 | some nd =>
   rw[ib hD e] at h
   obtain⟨x,hx,rfl⟩:=List.mem_map.1 h
   exact⟨x,by simp[opt,e,hx],rfl⟩
theorem Bn {D:Dag} (hD:WF D) {i:Nat} {g:Gm} (h:g∈(vl D i).r):∃ x,x∈opt D false i∧g=vl D x:=by
 cases e:D[i]? with
 | none=>rw[y8 e] at h;simp[Gm.r] at h
 | some nd =>
   rw[gZ hD e] at h
   obtain⟨x,hx,rfl⟩:=List.mem_map.1 h
   exact⟨x,by simp[opt,e,hx],rfl⟩
theorem jc {D:Dag} (hD:WF D) {root:Nat} {left:Bool} {l line B:List Nat} {i:Nat} (h:dA D root left l line B i) (hc:∀ x,x∈l→Canon (vl D x)):∀ x,x∈line→Canon (vl D x):=by
 refine h.jJ (fun x=>Canon (vl D x)) (fun i side x hi hx=>?_) hc
 cases side
 · exact hi.r (vO hD hx)
 · exact hi.l (vQ hD hx)
theorem KU {D:Dag} (hD:WF D) {root:Nat} {l r l6 BL l5 BR FL FR:List Nat} (hroot:D[root]?=some (l,r)) (cl:∀ x,x∈l→Canon (vl D x)) (cr:∀ x,x∈r→Canon (vl D x))
 (iL:dA D root true l l6 BL l6.length) (iR:dA D root false r l5 BR l5.length) (mL:ku D true BL FL) (mR:ku D false BR FR) :
 Eqv (.mk (FL.map (vl D)) (FR.map (vl D))) (vl D root)∧Canon (.mk (FL.map (vl D)) (FR.map (vl D))):=by
 have hl:(vl D root).l=l.map (vl D):=ib hD hroot
 have hr:(vl D root).r=r.map (vl D):=gZ hD hroot
 have sR:∀ x,x∈FR→¬ Ge (vl D root) (vl D x):=by
  intro x hx
  rcases iR.sound x (iR.kept x (mR.1 x hx).1).1 with h | ⟨k,_,hk,h⟩
  · exact lu (by rw[hr];exact List.mem_map.2 ⟨x,h,rfl⟩)
  · exact EB (by simpa [GeS] using hk) (vO hD h)
 have sL:∀ x,x∈FL→¬ Ge (vl D x) (vl D root):=by
  intro x hx
  rcases iL.sound x (iL.kept x (mL.1 x hx).1).1 with h | ⟨k,_,hk,h⟩
  · exact lC (by rw[hl];exact List.mem_map.2 ⟨x,h,rfl⟩)
  · exact EC (by simpa [GeS] using hk) (vQ hD h)
 have g1:Ge (.mk (FL.map (vl D)) (FR.map (vl D))) (vl D root):=by
  refine Aj (fun g=>∃ x,x∈l6∧g=vl D x) ?_ ?_ ?_
  · intro g hg
    rw[hl] at hg
    obtain⟨x,hx,rfl⟩:=List.mem_map.1 hg
    exact⟨_,⟨x,iL.sub x hx,rfl⟩,ja _⟩
  · rintro _ ⟨x,hx,rfl⟩
    obtain⟨j,hj,rfl⟩:=List.mem_iff_getElem.1 hx
    rcases iL.done j hj hj with h | ⟨y,hy,hg,hz⟩
    · obtain⟨z,hz,hg⟩:=mL.2 _ h
      exact .inl ⟨vl D z,List.mem_map.2 ⟨z,hz,rfl⟩,by simpa [GeS] using hg⟩
    · refine .inr ⟨vl D y,vO hD (by simpa using hy),by simpa [GeS] using hg,fun g hg'=>?_⟩
      obtain⟨z,hz',rfl⟩:=Bp hD hg'
      exact⟨z,hz z hz',rfl⟩
  · intro g hg
    obtain⟨x,hx,rfl⟩:=List.mem_map.1 hg
    exact sR x hx
 have g2:Ge (vl D root) (.mk (FL.map (vl D)) (FR.map (vl D))):=by
  refine Ai (fun g=>∃ x,x∈l5∧g=vl D x) ?_ ?_ ?_
  · intro g hg
    rw[hr] at hg
    obtain⟨x,hx,rfl⟩:=List.mem_map.1 hg
    exact⟨_,⟨x,iR.sub x hx,rfl⟩,ja _⟩
  · rintro _ ⟨x,hx,rfl⟩
    obtain⟨j,hj,rfl⟩:=List.mem_iff_getElem.1 hx
    rcases iR.done j hj hj with h | ⟨y,hy,hg,hz⟩
    · obtain⟨z,hz,hg⟩:=mR.2 _ h
      exact .inl ⟨vl D z,List.mem_map.2 ⟨z,hz,rfl⟩,by simpa [GeS] using hg⟩
    · refine .inr ⟨vl D y,vQ hD (by simpa using hy),by simpa [GeS] using hg,fun g hg'=>?_⟩
      obtain⟨z,hz',rfl⟩:=Bn hD hg'
      exact⟨z,hz z hz',rfl⟩
  · intro g hg
    obtain⟨x,hx,rfl⟩:=List.mem_map.1 hg
    exact sL x hx
 refine⟨⟨g1,g2⟩,Canon.mk _ ⟨?_,?_,?_,?_⟩ ?_ ?_⟩
 · intro x y hx hy h
   obtain⟨a,ha,rfl⟩:=List.mem_map.1 hx
   obtain⟨b,hb,rfl⟩:=List.mem_map.1 hy
   rw[(mL.1 b hb).2 a (mL.1 a ha).1 (by simpa [GeS] using h)]
   exact fO _
 · intro x y hx hy h
   obtain⟨a,ha,rfl⟩:=List.mem_map.1 hx
   obtain⟨b,hb,rfl⟩:=List.mem_map.1 hy
   rw[(mR.1 a ha).2 b (mR.1 b hb).1 (by simpa [GeS] using h)]
   exact fO _
 · intro x hx y hy h
   obtain⟨a,ha,rfl⟩:=List.mem_map.1 hx
   obtain⟨c,hc,rfl⟩:=Bn hD hy
   have:=(iL.kept a (mL.1 a ha).1).2 c (by simpa using hc)
   simp[GeS] at this
   exact this (bK _ _ _ g2 h)
 · intro x hx y hy h
   obtain⟨a,ha,rfl⟩:=List.mem_map.1 hx
   obtain⟨c,hc,rfl⟩:=Bp hD hy
   have:=(iR.kept a (mR.1 a ha).1).2 c (by simpa using hc)
   simp[GeS] at this
   exact this (bK _ _ _ h g1)
 · intro x hx
   obtain⟨a,ha,rfl⟩:=List.mem_map.1 hx
   exact jc hD iL cl a (iL.kept a (mL.1 a ha).1).1
 · intro x hx
   obtain⟨a,ha,rfl⟩:=List.mem_map.1 hx
   exact jc hD iR cr a (iR.kept a (mR.1 a ha).1).1
end
section
open Cgt
def woN (l:List Nat) (z:List Int):List Nat:=((List.range l.length).filter fun (i:Nat)=>!fJ z (i:Int)).map fun i=>l.getD i 0
theorem qZ (l:List Nat) (z:List Int):lh (toZ l) z=toZ (woN l z):=by
 unfold lh woK woN
 rw[aj]
 conv=>rhs;rw[toZ,List.map_map]
 refine List.map_congr_left fun i hi=>?_
 have h:=List.mem_range.1 (List.mem_filter.1 hi).1
 simp[dN h,h]
theorem vF {l:List Nat} {z:List Int} {x:Nat}:x∈woN l z↔∃ i,∃ h:i<l.length,x=l[i]∧(i:Int) ∉ z:=by
 unfold woN
 rw[List.mem_map]
 constructor
 · rintro⟨i,hi,rfl⟩
   obtain⟨h1,h2⟩:=List.mem_filter.1 hi
   have h:=List.mem_range.1 h1
   exact⟨i,h,by simp[h],by simpa [fJ] using h2⟩
 · rintro⟨i,h,rfl,hn⟩
   exact⟨i,List.mem_filter.2 ⟨List.mem_range.2 h,by simpa [fJ] using hn⟩,by simp[h]⟩
theorem um {l:List Nat} (hn:l.Nodup) {i j:Nat} (hi:i<l.length) (hj:j<l.length) (e:l[i]=l[j]):i=j:=by
 have h:=List.pairwise_iff_getElem.1 hn
 rcases Nat.lt_trichotomy i j with c | c | c
 · exact absurd e (h i j hi hj c)
 · exact c
 · exact absurd e.symm (h j i hj hi c)
theorem Mt (D:Dag) (left:Bool) (a:Nat):GeS D left a a:=by cases left <;> simp[GeS,ja]
theorem JG {D:Dag} {left:Bool} {a b c:Nat} (h:GeS D left a b) (k:GeS D left b c):GeS D left a c:=by
 cases left <;> simp[GeS] at h k ⊢
 · exact bK _ _ _ k h
 · exact bK _ _ _ h k
theorem vI {D:Dag} (hG:Cgt.Good D) {left:Bool} {l:List Nat} {z:List Int} (hn:l.Nodup) (hl:∀ x,x∈l→x<D.length) (hc:∀ x,x∈l→Canon (vl D x)) (hz:dx D left l z l.length 0):ku D left l (woN l z):=by
 have Hu:∀ a b,a∈l→b∈l→GeS D left a b→GeS D left b a→a=b:=by
  intro a b ha hb h k
  have e:Eqv (vl D a) (vl D b):=by
   cases left <;> simp[GeS] at h k
   · exact⟨k,h⟩
   · exact⟨h,k⟩
  exact jY hG a b (hl a ha) (hl b hb) (iP (hc a ha) (hc b hb) e)
 have dom:∀ i,i<l.length→((i:Int)∈z↔Dom D left l i):=by
  intro i hi
  rw[hz.mem]
  constructor
  · rintro(⟨_,h⟩ | ⟨rfl,_⟩)
    · exact h
    · omega
  · intro h;exact .inl ⟨hi,h⟩
 constructor
 · intro x hx
   obtain⟨i,hi,rfl,hz'⟩:=vF.1 hx
   refine⟨List.getElem_mem hi,fun y hy hg=>?_⟩
   obtain⟨k,hk,rfl⟩:=List.mem_iff_getElem.1 hy
   by_cases e:k=i
   · subst e;rfl
   · rw[dom i hi] at hz'
     by_cases g2:GeS D left l[i] l[k]
     · exact Hu _ _ (List.getElem_mem hk) (List.getElem_mem hi) hg g2
     · exact absurd ⟨k,hk,e,by simpa [hk,hi] using hg,.inl (by simpa [hk,hi] using g2)⟩ hz'
 · intro x hx
   obtain⟨b,hb,hbx,hm⟩:=stays (GeS D left) (Mt D left) (fun _ _ _=>JG) l Hu x hx
   refine⟨b,?_,hbx⟩
   obtain⟨i,hi,rfl⟩:=List.mem_iff_getElem.1 hb
   refine vF.2 ⟨i,hi,rfl,fun hz'=>?_⟩
   obtain⟨k,hk,hne,hg,_⟩:=(dom i hi).1 hz'
   simp only[List.getD,List.getElem?_eq_getElem hk,List.getElem?_eq_getElem hi,Option.getD_some] at hg
   have e:=hm _ (List.getElem_mem hk) hg
   exact hne (um hn hk hi e)
end
section
open Cgt
theorem eT.ext {D D':Dag} {l r:List Nat} {i:Nat} (h:eT D l r D' i):∃ E,D'=D++E∧E.length≤1:=by
 rcases h.2 with h | h
 · exact⟨[],by simp[h],by simp⟩
 · exact⟨_,h,by simp⟩
theorem eT.lt {D D':Dag} {l r:List Nat} {i:Nat} (h:eT D l r D' i):i<D'.length:=(List.getElem?_eq_some_iff.1 h.1).1
theorem eT.node {D D':Dag} {l r:List Nat} {i:Nat} (h:eT D l r D' i):D'[i]'h.lt=(ai l,ai r):=by have k:=h.1;rw[List.getElem?_eq_getElem h.lt] at k;injection k
theorem eT.len {D D':Dag} {l r:List Nat} {i:Nat} (h:eT D l r D' i):D.length≤D'.length∧D'.length≤D.length+1:=by
 obtain⟨E,rfl,h⟩:=h.ext;simp;omega
theorem eT.vl {D D':Dag} {l r:List Nat} {i:Nat} (h:eT D l r D' i) (hD:WF D) (hD':WF D') {x:Nat} (hx:x<D.length):Cgt.vl D' x=Cgt.vl D x:=by
 obtain⟨E,rfl,_⟩:=h.ext;exact dV hD hD' x hx
theorem Ad {a b c d:List Gm} (h1:∀ x,x∈a↔x∈c) (h2:∀ x,x∈b↔x∈d):Same (.mk a b) (.mk c d):=by
 rw[same_iff]
 exact⟨fun x hx=>⟨x,(h1 x).1 hx,fO x⟩,fun x hx=>⟨x,(h1 x).2 hx,fO x⟩,fun x hx=>⟨x,(h2 x).1 hx,fO x⟩,fun x hx=>⟨x,(h2 x).2 hx,fO x⟩⟩
theorem iF {l:List Nat} (h:Asc l):l.Nodup:=h.imp (fun h=>Nat.ne_of_lt h)
theorem zX {D:Dag} {left:Bool} {B F:List Nat} (h:ku D left (ai B) F):ku D left B (ai F) :=
 ⟨fun x hx=>by obtain⟨a,b⟩:=h.1 x (aK.1 hx);exact⟨aK.1 a,fun z hz=>b z (aK.2 hz)⟩,
  fun x hx=>by obtain⟨z,hz,hg⟩:=h.2 x (aK.2 hx);exact⟨z,aK.2 hz,hg⟩⟩
theorem xZ {D D':Dag} {left:Bool} {B F:List Nat} (hv:∀ x,x<D.length→vl D' x=vl D x) (hB:∀ x,x∈B→x<D.length) (h:ku D' left B F):ku D left B F:=by
 have e:∀ x y,x∈B→y∈B→(GeS D' left x y↔GeS D left x y):=fun x y hx hy=>by unfold GeS;rw[hv x (hB x hx),hv y (hB y hy)]
 refine⟨fun x hx=>?_,fun x hx=>?_⟩
 · obtain⟨a,b⟩:=h.1 x hx
   exact⟨a,fun z hz hg=>b z hz ((e z x hz a).2 hg)⟩
 · obtain⟨z,hz,hg⟩:=h.2 x hx
   exact⟨z,hz,(e z x (h.1 z hz).1 hx).1 hg⟩
def Within (D:Dag) (l r:List Nat) (D':Dag) (i:Nat):Prop:=∀ P:Nat→Prop,(∀ j side x,P j→x∈opt D side j→P x)→(∀ x,x∈l→P x)→(∀ x,x∈r→P x)→∀ side x,x∈opt D' side i→P x
theorem jT {D E:Dag} {side:Bool} {i:Nat} (h:i<D.length):opt (D++E) side i=opt D side i:=by simp[opt,List.getElem?_append_left h]
theorem Jc {D D1 D2 D3:Dag} {l r l6 BL l5 BR:List Nat} {zL zR:List Int} {i1 i2 i3:Nat} (g:Cgt.Good D) (g1:Cgt.Good D1) (g2:Cgt.Good D2) (g3:Cgt.Good D3)
 (p1:eT D l r D1 i1) (p2:eT D1 (ai BL) (ai BR) D2 i2) (p3:eT D2 (woN (ai BL) zL) (woN (ai BR) zR) D3 i3)
 (hl:∀ x,x∈l→x<D.length) (hr:∀ x,x∈r→x<D.length) (cl:∀ x,x∈l→Canon (vl D x)) (cr:∀ x,x∈r→Canon (vl D x))
 (iL:dA D1 i1 true (ai l) l6 BL l6.length) (iR:dA D1 i1 false (ai r) l5 BR l5.length)
 (dL:dx D2 true (ai BL) zL (ai BL).length 0) (dR:dx D2 false (ai BR) zR (ai BR).length 0) :
 (∃ E,D3=D++E∧E.length≤3)∧i3<D3.length∧Canon (vl D3 i3)∧Eqv (vl D3 i3) (.mk (l.map (vl D)) (r.map (vl D)))∧Within D l r D3 i3:=by
 have e1:∀ x,x<D.length→vl D1 x=vl D x:=fun x hx=>p1.vl g.wf g1.wf hx
 have e2:∀ x,x<D1.length→vl D2 x=vl D1 x:=fun x hx=>p2.vl g1.wf g2.wf hx
 have e3:∀ x,x<D2.length→vl D3 x=vl D2 x:=fun x hx=>p3.vl g2.wf g3.wf hx
 have n1:=p1.len
 have n2:=p2.len
 have cl1:∀ x,x∈ai l→Canon (vl D1 x):=fun x hx=>by have hx:=aK.1 hx;rw[e1 x (hl x hx)];exact cl x hx
 have cr1:∀ x,x∈ai r→Canon (vl D1 x):=fun x hx=>by have hx:=aK.1 hx;rw[e1 x (hr x hx)];exact cr x hx
 have bL:∀ x,x∈BL→x<D1.length∧Canon (vl D1 x):=fun x hx=>⟨iL.lt x (iL.kept x hx).1,jc g1.wf iL cl1 x (iL.kept x hx).1⟩
 have bR:∀ x,x∈BR→x<D1.length∧Canon (vl D1 x):=fun x hx=>⟨iR.lt x (iR.kept x hx).1,jc g1.wf iR cr1 x (iR.kept x hx).1⟩
 have mL:ku D1 true BL (ai (woN (ai BL) zL)):=by
  refine xZ e2 (fun x hx=>(bL x hx).1) (zX (vI g2 (iF (fB _)) ?_ ?_ dL))
  · intro x hx;have:=(bL x (aK.1 hx)).1;omega
  · intro x hx;have h:=bL x (aK.1 hx);rw[e2 x h.1];exact h.2
 have mR:ku D1 false BR (ai (woN (ai BR) zR)):=by
  refine xZ e2 (fun x hx=>(bR x hx).1) (zX (vI g2 (iF (fB _)) ?_ ?_ dR))
  · intro x hx;have:=(bR x (aK.1 hx)).1;omega
  · intro x hx;have h:=bR x (aK.1 hx);rw[e2 x h.1];exact h.2
 obtain⟨hE,hC⟩:=KU g1.wf p1.1 cl1 cr1 iL iR mL mR
 have v3:vl D3 i3=.mk ((ai (woN (ai BL) zL)).map (vl D1)) ((ai (woN (ai BR) zR)).map (vl D1)):=by
  rw[jh g3.wf p3.1]
  congr 1
  · refine List.map_congr_left fun x hx=>?_
    have h:=(bL x (mL.1 x hx).1).1
    rw[e3 x (by omega),e2 x h]
  · refine List.map_congr_left fun x hx=>?_
    have h:=(bR x (mR.1 x hx).1).1
    rw[e3 x (by omega),e2 x h]
 have v1:Eqv (vl D1 i1) (.mk (l.map (vl D)) (r.map (vl D))):=by
  rw[jh g1.wf p1.1]
  refine(Ad (fun y=>?_) (fun y=>?_)).eqv
  · simp only[List.mem_map,aK]
    exact⟨fun ⟨x,hx,e⟩=>⟨x,hx,by rw[← e,e1 x (hl x hx)]⟩,fun ⟨x,hx,e⟩=>⟨x,hx,by rw[← e,e1 x (hl x hx)]⟩⟩
  · simp only[List.mem_map,aK]
    exact⟨fun ⟨x,hx,e⟩=>⟨x,hx,by rw[← e,e1 x (hr x hx)]⟩,fun ⟨x,hx,e⟩=>⟨x,hx,by rw[← e,e1 x (hr x hx)]⟩⟩
 refine⟨?_,p3.lt,by rw[v3];exact hC,by rw[v3];exact hE.trans v1,fun P hP pl pr side x hx=>?_⟩
 rotate_left
 · have hP1:∀ i side x,(P i∧i<D.length)→x∈opt D1 side i→P x∧x<D.length:=fun i side x hi hx=>by
    obtain⟨E,rfl,_⟩:=p1.ext
    rw[jT hi.2] at hx
    exact⟨hP i side x hi.1 hx,by have:=fH g.wf hx;omega⟩
   have e:D3[i3]?=some (ai (woN (ai BL) zL),ai (woN (ai BR) zR)):=p3.1
   unfold opt at hx
   rw[e] at hx
   cases side
   · have hx:x∈ai (woN (ai BR) zR):=by simpa using hx
     exact(iR.jJ (fun x=>P x∧x<D.length) hP1 (fun x hx=>⟨pr x (aK.1 hx),hr x (aK.1 hx)⟩) x (iR.kept x (mR.1 x hx).1).1).1
   · have hx:x∈ai (woN (ai BL) zL):=by simpa using hx
     exact(iL.jJ (fun x=>P x∧x<D.length) hP1 (fun x hx=>⟨pl x (aK.1 hx),hl x (aK.1 hx)⟩) x (iL.kept x (mL.1 x hx).1).1).1
 obtain⟨E1,rfl,h1⟩:=p1.ext
 obtain⟨E2,rfl,h2⟩:=p2.ext
 obtain⟨E3,rfl,h3⟩:=p3.ext
 exact⟨E1++(E2++E3),by simp,by simp;omega⟩
end
end Go.Proofs.YteknjeohbcgpdaaGreatDoor