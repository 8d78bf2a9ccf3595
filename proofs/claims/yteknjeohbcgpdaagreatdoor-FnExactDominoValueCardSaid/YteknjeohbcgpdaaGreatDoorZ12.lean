/-
  Plain law: stage by stage, each stage in order, the nodes met from a root are laid out as the form of its game. (2 texts.)
-/
import Derived.Test.YteknjeohbcgpdaaGreatDoorZ11
import Derived.BigRegion
set_option maxRecDepth 100000
namespace Go.Proofs.YteknjeohbcgpdaaGreatDoor
open Tryz
section
open Go.RowKit
open Cgt (Dag Nd vl WF)
theorem Ju:(prog.info? 4).map (fun i=>(i.zero,i.size,i.bytes))=some (some (.bool false),1,1):=by kernel_rfl
structure RInv (D:Dag) (root:Nat) (bs:List Bool) (m:Nat):Prop where
 len:bs.length=root+1
 top:bs[root]?=some true
 sound:∀ j:Nat,bs[j]?=some true→Cgt.Reach D root j
 done:∀ i:Nat,m≤i→bs[i]?=some true→∀ side x,x∈opt D side i→bs[x]?=some true
theorem qg {D:Dag} {root i x:Nat} {side:Bool} (h:Cgt.Reach D root i) (hx:x∈opt D side i):Cgt.Reach D root x:=by
 unfold opt at hx
 cases e:D[i]? with
 | none=>rw[e] at hx;simp at hx
 | some nd =>
   rw[e] at hx
   cases side
   · exact h.right e (by simpa using hx)
   · exact h.left e (by simpa using hx)
theorem RInv.start (D:Dag) (root:Nat):RInv D root ((List.replicate (root+1) false).set root true) (root+1):=by
 refine⟨by simp,by simp,fun j h=>?_,fun i hi h=>?_⟩
 · rw[List.getElem?_set] at h
   split at h
   · rename_i e;subst e;exact .here
   · rw[List.getElem?_replicate] at h
     split at h <;> simp at h
 · have h1:i<((List.replicate (root+1) false).set root true).length:=(List.getElem?_eq_some_iff.1 h).1
   simp at h1;omega
theorem RInv.mark {D:Dag} (hD:WF D) {root:Nat} {bs:List Bool} {k x:Nat} {side:Bool} (h:RInv D root bs (k+1)) (hk:bs[k]?=some true) (hx:x∈opt D side k) :
 RInv D root (bs.set x true) (k+1)∧(bs.set x true)[k]?=some true∧∀ j:Nat,bs[j]?=some true→(bs.set x true)[j]?=some true:=by
 have mono:∀ j:Nat,bs[j]?=some true→(bs.set x true)[j]?=some true:=fun j hj=>by
  rw[List.getElem?_set]
  split
  · rename_i e;subst e;simp[(List.getElem?_eq_some_iff.1 hj).1]
  · exact hj
 have hxk:=fH hD hx
 refine⟨⟨by simpa using h.len,mono _ h.top,fun j hj=>?_,fun i hi hm sd y hy=>?_⟩,mono k hk,mono⟩
 · rw[List.getElem?_set] at hj
   split at hj
   · rename_i e;subst e;exact qg (h.sound k hk) hx
   · exact h.sound j hj
 · rw[List.getElem?_set,if_neg (by omega)] at hm
   exact mono _ (h.done i hi hm sd y hy)
theorem RInv.down {D:Dag} {root:Nat} {bs:List Bool} {k:Nat} (h:RInv D root bs (k+1)) (hk:bs[k]?=some true→∀ side x,x∈opt D side k→bs[x]?=some true):RInv D root bs k :=
 ⟨h.len,h.top,h.sound,fun i hi hm=>by
  by_cases e:i=k
  · subst e;exact hk hm
  · exact h.done i (by omega) hm⟩
theorem RInv.all {D:Dag} {root:Nat} {bs:List Bool} (h:RInv D root bs 0) (j:Nat):bs[j]?=some true↔Cgt.Reach D root j:=by
 refine⟨h.sound j,fun hr=>?_⟩
 induction hr with
 | here=>exact h.top
 | left _ hd hk ih=>exact h.done _ (Nat.zero_le _) ih true _ (by simp[opt,hd];exact hk)
 | right _ hd hk ih=>exact h.done _ (Nat.zero_le _) ih false _ (by simp[opt,hd];exact hk)
theorem bu.FZ {w:World} {pb:Nat} {vn vb:Value} {D:Dag} (h:bu w pb vn vb D) {i:Nat} (hi:i<D.length) :
 ∃ g cap aL cL aR cR,vn=.slice (some ⟨g,0,none⟩) D.length cap∧∀ W,Ext w W→W.cell? ⟨pb,0,none⟩=some (.slice (some ⟨g,0,none⟩) D.length cap)∧W.cell? ⟨g,i*2,none⟩=some (.slice aL (D[i]).1.length cL)∧W.cell? ⟨g,i*2+1,none⟩=some (.slice aR (D[i]).2.length cR) ∧
   Ints W (.slice aL (D[i]).1.length cL) (toZ (D[i]).1)∧Ints W (.slice aR (D[i]).2.length cR) (toZ (D[i]).2):=by
 obtain⟨g,cap,L,R,rfl,h2,h3,h4,h5,h6,h7⟩:=h.nQ hi
 obtain⟨aL,cL,rfl,-⟩:=id h6
 obtain⟨aR,cR,rfl,-⟩:=id h7
 rw[aj] at h4 h5 h6 h7
 exact⟨g,cap,aL,cL,aR,cR,rfl,fun W hW=>⟨(h.ext hW).cell0,(hW.cell (lt_of_cell h4)).trans h4,(hW.cell (lt_of_cell h5)).trans h5,h6.ext hW,h7.ext hW⟩⟩
theorem lq {D:Dag} {i:Nat} (h:i<D.length):opt D true i=(D[i]).1:=by simp[opt,h]
theorem jZ {D:Dag} {i:Nat} (h:i<D.length):opt D false i=(D[i]).2:=by simp[opt,h]
theorem BU {W:World} {aL:Option Addr} {cL:Nat} {l:List Nat} (h:Ints W (.slice aL l.length cL) (toZ l)) {i:Nat} (hi:i<l.length):∃ b off,aL=some ⟨b,off,none⟩∧W.cell? ⟨b,off+i,none⟩=some (.int .i64 ((l[i]:Nat):Int)):=by
 obtain⟨a,c,he,_,_,hc⟩:=h
 simp only[Value.slice.injEq] at he
 obtain⟨rfl,-,rfl⟩:=he
 rw[aj] at hc
 obtain⟨b,off,rfl,hcell⟩:=hc (by omega)
 have:=hcell i hi
 rw[dN hi] at this
 exact⟨b,off,rfl,this⟩
theorem RInv.go {D:Dag} (hD:WF D) {root:Nat} {bs:List Bool} {k i:Nat} {side:Bool} {l:List Nat} (hl:opt D side k=l) (h:RInv D root bs (k+1)) (hk:bs[k]?=some true) (hi:i<l.length) (hp:∀ j (h:j<l.length),j<i→bs[l[j]]?=some true) :
 RInv D root (bs.set l[i] true) (k+1)∧(bs.set l[i] true)[k]?=some true∧(∀ j:Nat,bs[j]?=some true→(bs.set l[i] true)[j]?=some true)∧(∀ j (h:j<l.length),j<i+1→(bs.set l[i] true)[l[j]]?=some true):=by
 have hx:l[i]∈opt D side k:=by rw[hl];exact List.getElem_mem hi
 obtain⟨h1,h2,h3⟩:=h.mark hD hk hx
 refine⟨h1,h2,h3,fun j hj hji=>?_⟩
 by_cases e:j=i
 · subst e
   have hkl:k<bs.length:=(List.getElem?_eq_some_iff.1 hk).1
   have:=fH hD hx
   rw[List.getElem?_set,if_pos rfl,if_pos (by omega)]
 · exact h3 _ (hp j hj (by omega))
theorem sW {w:World} {base e g n cap:Nat} {bs:List Bool} (h:w.ownsRow base e 1 (.slice (some ⟨g,0,none⟩) n cap) n (bs.map Value.bool)) {k:Nat} {b:Bool} (hk:k<n) (hb:bs[k]?=some b):w.cell? ⟨g,k,none⟩=some (.bool b):=by
 rw[h.cellAt k (by omega)];simp[hb]
theorem E9 {w:World} {base e g n cap:Nat} {bs:List Bool} (h:w.ownsRow base e 1 (.slice (some ⟨g,0,none⟩) n cap) n (bs.map Value.bool)) (k:Nat) (b:Bool) :
 (w.setCell ⟨g,k,none⟩ (.bool b)).ownsRow base e 1 (.slice (some ⟨g,0,none⟩) n cap) n ((bs.set k b).map Value.bool):=by
 have:=(h.stored k (.bool b)).1;rw[List.map_set];exact this
set_option maxHeartbeats 2000000 in
theorem DN (pb:Nat) (vn vb:Value) (D:Dag) (root:Nat) (w:World) (hB:bu w pb vn vb D) (hr:root<D.length) :
 Calls prog 177 #[.pointer (some ⟨pb,0,none⟩),.int .i64 root] w fun e w'=>∃ v' bs,e=.returned v'∧RInv D root bs 0∧w'.ownsRow w.heap.size 4 1 v' (root+1) (bs.map Value.bool)∧Ext w w':=by
 have hds:=hB.small
 have hD:=Hd_ hB.good.wf
 obtain⟨i0,hi,hz0,hz1,hz2⟩:=info_parts Ju
 obtain⟨w1,hmk,ho1,hg1⟩:=run_make_full (P:=prog) w w.heap.size 106 4 i0 (.bool false) 1 underlying106 hi hz0 hz1 .i64 .i64 (root+1) (by rw[hz2];omega) (by unfold maxLen;omega) (Nat.le_refl _)
 rw[show (((root+1:Nat)):Int)=(root:Int)+1 by omega] at hmk
 have ho1:w1.ownsRow w.heap.size 4 1 (.slice (some ⟨w.heap.size,0,none⟩) (root+1) (root+1)) (root+1) ((List.replicate (root+1) false).map Value.bool):=by
  rw[Nat.mul_one] at ho1;rw[List.map_replicate,← toList_madeCells_one];exact ho1
 have c1:=ho1.cellAt root (by omega)
 have f1:=ho1.frozenAt root
 rw[show ((List.replicate (root+1) false).map Value.bool)[root]?=some (.bool false) by simp] at c1
 have ho2:=ho1.stored root (.bool true)
 have hw:IntKind.i64.wrap ((root:Int)+1)=(root:Int)+1:=by rw[IntKind.wrap_i64];omega
 go_enter Tryz.func177,Tryz.ntmps177
 go_wp2
 have hB':=Hd_ hB
 have hE2:Ext w (w1.setCell ⟨w.heap.size,root,none⟩ (.bool true)):=(aV (Below.refl _ _) hg1 (by simp)).grown ho2.2 hg1.size (fun k hk=>by injection hk with hk;omega)
 rw[← List.map_set] at ho2
 have hst:=RInv.start D root
 obtain⟨ho3,-⟩:=ho2
 generalize hW:w1.setCell ⟨w.heap.size,root,none⟩ (.bool true)=W at *
 generalize (List.replicate (root+1) false).set root true=bs0 at *
 clear hmk ho1 hg1 c1 f1 hW hB
 go_loopw [6,7,8] (fun kk _ _ wr=>∃ m bs,m≤root+1∧kk=.int .i64 ((m:Int)-1)∧wr.ownsRow w.heap.size 4 1 (.slice (some ⟨w.heap.size,0,none⟩) (root+1) (root+1)) (root+1) (bs.map Value.bool)∧RInv D root bs m∧Ext w wr) (fun kk _ _ _=>(intOf kk+1).toNat)
 case atStart=>exact⟨root+1,bs0,Nat.le_refl _,by go_num,ho3,hst,hE2⟩
 case round =>
  obtain⟨m,bs,hm,rfl,hown,hinv,hE⟩:=hrel
  cases m with
  | zero =>
    go_wp2
    go_ret
    exact⟨_,bs,rfl,hinv,hown,hE⟩
  | succ k =>
    have hk1:((k+1:Nat):Int)-1=(k:Int):=by omega
    rw[hk1]
    have hkr:k<root+1:=by omega
    obtain⟨bv,hbk⟩:∃ b,bs[k]?=some b:=⟨_,List.getElem?_eq_getElem (by rw[hinv.len];omega)⟩
    have hck:=sW hown hkr hbk
    have HV:=Hd_ hinv
    have HE:=Hd_ hE
    have HO:=Hd_ hown
    have hkm:IntKind.i64.wrap ((k:Int)-1)=(k:Int)-1:=by rw[IntKind.wrap_i64];omega
    clear hinv hE hown hst ho3
    cases bv with
    | false =>
      go_wp2
      go_roundw
      case rel=>exact⟨k,bs,by omega,by go_num,HO.out,HV.out.down (fun h=>by rw[hbk] at h;cases h),HE.out⟩
      case measure=>simp[intOf]
    | true =>
      have hkD:k<D.length:=by omega
      obtain⟨gn,cn,aL,cL,aR,cR,rfl,hN⟩:=hB'.out.FZ hkD
      have hX:Hid (∀ W,Ext w W→W.cell? ⟨pb,0,none⟩=some (.slice (some ⟨gn,0,none⟩) D.length cn)∧W.cell? ⟨gn,k*2,none⟩=some (.slice aL (D[k]).1.length cL)∧W.cell? ⟨gn,k*2+1,none⟩=some (.slice aR (D[k]).2.length cR) ∧
       Ints W (.slice aL (D[k]).1.length cL) (toZ (D[k]).1)∧Ints W (.slice aR (D[k]).2.length cR) (toZ (D[k]).2)):=hN
      clear hN
      go_wp2
      have hLl:(D[k]).1.length≤1152921504606846976:=by have:=(hX.out w (Below.refl _ _)).2.2.2.1;obtain⟨_,_,_,_,h,_⟩:=this;rw[aj] at h;exact h
      have hRl:(D[k]).2.length≤1152921504606846976:=by have:=(hX.out w (Below.refl _ _)).2.2.2.2;obtain⟨_,_,_,_,h,_⟩:=this;rw[aj] at h;exact h
      go_loopw [7] (fun ii wr=>∃ i bs,i≤(D[k]).1.length∧ii=.int .i64 (i:Int)∧wr.ownsRow w.heap.size 4 1 (.slice (some ⟨w.heap.size,0,none⟩) (root+1) (root+1)) (root+1) (bs.map Value.bool)∧RInv D root bs (k+1)∧bs[k]?=some true∧Hid (∀ j (h:j<(D[k]).1.length),j<i→bs[(D[k]).1[j]]?=some true)∧Ext w wr) (fun ii _=>(D[k]).1.length-(intOf ii).toNat)
      case atStart=>exact⟨0,bs,Nat.zero_le _,rfl,HO.out,HV.out,hbk,fun j _ h=>absurd h (by omega),HE.out⟩
      case round =>
       clear HO HV HE hck hbk
       obtain⟨i,bs,hi,rfl,hown,hinv,hbk,HP,hE⟩:=hrel
       obtain⟨x0,x1,x2,x3,x4⟩:=hX.out _ hE
       have HV:=Hd_ hinv
       have HE:=Hd_ hE
       have HO:=Hd_ hown
       by_cases hlt:i<(D[k]).1.length
       · obtain⟨b,off,rfl,hci⟩:=BU x3 hlt
         obtain⟨v1,v2,v3,v4⟩:=RInv.go hD.out (lq hkD) hinv hbk hlt HP.out
         have hxl:(D[k]).1[i]<root+1:=by have:=fH hD.out (show (D[k]).1[i]∈opt D true k by rw[lq hkD];exact List.getElem_mem hlt);omega
         obtain⟨bx,hbx⟩:∃ b,bs[(D[k]).1[i]]?=some b:=⟨_,List.getElem?_eq_getElem (by rw[hinv.len];omega)⟩
         have hcx:=sW hown hxl hbx
         have hfx:=hown.frozenAt ((D[k]).1[i])
         have V:=Hd_ v1
         have V3:=Hd_ v3
         have V4:=Hd_ v4
         clear hinv hE hown v1 v3 v4 x3 x4
         generalize hx:(D[k]).1[i]=x at *
         go_wp2
         go_roundw
         case rel=>exact⟨i+1,bs.set x true,by omega,by go_num,E9 HO.out _ _,V.out,v2,fun j hj hji=>V4.out j hj hji,HE.out.grown (HO.out.stored x (.bool true)).2 HE.out.size (fun k hk=>by injection hk with hk;omega)⟩
         case measure=>simp[intOf];omega
       · have hil:i=(D[k]).1.length:=by omega
         subst hil
         clear hinv hE hown
         go_wp2
         have HPL:Hid (∀ x,x∈opt D true k→bs[x]?=some true):=fun x hx=>by
          rw[lq hkD] at hx
          obtain⟨j,hj,rfl⟩:=List.mem_iff_getElem.1 hx
          exact HP.out j hj hj
         go_loopw [8] (fun ii wr=>∃ i bs,i≤(D[k]).2.length∧ii=.int .i64 (i:Int)∧wr.ownsRow w.heap.size 4 1 (.slice (some ⟨w.heap.size,0,none⟩) (root+1) (root+1)) (root+1) (bs.map Value.bool)∧RInv D root bs (k+1)∧bs[k]?=some true∧Hid (∀ j (h:j<(D[k]).2.length),j<i→bs[(D[k]).2[j]]?=some true)∧Hid (∀ x,x∈opt D true k→bs[x]?=some true)∧Ext w wr) (fun ii _=>(D[k]).2.length-(intOf ii).toNat)
         case atStart=>exact⟨0,bs,Nat.zero_le _,rfl,HO.out,HV.out,hbk,fun j _ h=>absurd h (by omega),HPL,HE.out⟩
         case round =>
          clear HO HV HE hbk HP HPL x0 x1 x2 x3 x4
          obtain⟨i,bs,hi,rfl,hown,hinv,hbk,HP,HPL,hE⟩:=hrel
          obtain⟨x0,x1,x2,x3,x4⟩:=hX.out _ hE
          have HV:=Hd_ hinv
          have HE:=Hd_ hE
          have HO:=Hd_ hown
          by_cases hlt:i<(D[k]).2.length
          · obtain⟨b,off,rfl,hci⟩:=BU x4 hlt
            obtain⟨v1,v2,v3,v4⟩:=RInv.go hD.out (jZ hkD) hinv hbk hlt HP.out
            have hxl:(D[k]).2[i]<root+1:=by have:=fH hD.out (show (D[k]).2[i]∈opt D false k by rw[jZ hkD];exact List.getElem_mem hlt);omega
            obtain⟨bx,hbx⟩:∃ b,bs[(D[k]).2[i]]?=some b:=⟨_,List.getElem?_eq_getElem (by rw[hinv.len];omega)⟩
            have hcx:=sW hown hxl hbx
            have hfx:=hown.frozenAt ((D[k]).2[i])
            have V:=Hd_ v1
            have V3:=Hd_ v3
            have V4:=Hd_ v4
            clear hinv hE hown v1 v3 v4 x3 x4
            generalize hx:(D[k]).2[i]=x at *
            go_wp2
            go_roundw
            case rel=>exact⟨i+1,bs.set x true,by omega,by go_num,E9 HO.out _ _,V.out,v2,fun j hj hji=>V4.out j hj hji,fun y hy=>V3.out y (HPL.out y hy),HE.out.grown (HO.out.stored x (.bool true)).2 HE.out.size (fun k hk=>by injection hk with hk;omega)⟩
            case measure=>simp[intOf];omega
          · have hil:i=(D[k]).2.length:=by omega
            subst hil
            clear hinv hE hown
            go_wp2
            go_roundw
            case rel=>exact⟨k,bs,by omega,by go_num,HO.out,HV.out.down (fun _ side x hx=>by
             cases side
             · rw[jZ hkD] at hx
               obtain⟨j,hj,rfl⟩:=List.mem_iff_getElem.1 hx
               exact HP.out j hj hj
             · exact HPL.out x hx),HE.out⟩
            case measure=>simp[intOf]
end
section
open Cgt
def Xn (D:Dag) (at_:List Nat) (k:Nat):Nd:=(ai ((opt D true k).map fun x=>at_.getD x 0),ai ((opt D false k).map fun x=>at_.getD x 0))
structure fV (D:Dag) (root:Nat) (F:Dag) (idx at_:List Nat) (b:Nat):Prop where
 len:idx.length=F.length
 atl:at_.length=root+1
 nd:idx.Nodup
 mem:∀ j,j∈idx↔Cgt.Reach D root j∧born (vl D j)<b
 place:∀ i (h:i<idx.length),at_[idx[i]]?=some i
 node:∀ i (h:i<idx.length),F[i]?=some (Xn D at_ idx[i])
 sorted:idx.Pairwise (fun j k=>born (vl D j)<born (vl D k)∨born (vl D j)=born (vl D k)∧nc (Xn D at_ j) (Xn D at_ k)<0)
theorem jD {D:Dag} (hD:WF D) {side:Bool} {i x:Nat} (h:x∈opt D side i):born (vl D x)<born (vl D i):=by
 cases side
 · exact yT (vO hD h)
 · exact yU (vQ hD h)
theorem yj {D:Dag} (hD:WF D) {i j:Nat} (h:Cgt.Reach D i j):j=i∨born (vl D j)<born (vl D i):=by
 induction h with
 | here=>exact .inl rfl
 | @left j k nd _ hd hk ih =>
   have:=jD hD (show k∈opt D true j by simp[opt,hd];exact hk)
   rcases ih with rfl | h
   · exact .inr this
   · exact .inr (by omega)
 | @right j k nd _ hd hk ih =>
   have:=jD hD (show k∈opt D false j by simp[opt,hd];exact hk)
   rcases ih with rfl | h
   · exact .inr this
   · exact .inr (by omega)
theorem fV.pos {D:Dag} (hD:WF D) {root b:Nat} {F:Dag} {idx at_:List Nat} (h:fV D root F idx at_ b) {j x:Nat} {side:Bool} (hj:Cgt.Reach D root j) (hb:born (vl D j)≤b) (hx:x∈opt D side j) :
 ∃ p,∃ hp:p<idx.length,idx[p]=x∧at_.getD x 0=p:=by
 have hx1:=jD hD hx
 obtain⟨p,hp,e⟩:=List.mem_iff_getElem.1 ((h.mem x).2 ⟨qg hj hx,by omega⟩)
 refine⟨p,hp,e,?_⟩
 have:=h.place p hp
 rw[e] at this
 rw[List.getD_eq_getElem?_getD,this];rfl
theorem jQ {D:Dag} {at_:List Nat} {k:Nat} {y:Nat}:(y∈(Xn D at_ k).1↔∃ x,x∈opt D true k∧at_.getD x 0=y)∧(y∈(Xn D at_ k).2↔∃ x,x∈opt D false k∧at_.getD x 0=y):=by
 unfold Xn
 simp[aK]
theorem fV.inj {D:Dag} (g:Cgt.Good D) {root b:Nat} {F:Dag} {idx at_:List Nat} (h:fV D root F idx at_ b) {j k:Nat} (hj:Cgt.Reach D root j) (hjb:born (vl D j)≤b) (hk:Cgt.Reach D root k) (hkb:born (vl D k)≤b) (hjD:j<D.length) (hkD:k<D.length)
 (e:Xn D at_ j=Xn D at_ k):j=k:=by
 have key:∀ {j k:Nat},Cgt.Reach D root j→born (vl D j)≤b→Cgt.Reach D root k→born (vl D k)≤b→Xn D at_ j=Xn D at_ k→∀ side x,x∈opt D side j→x∈opt D side k:=by
  intro j k hj hjb hk hkb e side x hx
  obtain⟨p,hp,e1,e2⟩:=h.pos g.wf hj hjb hx
  have hm:∃ z,z∈opt D side k∧at_.getD z 0=p:=by
   cases side
   · have:p∈(Xn D at_ j).2:=jQ.2.2 ⟨x,hx,e2⟩
     rw[e] at this;exact jQ.2.1 this
   · have:p∈(Xn D at_ j).1:=jQ.1.2 ⟨x,hx,e2⟩
     rw[e] at this;exact jQ.1.1 this
  obtain⟨z,hz,ez⟩:=hm
  obtain⟨q,hq,e3,e4⟩:=h.pos g.wf hk hkb hz
  have:q=p:=by rw[← e4,ez]
  subst this
  rw[← e1,e3];exact hz
 have s1:=key hj hjb hk hkb e
 have s2:=key hk hkb hj hjb e.symm
 refine jY g j k hjD hkD ?_
 have dj:D[j]?=some D[j]:=List.getElem?_eq_getElem hjD
 have dk:D[k]?=some D[k]:=List.getElem?_eq_getElem hkD
 rw[jh g.wf dj,jh g.wf dk]
 rw[← lq hjD,← lq hkD,← jZ hjD,← jZ hkD]
 refine Ad (fun y=>?_) (fun y=>?_)
 · simp only[List.mem_map]
   exact⟨fun ⟨x,hx,e⟩=>⟨x,s1 true x hx,e⟩,fun ⟨x,hx,e⟩=>⟨x,s2 true x hx,e⟩⟩
 · simp only[List.mem_map]
   exact⟨fun ⟨x,hx,e⟩=>⟨x,s1 false x hx,e⟩,fun ⟨x,hx,e⟩=>⟨x,s2 false x hx,e⟩⟩
structure kS (D:Dag) (root:Nat) (at_:List Nat) (b:Nat) (from_:List Nat) (m:Nat):Prop where
 mem:∀ j,j∈from_↔j<m∧Cgt.Reach D root j∧born (vl D j)=b
 sorted:from_.Pairwise (fun j k=>nc (Xn D at_ j) (Xn D at_ k)<0)
theorem kS.start (D:Dag) (root:Nat) (at_:List Nat) (b:Nat):kS D root at_ b [] 0:=⟨by simp,List.Pairwise.nil⟩
theorem kS.skip {D:Dag} {root b m:Nat} {at_ from_:List Nat} (h:kS D root at_ b from_ m) (hn:¬ (Cgt.Reach D root m∧born (vl D m)=b)):kS D root at_ b from_ (m+1):=by
 refine⟨fun j=>?_,h.sorted⟩
 rw[h.mem]
 constructor
 · rintro⟨a,c⟩;exact⟨by omega,c⟩
 · rintro⟨a,c⟩
   refine⟨?_,c⟩
   rcases Nat.lt_or_ge j m with h1 | h1
   · exact h1
   · have:j=m:=by omega
     subst this;exact absurd c hn
theorem kS.nd {D:Dag} {root b m:Nat} {at_ from_:List Nat} (h:kS D root at_ b from_ m):from_.Nodup:=h.sorted.imp (fun {a c} h e=>by subst e;rw[zt] at h;omega)
theorem kS.put {D:Dag} (g:Cgt.Good D) {root b m i:Nat} {F:Dag} {idx at_ from_:List Nat} (hF:fV D root F idx at_ b) (hr:root<D.length) (h:kS D root at_ b from_ m) (hm:Cgt.Reach D root m) (hb:born (vl D m)=b)
 (hi:i≤from_.length) (h1:∀ j (hj:j<from_.length),j<i→nc (Xn D at_ from_[j]) (Xn D at_ m)<0) (h2:∀ hl:i<from_.length,¬ nc (Xn D at_ from_[i]) (Xn D at_ m)<0) :
 kS D root at_ b (from_.take i++m :: from_.drop i) (m+1):=by
 have hlt:∀ j,Cgt.Reach D root j→j<D.length:=fun j hj=>by have:=jd g.wf hj;omega
 refine⟨fun j=>?_,?_⟩
 · have e:j∈from_.take i++m :: from_.drop i↔j=m∨j∈from_:=by
    conv=>rhs;rw[← List.take_append_drop i from_]
    simp only[List.mem_append,List.mem_cons]
    constructor <;> (intro h;rcases h with h | h | h <;> simp[h])
   rw[e,h.mem]
   constructor
   · rintro(rfl | ⟨a,c⟩)
     · exact⟨by omega,hm,hb⟩
     · exact⟨by omega,c⟩
   · rintro⟨a,c⟩
     rcases Nat.lt_or_ge j m with h1 | h1
     · exact .inr ⟨h1,c⟩
     · exact .inl (by omega)
 · have hs:=h.sorted
   have hA:∀ x,x∈from_.take i→nc (Xn D at_ x) (Xn D at_ m)<0:=fun x hx=>by
    obtain⟨j,hj,rfl⟩:=List.mem_iff_getElem.1 hx
    rw[List.length_take] at hj
    rw[List.getElem_take]
    exact h1 j (by omega) (by omega)
   have hB:∀ x,x∈from_.drop i→nc (Xn D at_ m) (Xn D at_ x)<0:=fun x hx=>by
    obtain⟨j,hj,rfl⟩:=List.mem_iff_getElem.1 hx
    rw[List.length_drop] at hj
    rw[List.getElem_drop]
    have hil:i<from_.length:=by omega
    have h3:=h2 hil
    have hmem:=(h.mem from_[i]).1 (List.getElem_mem hil)
    have hne:nc (Xn D at_ from_[i]) (Xn D at_ m)≠0:=fun e0=>by
     have:=hF.inj g hmem.2.1 (by omega) hm (by omega) (hlt _ hmem.2.1) (hlt _ hm) (ry e0)
     omega
    have h4:nc (Xn D at_ m) (Xn D at_ from_[i])<0:=by rw[rz];omega
    by_cases e:j=0
    · subst e;exact h4
    · exact pE h4 (List.pairwise_iff_getElem.1 hs i (i+j) hil (by omega) (by omega))
   rw[List.pairwise_append]
   refine⟨hs.sublist (List.take_sublist _ _),?_,fun a ha c hc=>?_⟩
   · rw[List.pairwise_cons];exact⟨hB,hs.sublist (List.drop_sublist _ _)⟩
   · rcases List.mem_cons.1 hc with rfl | hc
     · exact hA a ha
     · exact pE (hA a ha) (hB c hc)
theorem Kj {D:Dag} {at1 at2:List Nat} {k:Nat} (h:∀ side x,x∈opt D side k→at1[x]?=at2[x]?):Xn D at1 k=Xn D at2 k:=by
 unfold Xn
 have e:∀ side,(opt D side k).map (fun x=>at1.getD x 0)=(opt D side k).map (fun x=>at2.getD x 0):=fun side=>List.map_congr_left fun x hx=>by
  rw[List.getD_eq_getElem?_getD,List.getD_eq_getElem?_getD,h side x hx]
 rw[e true,e false]
theorem fV.next {D:Dag} (g:Cgt.Good D) {root b:Nat} {F:Dag} {idx at_ at2 from_:List Nat} (h:fV D root F idx at_ b) (hL:kS D root at_ b from_ (root+1)) (hl:at2.length=root+1)
 (p1:∀ j (hj:j<from_.length),at2[from_[j]]?=some (F.length+j)) (p2:∀ y,y ∉ from_→at2[y]?=at_[y]?):fV D root (F++from_.map (Xn D at_)) (idx++from_) at2 (b+1):=by
 have hx:∀ j,born (vl D j)≤b→Xn D at2 j=Xn D at_ j:=fun j hj=>Kj fun side x hx=>p2 x fun hm=>by
  have h1:=((hL.mem x).1 hm).2.2
  have h2:=jD g.wf hx
  omega
 have hi:∀ j,j∈idx→born (vl D j)<b:=fun j hj=>((h.mem j).1 hj).2
 have hf:∀ j,j∈from_→born (vl D j)=b:=fun j hj=>((hL.mem j).1 hj).2.2
 have hd:∀ j,j∈idx→j ∉ from_:=fun j h1 h2=>by have:=hi j h1;have:=hf j h2;omega
 refine⟨by simp[h.len],hl,?_,fun j=>?_,fun i hlt=>?_,fun i hlt=>?_,?_⟩
 · rw[List.nodup_append]
   exact⟨h.nd,hL.nd,fun a ha c hc e=>by subst e;exact hd a ha hc⟩
 · rw[List.mem_append,h.mem,hL.mem]
   constructor
   · rintro(⟨a,c⟩ | ⟨a,c,d⟩)
     · exact⟨a,by omega⟩
     · exact⟨c,by omega⟩
   · rintro⟨a,c⟩
     by_cases e:born (vl D j)<b
     · exact .inl ⟨a,e⟩
     · exact .inr ⟨by have:=jd g.wf a;omega,a,by omega⟩
 · by_cases c:i<idx.length
   · rw[List.getElem_append_left c,p2 _ (hd _ (List.getElem_mem c))];exact h.place i c
   · rw[List.getElem_append_right (by omega)]
     rw[p1 _ (by simp at hlt;omega),← h.len]
     congr 1;omega
 · by_cases c:i<idx.length
   · rw[List.getElem_append_left c,List.getElem?_append_left (by rw[← h.len];exact c),hx _ (by have:=hi _ (List.getElem_mem c);omega)]
     exact h.node i c
   · rw[List.getElem_append_right (by omega),List.getElem?_append_right (by rw[← h.len];omega)]
     have hl2:i-idx.length<from_.length:=by simp at hlt;omega
     rw[hx _ (Nat.le_of_eq (hf _ (List.getElem_mem hl2)))]
     rw[← h.len];simp[hl2]
 · rw[List.pairwise_append]
   refine⟨?_,?_,fun a ha c hc=>?_⟩
   · refine List.Pairwise.imp_of_mem ?_ h.sorted
     intro a c ha hc hac
     rw[hx a (by have:=hi a ha;omega),hx c (by have:=hi c hc;omega)];exact hac
   · refine List.Pairwise.imp_of_mem ?_ hL.sorted
     intro a c ha hc hac
     rw[hx a (Nat.le_of_eq (hf a ha)),hx c (Nat.le_of_eq (hf c hc))]
     exact .inr ⟨by rw[hf a ha,hf c hc],hac⟩
   · exact .inl (by have:=hi a ha;have:=hf c hc;omega)
theorem fV.start (D:Dag) (root:Nat):fV D root [] [] (List.replicate (root+1) 0) 0 :=
 ⟨rfl,by simp,List.nodup_nil,by simp,by simp,by simp,List.Pairwise.nil⟩
theorem fV.wf {D:Dag} (g:Cgt.Good D) {root b:Nat} {F:Dag} {idx at_:List Nat} (h:fV D root F idx at_ b):WF F:=by
 intro i nd hi
 have hlt:i<idx.length:=by rw[h.len];exact(List.getElem?_eq_some_iff.1 hi).1
 have hn:=h.node i hlt
 rw[hi] at hn
 injection hn with hn
 have hm:=(h.mem _).1 (List.getElem_mem hlt)
 have key:∀ side x,x∈opt D side idx[i]→at_.getD x 0<i:=fun side x hx=>by
  obtain⟨p,hp,e1,e2⟩:=h.pos g.wf hm.1 (by omega) hx
  rw[e2]
  have hb:=jD g.wf hx
  rcases Nat.lt_trichotomy p i with c | c | c
  · exact c
  · subst c;rw[e1] at hb;omega
  · have:=List.pairwise_iff_getElem.1 h.sorted i p hlt hp c
    rw[e1] at this
    omega
 subst hn
 exact⟨fun k hk=>by obtain⟨x,hx,rfl⟩:=jQ.1.1 hk;exact key true x hx,fun k hk=>by obtain⟨x,hx,rfl⟩:=jQ.2.1 hk;exact key false x hx⟩
theorem fV.same {D:Dag} (g:Cgt.Good D) {root b:Nat} {F:Dag} {idx at_:List Nat} (hr:root<D.length) (h:fV D root F idx at_ b):∀ i (hi:i<idx.length),Same (vl F i) (vl D idx[i]):=by
 intro i
 induction i using Nat.strongRecOn with
 | _ i ih =>
   intro hi
   have hm:=(h.mem _).1 (List.getElem_mem hi)
   have hD:idx[i]<D.length:=by have:=jd g.wf hm.1;omega
   have dj:D[idx[i]]?=some D[idx[i]]:=List.getElem?_eq_getElem hD
   have hw:=h.wf g
   have hn:=h.node i hi
   rw[same_iff,ib hw hn,gZ hw hn,ib g.wf dj,gZ g.wf dj,← lq hD,← jZ hD]
   have key:∀ side x,x∈opt D side idx[i]→at_.getD x 0<i→Same (vl F (at_.getD x 0)) (vl D x):=fun side x hx hlt=>by
    obtain⟨p,hp,e1,e2⟩:=h.pos g.wf hm.1 (by omega) hx
    rw[e2] at hlt ⊢
    have:=ih p hlt hp
    rw[e1] at this;exact this
   have lt1:∀ x,x∈opt D true idx[i]→at_.getD x 0<i:=fun x hx=>(hw i _ hn).1 _ (jQ.1.2 ⟨x,hx,rfl⟩)
   have lt2:∀ x,x∈opt D false idx[i]→at_.getD x 0<i:=fun x hx=>(hw i _ hn).2 _ (jQ.2.2 ⟨x,hx,rfl⟩)
   refine⟨fun y hy=>?_,fun y hy=>?_,fun y hy=>?_,fun y hy=>?_⟩
   · obtain⟨k,hk,rfl⟩:=List.mem_map.1 hy
     obtain⟨x,hx,rfl⟩:=jQ.1.1 hk
     exact⟨_,List.mem_map_of_mem hx,key true x hx (lt1 x hx)⟩
   · obtain⟨x,hx,rfl⟩:=List.mem_map.1 hy
     exact⟨_,List.mem_map_of_mem (jQ.1.2 ⟨x,hx,rfl⟩),key true x hx (lt1 x hx)⟩
   · obtain⟨k,hk,rfl⟩:=List.mem_map.1 hy
     obtain⟨x,hx,rfl⟩:=jQ.2.1 hk
     exact⟨_,List.mem_map_of_mem hx,key false x hx (lt2 x hx)⟩
   · obtain⟨x,hx,rfl⟩:=List.mem_map.1 hy
     exact⟨_,List.mem_map_of_mem (jQ.2.2 ⟨x,hx,rfl⟩),key false x hx (lt2 x hx)⟩
theorem fV.ahead {D:Dag} (g:Cgt.Good D) {root b:Nat} {F:Dag} {idx at_:List Nat} (hr:root<D.length) (h:fV D root F idx at_ b):∀ i j,i<j→j<F.length→Ahead F i j:=by
 intro i j hij hj
 have hj':j<idx.length:=by rw[h.len];exact hj
 have hi':i<idx.length:=by omega
 have hs:=List.pairwise_iff_getElem.1 h.sorted i j hi' hj' hij
 have e1:=iy (h.same g hr i hi')
 have e2:=iy (h.same g hr j hj')
 have n1:F.getD i ([],[])=Xn D at_ idx[i]:=by rw[List.getD_eq_getElem?_getD,h.node i hi'];rfl
 have n2:F.getD j ([],[])=Xn D at_ idx[j]:=by rw[List.getD_eq_getElem?_getD,h.node j hj'];rfl
 unfold Ahead
 rw[e1,e2,n1,n2];exact hs
theorem fV.good {D:Dag} (g:Cgt.Good D) {root b:Nat} {F:Dag} {idx at_:List Nat} (hr:root<D.length) (h:fV D root F idx at_ b):Cgt.Good F:=by
 refine⟨h.wf g,?_,?_⟩
 · intro nd hnd
   obtain⟨i,hi0,e⟩:=List.mem_iff_getElem.1 hnd
   have hi:F[i]?=some nd:=by rw[List.getElem?_eq_getElem hi0,e]
   have hlt:i<idx.length:=by rw[h.len];exact hi0
   have hn:=h.node i hlt
   rw[hi] at hn
   injection hn with hn
   subst hn
   exact⟨fB _,fB _⟩
 · rw[List.Nodup,List.pairwise_iff_getElem]
   intro i j hi hj hij e
   have ha:=h.ahead g hr i j hij hj
   have hw:=h.wf g
   have v:vl F i=vl F j:=by
    rw[jh hw (List.getElem?_eq_getElem hi),jh hw (List.getElem?_eq_getElem hj),e]
   unfold Ahead at ha
   rw[v,oZ hi,oZ hj,e,zt] at ha
   omega
theorem fV.last {D:Dag} (g:Cgt.Good D) {root:Nat} {F:Dag} {idx at_:List Nat} (hr:root<D.length) (h:fV D root F idx at_ (born (vl D root)+1)):dH F∧Same (bE F) (vl D root):=by
 have hm:root∈idx:=(h.mem root).2 ⟨.here,by omega⟩
 obtain⟨p,hp,e⟩:=List.mem_iff_getElem.1 hm
 have hpl:p=F.length-1:=by
  rcases Nat.lt_or_ge p (F.length-1) with c | c
  · have hq:F.length-1<idx.length:=by rw[h.len];omega
    have hs:=List.pairwise_iff_getElem.1 h.sorted p (F.length-1) hp hq c
    have hm2:=(h.mem _).1 (List.getElem_mem hq)
    rw[e] at hs
    rcases yj g.wf hm2.1 with e2 | lt
    · have:=um h.nd hp hq (by rw[e,e2]);omega
    · omega
  · have:=h.len;omega
 have hlen:=h.len
 have hF:0<F.length:=by omega
 have hs:=h.same g hr p hp
 rw[e,hpl] at hs
 refine⟨⟨h.good g hr,List.ne_nil_of_length_pos hF,h.ahead g hr,fun i hi=>?_⟩,hs⟩
 have hi':i<idx.length:=by omega
 have hri:=((h.mem _).1 (List.getElem_mem hi')).1
 obtain⟨c,hc,rc,sc⟩:=oD g (h.good g hr) (a:=F.length-1) (by omega) (iw hs) hri
 have:i=c:=jY (h.good g hr) i c hi hc (gu (h.same g hr i hi') sc)
 rw[this];exact rc
end
end Go.Proofs.YteknjeohbcgpdaaGreatDoor