/-
  Memory of the reference's l5Sum. (4 texts.)
-/
import Derived.Test.YteknjeohbcgpdaaGreatDoorZ4
import Derived.Test.YteknjeohbcgpdaaGreatDoorZ17
import Derived.Test.YteknjeohbcgpdaaGreatDoorZ21
import Derived.Test.YteknjeohbcgpdaaGreatDoorZ22
set_option maxRecDepth 100000
namespace Go.Proofs.YteknjeohbcgpdaaGreatDoor
open Tryz
section
open Go.RowKit
open Cgt (Dag Nd vl Same)
def O6 (pb:Nat) (vn vb:Value) (D F:Dag) (w:World) (e:Ending) (w':World):Prop :=
 ∃ v' vn' vb' D' at_,e=.returned v'∧Ints w' v' (toZ at_)∧bu w' pb vn' vb' D'∧dz w w' pb vn vb D vn' vb' D'∧D'.length≤D.length+F.length∧at_.length=F.length∧(∀ i (h:i<at_.length),at_[i]<D'.length∧Same (vl D' at_[i]) (vl F i))
theorem yX {l at_:List Nat} {k n:Nat} (hl:∀ x,x∈l→x<k) (ha:at_.length=k) (hat:∀ i (h:i<at_.length),at_[i]<n):∀ x,x∈l.map (fun x=>at_.getD x 0)→x<n:=by
 intro x hx
 obtain⟨y,hy,rfl⟩:=List.mem_map.1 hx
 have:=hl y hy
 rw[List.getD_eq_getElem?_getD,List.getElem?_eq_getElem (by omega),Option.getD_some]
 exact hat y (by omega)
theorem KH {D D' F:Dag} {at_:List Nat} {k i:Nat} (g:Cgt.WF D) (g':Cgt.WF D') (hF:Cgt.WF F) (hk:k<F.length) (ha:at_.length=k) (hat:∀ i (h:i<at_.length),at_[i]<D.length∧Same (vl D at_[i]) (vl F i))
 (hp:eT D ((F[k]).1.map fun x=>at_.getD x 0) ((F[k]).2.map fun x=>at_.getD x 0) D' i):Same (vl D' i) (vl F k):=by
 have dk:F[k]?=some F[k]:=List.getElem?_eq_getElem hk
 have hw:=hF k _ dk
 have key:∀ x,x<k→at_.getD x 0<D.length∧Same (vl D' (at_.getD x 0)) (vl F x):=fun x hx=>by
  have e:at_.getD x 0=at_[x]'(by omega):=by rw[List.getD_eq_getElem?_getD,List.getElem?_eq_getElem (by omega)];rfl
  have h:=hat x (by omega)
  rw[e,hp.vl g g' h.1];exact h
 rw[Cgt.same_iff,Cgt.ib g' hp.1,Cgt.gZ g' hp.1,Cgt.ib hF dk,Cgt.gZ hF dk]
 refine⟨fun y hy=>?_,fun y hy=>?_,fun y hy=>?_,fun y hy=>?_⟩
 · obtain⟨x,hx,rfl⟩:=List.mem_map.1 hy
   obtain⟨z,hz,rfl⟩:=List.mem_map.1 (aK.1 hx)
   exact⟨_,List.mem_map_of_mem hz,(key z (hw.1 z hz)).2⟩
 · obtain⟨z,hz,rfl⟩:=List.mem_map.1 hy
   exact⟨_,List.mem_map_of_mem (aK.2 (List.mem_map_of_mem hz)),(key z (hw.1 z hz)).2⟩
 · obtain⟨x,hx,rfl⟩:=List.mem_map.1 hy
   obtain⟨z,hz,rfl⟩:=List.mem_map.1 (aK.1 hx)
   exact⟨_,List.mem_map_of_mem hz,(key z (hw.2 z hz)).2⟩
 · obtain⟨z,hz,rfl⟩:=List.mem_map.1 hy
   exact⟨_,List.mem_map_of_mem (aK.2 (List.mem_map_of_mem hz)),(key z (hw.2 z hz)).2⟩
theorem Jf {D D' F:Dag} {at_:List Nat} (g:Cgt.WF D) (g':Cgt.WF D') (h:∃ E,D'=D++E) (hat:∀ i (h:i<at_.length),at_[i]<D.length∧Same (vl D at_[i]) (vl F i)):∀ i (h:i<at_.length),at_[i]<D'.length∧Same (vl D' at_[i]) (vl F i):=by
 obtain⟨E,rfl⟩:=h
 intro i hi
 obtain⟨a,b⟩:=hat i hi
 exact⟨by simp;omega,by rw[Cgt.dV g g' _ a];exact b⟩
theorem pq {at_:List Nat} {i:Nat} {P:Nat→Nat→Prop} (h:∀ j (h:j<at_.length),P at_[j] j) (hi:P i at_.length):∀ j (h:j<(at_++[i]).length),P (at_++[i])[j] j:=by
 intro j hj
 by_cases c:j<at_.length
 · rw[List.getElem_append_left c];exact h j c
 · have e:j=at_.length:=by simp at hj;omega
   subst e
   rw[List.getElem_append_right (Nat.le_refl _)];simpa using hi
set_option maxHeartbeats 2000000 in
theorem O1 (pb:Nat) (vn vb:Value) (D:Dag) (vf:Value) (F:Dag) (w0 w:World) (hB:kz w0 w pb vn vb D) (hf:bP w0 0 vf F) (hF:Cgt.Good F) (hroom:D.length+F.length≤1000000) :
 Calls prog 182 #[.pointer (some ⟨pb,0,none⟩),.agg #[vf]] w (O6 pb vn vb D F w):=by
 obtain⟨i0,hi0,hz0,hz1,hz2⟩:=info_parts eO
 obtain⟨aF,fD,rfl,-⟩:=id hf
 have hGF:=Hd_ hF
 go_enter Tryz.func182,Tryz.ntmps182
 go_wp2
 have hE2:Ext w ((w.alloc (.cells #[.slice aF F.length fD] 28)).alloc (.cells #[] 3)):=by go_grown
 go_loopw [5,6] (fun av kk wr=>∃ k vn' vb' D' at_,k≤F.length∧kk=.int .i64 ((k:Nat):Int)∧at_.length=k∧wr.ownsRow w.heap.size 3 1 av k ((toZ at_).map (Value.int .i64))∧bu wr pb vn' vb' D'∧dz w wr pb vn vb D vn' vb' D'∧D'.length≤D.length+k ∧
  (∀ b,av.ownBlock=some b→w.heap.size≤b∧Beside wr pb vn' vb' D' b)∧wr.heap[w.heap.size]?=some (.cells #[.slice aF F.length fD] 28 (0,0))∧Beside wr pb vn' vb' D' w.heap.size∧av.ownBlock≠some w.heap.size∧Hid (∀ i (h:i<at_.length),at_[i]<D'.length∧Same (vl D' at_[i]) (vl F i))) (fun _ kk _=>F.length-(intOf kk).toNat)
 case atStart =>
  refine⟨0,vn,vb,D,[],Nat.zero_le _,rfl,rfl,ig w _ _ (Nat.le_refl _) _,hB.bk.ext hE2,dz.ext hB.bk hE2,Nat.le_refl _,fun b hb=>?_,?_,?_,?_,fun i h=>absurd h (by simp)⟩
  · simp[Value.ownBlock] at hb;subst hb
    exact⟨by omega,(Beside.new hB.bk (b:=w.heap.size+1) (by omega)).goE hB.bk hE2⟩
  · rw[Below.heap_alloc _ _ _ (by rw[sA_];omega)];exact heap_alloc_new _ _
  · exact(Beside.new hB.bk (Nat.le_refl _)).goE hB.bk hE2
  · simp[Value.ownBlock]
 case round =>
  obtain⟨k,vn1,vb1,D1,at_,hk,rfl,hal,hown,hB1,hG1,hD1,mq,dI,hbb,hne,HA⟩:=hrel
  have hBO:=hB.go hB1 hG1
  have TU:=cell_of_row wr w.heap.size 0 _ _ _ dI
  by_cases hlt:k<F.length
  · have hlt':((k:Nat):Int)<(F.length:Int):=by omega
    obtain⟨bF,cF,aL,cL,aR,cR,he,hcF,cl,cr,hIL,hIR⟩:=hf.at hlt
    simp only[Value.slice.injEq] at he
    obtain⟨rfl,-,rfl⟩:=he
    have gl:=nZ hGF.out hlt
    have hwk:=hGF.out.wf k _ (List.getElem?_eq_getElem hlt)
    have hSx:∀ W,Ext w0 W→W.heap[w.heap.size]?=some (.cells #[.slice (some ⟨bF,0,none⟩) F.length fD] 28 (0,0))→W.cell? ⟨w.heap.size,0,none⟩=some (.slice (some ⟨bF,0,none⟩) F.length fD)∧W.cell? ⟨bF,k*2,none⟩=some (.slice aL (F[k]).1.length cL)∧W.cell? ⟨bF,k*2+1,none⟩=some (.slice aR (F[k]).2.length cR) :=
     fun W h1 h2=>⟨cell_of_row W w.heap.size 0 _ _ _ h2,(h1.cell (lt_of_cell cl)).trans cl,(h1.cell (lt_of_cell cr)).trans cr⟩
    have hS0:=hSx wr hBO.ext dI
    obtain⟨aA,cA,rfl,hcA,_⟩:=az hown
    have hx0:Ext wr wr.drew:=⟨rfl,rfl,rfl,Nat.le_refl _,fun _ _=>rfl⟩
    have uP:=Ints.bG (l:=toZ at_) hown (by rw[aj];have:=hB1.small;omega)
    have xV:=Hd_ uP
    have HOWN:=Hd_ hown
    have HB1:=Hd_ hB1
    have HG1:=Hd_ hG1
    have HBO:=Hd_ hBO
    have zT:=Hd_ mq
    have qb:=Hd_ dI
    have HNE:=Hd_ hne
    have HAL:=Hd_ hal
    have HD1:=Hd_ hD1
    have HGL:=Hd_ gl
    have HWK:=Hd_ hwk
    have HIL:=Hd_ hIL
    have HIR:=Hd_ hIR
    clear hown hB1 hG1 hBO mq dI hne hal uP hIL hIR cl cr hcF hD1 gl hwk
    go_wp2_with fail
    refine fZ (fun W=>W.cell? ⟨w.heap.size,0,none⟩=some (.slice (some ⟨bF,0,none⟩) F.length fD)∧W.cell? ⟨bF,k*2,none⟩=some (.slice aL (F[k]).1.length cL)∧W.cell? ⟨bF,k*2+1,none⟩=some (.slice aR (F[k]).2.length cR)) [20,21] (by kernel_rfl) hS0 (fun hHeld=>?_)
    ((refine tkA (i:=0) hHeld ?_);(try simp only[nP]);(refine tkA (i:=1) hHeld ?_);(try simp only[nP]);(refine tkA (i:=2) hHeld ?_);(try simp only[nP]);(refine tkA (i:=3) hHeld ?_);(try simp only[nP]);(refine tkA (i:=4) hHeld ?_);(try simp only[nP]);(refine tkA (i:=5) hHeld ?_);(try simp only[nP]);(refine tkA (i:=6) hHeld ?_);(try simp only[nP]);(refine tkA (i:=7) hHeld ?_);(try simp only[nP]);(refine tkA (i:=8) hHeld ?_);(try simp only[nP]);(refine tkA (i:=10) hHeld ?_);(try simp only[nP]);(refine tkA (i:=11) hHeld ?_);(try simp only[nP]);(refine tkA (i:=12) hHeld ?_);(try simp only[nP]);(refine tkA (i:=13) hHeld ?_);(try simp only[nP]);(refine tkA (i:=14) hHeld ?_);(try simp only[nP]);(refine tkA (i:=15) hHeld ?_);(try simp only[nP]);(refine tkA (i:=16) hHeld ?_);(try simp only[nP]))
    (refine stA (i:=9) fun K hK=>?_;go_simp)
    have hlen1:(toZ (F[k]).1).length≤1000000000:=by rw[aj];have:=HGL.out.1;omega
    have qA:(toZ (F[k]).2).length≤1000000000:=by rw[aj];have:=HGL.out.2;omega
    have zK:∀ x,x∈toZ (F[k]).1→0≤x∧x<(toZ at_).length:=fun x hx=>by obtain⟨n,hn,rfl⟩:=iZ hx;have:=HWK.out.1 n hn;rw[aj,HAL.out];omega
    have uZ:∀ x,x∈toZ (F[k]).2→0≤x∧x<(toZ at_).length:=fun x hx=>by obtain⟨n,hn,rfl⟩:=iZ hx;have:=HWK.out.2 n hn;rw[aj,HAL.out];omega
    refine(je _ _ (toZ at_) (toZ (F[k]).1) _ (xV.out.ext hx0) (HIL.out.ext (aa HBO.out.ext hx0)) zK hlen1).mono ?_
    rintro e w1 ⟨v1,rfl,hI1,hx1⟩
    have pM:=aa hx0 hx1
    (refine hK.out _ _ (fun _=>?_) ?_)
    · exact hSx _ (aa HBO.out.ext pM) (by rw[pM.block _ (ah qb.out)];exact qb.out)
    clear hK K
    (try simp only[nP])
    (refine stA (i:=17) fun K hK=>?_;go_simp)
    refine(je _ _ (toZ at_) (toZ (F[k]).2) _ (xV.out.ext pM) (HIR.out.ext (aa HBO.out.ext pM)) uZ qA).mono ?_
    rintro e w2 ⟨v2,rfl,hI2,hx2⟩
    have jr:=aa pM hx2
    have oI:w2.heap[w.heap.size]?=some (.cells #[.slice (some ⟨bF,0,none⟩) F.length fD] 28 (0,0)):=by rw[jr.block _ (ah qb.out)];exact qb.out
    (refine hK.out _ _ (fun _=>?_) ?_)
    · exact hSx _ (aa HBO.out.ext jr) oI
    clear hK K
    (try simp only[nP])
    have xN:=hI1.ext hx2
    rw[wy] at xN hI2
    have hB2:=HB1.out.ext jr
    have CX:∀ i (h:i<at_.length),at_[i]<D1.length:=fun i h=>(HA.out i h).1
    have hG2:=HG1.out.trans (dz.ext HB1.out jr)
    have oJ:∀ b,Value.ownBlock (.slice aA k cA)=some b→w.heap.size≤b∧Beside w2 pb vn1 vb1 D1 b:=fun b hb=>⟨(zT.out b hb).1,(zT.out b hb).2.goE HB1.out jr⟩
    have xK:=hbb.goE HB1.out jr
    have hown2:=aJ HOWN.out jr
    (refine stA (i:=18) fun K hK=>?_;go_simp)
    refine(oQ pb vn1 vb1 D1 _ _ _ _ _ hB2 xN hI2 (yX HWK.out.1 HAL.out CX) (yX HWK.out.2 HAL.out CX) (by simp;have:=HGL.out.1;omega) (by simp;have:=HGL.out.2;omega) (by have:=HD1.out;omega)).mono ?_
    rintro e w3 ⟨vn2,vb2,D2,i2,rfl,hB3,hK3,hS3,hQ3,hP3⟩
    have dP:=dz.BX hK3 hS3 hQ3 hP3
    have jk:w3.heap[w.heap.size]?=some (.cells #[.slice (some ⟨bF,0,none⟩) F.length fD] 28 (0,0)):=by rw[hK3.block _ (ah oI) xK.ins];exact oI
    have hG3:=hG2.trans dP
    have qW:=hB.go hB3 hG3
    (refine hK.out _ _ (fun _=>?_) ?_)
    · exact hSx _ qW.ext jk
    clear hK K
    (try simp only[nP])
    (refine stA (i:=19) fun K hK=>?_;go_simp)
    have hx4:Ext w3 (w3.alloc (.cells #[.int .i64 ((i2:Nat):Int)] 3)):=by go_grown
    (refine hK.out _ _ (fun _=>?_) ?_)
    · exact hSx _ (aa qW.ext hx4) (by rw[hx4.block _ (ah jk)];exact jk)
    clear hK K
    (try simp only[nP])
    have hown3:=aI hown2 hK3 (fun b hb=>(oJ b hb).2.ins)
    have hzw:=hG3.keep.size
    refine tlA [20,21] [_,_] ?_
    refine aW rfl (.tmp 15) (.tmp 34) 80 rfl w.heap.size 3 i0 (.int .i64 0) 1 8 underlying80 hi0 hz0 hz1 hz2 rfl (by decide) (.slice aA k cA) k ((toZ at_).map (Value.int .i64)) rfl (aJ hown3 hx4) _ 1 _ [.int .i64 ((i2:Nat):Int)] rfl rfl (.inr ⟨_,rfl,bq (aO _ _ _)⟩) one_cell (by unfold maxLen;omega) (by omega) (by rw[sA_];omega) ?_
    intro v5 w5 ho5 hg5 hl5
    have kE:∀ b,Value.ownBlock (.slice aA k cA)=some b→w.heap.size≤b∧Beside w3 pb vn2 vb2 D2 b:=fun b hb=>⟨(oJ b hb).1,(oJ b hb).2.go (hown2.lt b hb).2 dP⟩
    have CV:=xK.go (ah oI) dP
    obtain⟨hB5,hG5,mo,hside⟩:=Beside.row hG3 hB3 kE hx4 hg5 hl5
    have CU:=hside _ CV
    have oH:w5.heap[w.heap.size]?=some (.cells #[.slice (some ⟨bF,0,none⟩) F.length fD] 28 (0,0)):=by
     rw[hg5.block _ (by rw[sA_];have:=ah jk;omega) (fun e=>HNE.out e.symm),hx4.block _ (ah jk)];exact jk
    have hne5:v5.ownBlock≠some w.heap.size:=by
     rcases hl5 with h | ⟨g,h,h2⟩
     · rw[h];exact HNE.out
     · rw[h];intro e;injection e with e;rw[sA_] at h2;have:=ah jk;omega
    have hlen:D2.length≤D.length+(k+1):=by have:=hP3.len;have:=HD1.out;omega
    have hsame:Hid (∀ j (h:j<(at_++[i2]).length),(at_++[i2])[j]<D2.length∧Same (vl D2 (at_++[i2])[j]) (vl F j)) :=
     pq (P:=fun a j=>a<D2.length∧Same (vl D2 a) (vl F j)) (Jf HB1.out.good.wf hB3.good.wf dP.more HA.out) ⟨hP3.lt,by rw[HAL.out];exact KH HB1.out.good.wf hB3.good.wf hGF.out.wf hlt HAL.out HA.out hP3⟩
    have H5:=Hd_ hB5
    have H6:=Hd_ hG5
    have H7:=Hd_ mo
    have H8:=Hd_ oH
    have H9:=Hd_ CU
    have H10:=Hd_ hne5
    have H11:=Hd_ ho5
    have H12:=Hd_ hlen
    clear hB5 hG5 mo oH CU hne5 ho5 hlen hg5 hl5 hside kE CV dP jk hG3 qW hx4 hown3 hB3 hK3 hS3 hQ3 oJ xK hown2 hG2 hB2 hHeld
    (try simp only[nP])
    go_wp2_with fail
    go_roundw
    case rel=>exact⟨k+1,vn2,vb2,D2,at_++[i2],by omega,by go_num,by rw[List.length_append,HAL.out];rfl,by simpa [toZ] using H11.out,H5.out,H6.out,H12.out,H7.out,H8.out,H9.out,H10.out,hsame⟩
    case measure=>simp[intOf];omega
  · have hke:k=F.length:=by omega
    have hlt':¬ (((k:Nat):Int)<(F.length:Int)):=by omega
    obtain⟨aA,cA,rfl,hcA,_⟩:=az hown
    have uP:=Ints.bG (l:=toZ at_) hown (by rw[aj];have:=hB1.small;omega)
    have xV:=Hd_ uP
    have HB1:=Hd_ hB1
    have HG1:=Hd_ hG1
    have HKE:=Hd_ hke
    clear hown hB1 hG1 mq dI hne uP hke
    go_wp2
    go_ret
    exact⟨_,vn1,vb1,D1,at_,rfl,xV.out,HB1.out,HG1.out,by have:=HKE.out;omega,by rw[hal];exact HKE.out,HA.out⟩
def MW (pb:Nat) (vn vb:Value) (D F:Dag) (w:World) (e:Ending) (w':World):Prop :=
 ∃ vn' vb' D' i,e=.returned (.int .i64 ((i:Nat):Int))∧bu w' pb vn' vb' D'∧dz w w' pb vn vb D vn' vb' D'∧D'.length≤D.length+F.length∧i<D'.length∧Same (vl D' i) (Cgt.bE F)
set_option maxHeartbeats 2000000 in
theorem wW (pb:Nat) (vn vb:Value) (D:Dag) (vf:Value) (F:Dag) (w0 w:World) (hB:kz w0 w pb vn vb D) (hf:bP w0 0 vf F) (hF:Cgt.Good F) (h0:0<F.length) (hroom:D.length+F.length≤1000000) :
 Calls prog 138 #[.pointer (some ⟨pb,0,none⟩),.agg #[vf]] w (MW pb vn vb D F w):=by
 obtain⟨aF,fD,rfl,-⟩:=id hf
 have hx:Ext w (w.alloc (.cells #[.slice aF F.length fD] 28)):=by go_grown
 have hB1:=hB.ext' hx
 go_enter Tryz.func138,Tryz.ntmps138
 have hwr:wrap64 ((F.length:Int)-1)=((F.length-1:Nat):Int):=by unfold wrap64;omega
 go_wp2_with (first
  | (go_at_call 182;refine(O1 pb vn vb D _ F w0 _ hB1 hf hF hroom).mono ?_;rintro e w1 ⟨v1,vn1,vb1,D1,at_,rfl,hI,hB2,hG2,hD2,hal,hat⟩
     have e9:(toZ at_).length=F.length:=by rw[aj,hal]
     obtain⟨a1,c1,rfl,hc1,hm1,hcell⟩:=hI
     rw[e9] at hc1 hm1 hcell ⊢
     obtain⟨b,off,rfl,hcc⟩:=hcell h0
     have hc2:=hcc (F.length-1) (by omega)
     rw[dN (by omega)] at hc2))
 go_ret
 have hlast:=hat (F.length-1) (by omega)
 exact⟨vn1,vb1,D1,_,rfl,hB2,(dz.ext hB.bk hx).trans hG2,hD2,hlast.1,hlast.2⟩
end
section
open Cgt
theorem MB {l r:List Nat} {f g:Nat→Gm} (hl:∀ x,x∈l→Eqv (f x) (g x)) (hr:∀ x,x∈r→Eqv (f x) (g x)):Eqv (.mk (l.map f) (r.map f)) (.mk (l.map g) (r.map g)):=by
 constructor
 · refine qE (fun y hy=>?_) (fun y hy=>?_)
   · obtain⟨x,hx,rfl⟩:=List.mem_map.1 hy;exact .inl ⟨g x,List.mem_map_of_mem hx,(hr x hx).1⟩
   · obtain⟨x,hx,rfl⟩:=List.mem_map.1 hy;exact .inl ⟨f x,List.mem_map_of_mem hx,(hl x hx).1⟩
 · refine qE (fun y hy=>?_) (fun y hy=>?_)
   · obtain⟨x,hx,rfl⟩:=List.mem_map.1 hy;exact .inl ⟨f x,List.mem_map_of_mem hx,(hr x hx).2⟩
   · obtain⟨x,hx,rfl⟩:=List.mem_map.1 hy;exact .inl ⟨g x,List.mem_map_of_mem hx,(hl x hx).2⟩
theorem OQ {n:Nat} {at_:List Nat} {R:Nat→Nat→Prop} (h:∀ i,i<n→∃ j,j∈at_∧R i j) (hu:∀ i i' j,i<n→i'<n→R i j→R i' j→i=i'):n≤at_.length:=by
 classical
 have h1:∀ i,∃ k,i<n→∃ hk:k<at_.length,R i at_[k]:=fun i=>by
  by_cases c:i<n
  · obtain⟨j,hj,hr⟩:=h i c
    obtain⟨k,hk,rfl⟩:=List.mem_iff_getElem.1 hj
    exact⟨k,fun _=>⟨hk,hr⟩⟩
  · exact⟨0,fun c'=>absurd c' c⟩
 have h2:((List.range n).map fun i=>Classical.choose (h1 i)).Nodup:=by
  rw[List.Nodup,List.pairwise_map]
  refine List.Pairwise.imp_of_mem (R:=fun a b=>a<b) ?_ List.pairwise_lt_range
  intro a b ha hb hab e
  have ha':=List.mem_range.1 ha
  have hb':=List.mem_range.1 hb
  obtain⟨k1,r1⟩:=Classical.choose_spec (h1 a) ha'
  obtain⟨k2,r2⟩:=Classical.choose_spec (h1 b) hb'
  have:a=b:=hu a b _ ha' hb' r1 (by simp only[e];exact r2)
  omega
 have h3:=fT (n:=at_.length) h2 (fun x hx=>by
  obtain⟨i,hi,rfl⟩:=List.mem_map.1 hx
  exact(Classical.choose_spec (h1 i) (List.mem_range.1 hi)).1)
 simpa using h3
theorem sQ {D F':Dag} {root:Nat} {at_:List Nat} (g:Cgt.Good D) (hr:root<D.length) (hF:dH F') (hs:Same (bE F') (vl D root)) (hroot:root∈at_) (hc:∀ j side x,j∈at_→x∈opt D side j→x∈at_):F'.length≤at_.length:=by
 have hin:∀ j,Cgt.Reach D root j→j∈at_:=by
  intro j h
  induction h with
  | here=>exact hroot
  | @left j k nd _ hd hk ih=>exact hc j true k ih (by simp[opt,hd];exact hk)
  | @right j k nd _ hd hk ih=>exact hc j false k ih (by simp[opt,hd];exact hk)
 refine OQ (R:=fun i j=>Same (vl F' i) (vl D j)) (fun i hi=>?_) (fun i i' j hi hi' h1 h2=>jY hF.good i i' hi hi' (gu h1 (iw h2)))
 obtain⟨j,_,rj,sj⟩:=oD hF.good g hr hs (hF.reach i hi)
 exact⟨j,hin j rj,sj⟩
structure qY (D F:Dag) (at_:List Nat):Prop where
 lt:∀ i (h:i<at_.length),at_[i]<D.length
 canon:∀ i (h:i<at_.length),Canon (vl D at_[i])
 eqv:∀ i (h:i<at_.length),Eqv (vl D at_[i]) (vl F i)
 shut:∀ j side x,j∈at_→x∈opt D side j→x∈at_
theorem qY.nil (F:Dag):qY [] F []:=⟨fun i h=>absurd h (by simp),fun i h=>absurd h (by simp),fun i h=>absurd h (by simp),by simp⟩
theorem qY.next {D D' F:Dag} {at_:List Nat} {k i:Nat} (g:Cgt.WF D) (g':Cgt.WF D') (hF:WF F) (hk:k<F.length) (ha:at_.length=k) (h:qY D F at_) (hE:∃ E,D'=D++E∧E.length≤3) (hi:i<D'.length) (hc:Canon (vl D' i))
 (he:Eqv (vl D' i) (.mk (((F[k]).1.map fun x=>at_.getD x 0).map (vl D)) (((F[k]).2.map fun x=>at_.getD x 0).map (vl D)))) (hw:Within D ((F[k]).1.map fun x=>at_.getD x 0) ((F[k]).2.map fun x=>at_.getD x 0) D' i):qY D' F (at_++[i]):=by
 obtain⟨E,rfl,_⟩:=hE
 have dk:F[k]?=some F[k]:=List.getElem?_eq_getElem hk
 have hwk:=hF k _ dk
 have key:∀ x,x<k→∃ hx:x<at_.length,at_.getD x 0=at_[x]:=fun x hx=>⟨by omega,by rw[List.getD_eq_getElem?_getD,List.getElem?_eq_getElem (by omega)];rfl⟩
 refine⟨pq (P:=fun a _=>a<(D++E).length) (fun j hj=>by have:=h.lt j hj;simp;omega) hi,pq (P:=fun a _=>Canon (vl (D++E) a)) (fun j hj=>by rw[dV g g' _ (h.lt j hj)];exact h.canon j hj) hc,
  pq (P:=fun a j=>Eqv (vl (D++E) a) (vl F j)) (fun j hj=>by rw[dV g g' _ (h.lt j hj)];exact h.eqv j hj) ?_,fun j side x hj hx=>?_⟩
 · rw[ha]
   refine he.trans ?_
   rw[jh hF dk,List.map_map,List.map_map]
   refine MB (fun x hx=>?_) (fun x hx=>?_)
   · obtain⟨hl,e⟩:=key x (hwk.1 x hx)
     show Eqv (vl D (at_.getD x 0)) _
     rw[e];exact h.eqv x hl
   · obtain⟨hl,e⟩:=key x (hwk.2 x hx)
     show Eqv (vl D (at_.getD x 0)) _
     rw[e];exact h.eqv x hl
 · have hm:∀ l:List Nat,(∀ x,x∈l→x<k)→∀ y,y∈l.map (fun x=>at_.getD x 0)→y∈at_:=fun l hl y hy=>by
    obtain⟨x,hx,rfl⟩:=List.mem_map.1 hy
    obtain⟨hl',e⟩:=key x (hl x hx)
    rw[e];exact List.getElem_mem hl'
   rcases List.mem_append.1 hj with hj | hj
   · have hlt:j<D.length:=by obtain⟨q,hq,rfl⟩:=List.mem_iff_getElem.1 hj;exact h.lt q hq
     rw[jT hlt] at hx
     exact List.mem_append_left _ (h.shut j side x hj hx)
   · obtain rfl:j=i:=by simpa using hj
     exact List.mem_append_left _ (hw (fun y=>y∈at_) (fun a sd y ha hy=>h.shut a sd y ha hy) (hm _ hwk.1) (hm _ hwk.2) side x hx)
theorem Dq {D:Dag} {at_:List Nat} {l:List Nat} {k:Nat} {F:Dag} (h:qY D F at_) (hl:∀ x,x∈l→x<k) (ha:at_.length=k):∀ x,x∈l.map (fun x=>at_.getD x 0)→Canon (vl D x):=by
 intro x hx
 obtain⟨y,hy,rfl⟩:=List.mem_map.1 hx
 have hlt:y<at_.length:=by have:=hl y hy;omega
 have e:at_.getD y 0=at_[y]:=by rw[List.getD_eq_getElem?_getD,List.getElem?_eq_getElem hlt];rfl
 rw[e];exact h.canon y hlt
end
section
open Go.RowKit
open Cgt (Dag Nd vl Same plus)
def jK (D F G:Dag) (at_:List Nat):Prop:=∀ m (h:m<at_.length),at_[m]<D.length∧∀ i k,m=i*G.length+k→k<G.length→Same (vl D at_[m]) (plus (vl F i) (vl G k))
def qO (F G:Dag) (at_:List Nat) (i k:Nat):List Nat:=((F.getD i ([],[])).1.map fun x=>at_.getD (x*G.length+k) 0)++(G.getD k ([],[])).1.map fun y=>at_.getD (i*G.length+y) 0
def qN (F G:Dag) (at_:List Nat) (i k:Nat):List Nat:=((F.getD i ([],[])).2.map fun x=>at_.getD (x*G.length+k) 0)++(G.getD k ([],[])).2.map fun y=>at_.getD (i*G.length+y) 0
theorem jK.nil (D F G:Dag):jK D F G []:=fun m h=>absurd h (by simp)
theorem jK.more {D D' F G:Dag} {at_:List Nat} (h:jK D F G at_) (g:Cgt.WF D) (g':Cgt.WF D') (hm:∃ E,D'=D++E):jK D' F G at_:=by
 obtain⟨E,rfl⟩:=hm
 intro m hm
 obtain⟨a,b⟩:=h m hm
 exact⟨by simp;omega,fun i k e hk=>by rw[Cgt.dV g g' _ a];exact b i k e hk⟩
theorem jK.at {D F G:Dag} {at_:List Nat} (h:jK D F G at_) {i k:Nat} (hk:k<G.length) (hm:i*G.length+k<at_.length):at_.getD (i*G.length+k) 0<D.length∧Same (vl D (at_.getD (i*G.length+k) 0)) (plus (vl F i) (vl G k)):=by
 rw[List.getD_eq_getElem?_getD,List.getElem?_eq_getElem hm,Option.getD_some]
 exact⟨(h _ hm).1,(h _ hm).2 i k rfl hk⟩
theorem jK.snoc {D F G:Dag} {at_:List Nat} {i k x:Nat} (h:jK D F G at_) (hl:at_.length=i*G.length+k) (hk:k<G.length) (hx:x<D.length) (hs:Same (vl D x) (plus (vl F i) (vl G k))):jK D F G (at_++[x]):=by
 intro m hm
 by_cases c:m<at_.length
 · rw[List.getElem_append_left c];exact h m c
 · have e:m=at_.length:=by simp at hm;omega
   subst e
   rw[List.getElem_append_right (Nat.le_refl _)]
   simp only[Nat.sub_self,List.getElem_cons_zero]
   refine⟨hx,fun i' k' e hk'=>?_⟩
   rw[hl] at e
   have e1:i=i':=by
    rcases Nat.lt_trichotomy i i' with q | q | q
    · have:=Nat.mul_le_mul_right G.length (show i+1≤i' from q);rw[Nat.succ_mul] at this;omega
    · exact q
    · have:=Nat.mul_le_mul_right G.length (show i'+1≤i from q);rw[Nat.succ_mul] at this;omega
   subst e1
   have e2:k=k':=by omega
   subst e2;exact hs
theorem oU {i k n h:Nat} (hi:i<h) (hk:k<n):i*n+k<h*n:=by
 have:=Nat.mul_le_mul_right n (show i+1≤h from hi)
 rw[Nat.succ_mul] at this;omega
theorem N8 {D F G:Dag} {at_:List Nat} {i k:Nat} (h:jK D F G at_) (hF:Cgt.WF F) (hG:Cgt.WF G) (hi:i<F.length) (hk:k<G.length) (hl:at_.length=i*G.length+k):(∀ x,x∈qO F G at_ i k→x<D.length)∧∀ x,x∈qN F G at_ i k→x<D.length:=by
 have dF:F[i]?=some F[i]:=List.getElem?_eq_getElem hi
 have dG:G[k]?=some G[k]:=List.getElem?_eq_getElem hk
 have wF:=hF i _ dF
 have wG:=hG k _ dG
 have eF:F.getD i ([],[])=F[i]:=by rw[List.getD_eq_getElem?_getD,dF];rfl
 have eG:G.getD k ([],[])=G[k]:=by rw[List.getD_eq_getElem?_getD,dG];rfl
 have kF:∀ x,x<i→at_.getD (x*G.length+k) 0<D.length:=fun x hx=>(h.at hk (by rw[hl];have:=oU hx hk;omega)).1
 have kG:∀ y,y<k→at_.getD (i*G.length+y) 0<D.length:=fun y hy=>(h.at (by omega) (by omega)).1
 refine⟨fun x hx=>?_,fun x hx=>?_⟩
 · unfold qO at hx;rw[eF,eG] at hx
   rcases List.mem_append.1 hx with hx | hx
   · obtain⟨y,hy,rfl⟩:=List.mem_map.1 hx;exact kF y (wF.1 y hy)
   · obtain⟨y,hy,rfl⟩:=List.mem_map.1 hx;exact kG y (wG.1 y hy)
 · unfold qN at hx;rw[eF,eG] at hx
   rcases List.mem_append.1 hx with hx | hx
   · obtain⟨y,hy,rfl⟩:=List.mem_map.1 hx;exact kF y (wF.2 y hy)
   · obtain⟨y,hy,rfl⟩:=List.mem_map.1 hx;exact kG y (wG.2 y hy)
theorem Kt {D D' F G:Dag} {at_:List Nat} {i k j:Nat} (g:Cgt.WF D) (g':Cgt.WF D') (hF:Cgt.WF F) (hG:Cgt.WF G) (hi:i<F.length) (hk:k<G.length) (h:jK D F G at_) (hl:at_.length=i*G.length+k)
 (hp:eT D (qO F G at_ i k) (qN F G at_ i k) D' j):Same (vl D' j) (plus (vl F i) (vl G k)):=by
 have dF:F[i]?=some F[i]:=List.getElem?_eq_getElem hi
 have dG:G[k]?=some G[k]:=List.getElem?_eq_getElem hk
 have wF:=hF i _ dF
 have wG:=hG k _ dG
 have eF:F.getD i ([],[])=F[i]:=by rw[List.getD_eq_getElem?_getD,dF];rfl
 have eG:G.getD k ([],[])=G[k]:=by rw[List.getD_eq_getElem?_getD,dG];rfl
 have kF:∀ x,x<i→Same (vl D' (at_.getD (x*G.length+k) 0)) (plus (vl F x) (vl G k)):=fun x hx=>by
  have:=h.at (i:=x) hk (by rw[hl];have:=oU hx hk;omega)
  rw[hp.vl g g' this.1];exact this.2
 have kG:∀ y,y<k→Same (vl D' (at_.getD (i*G.length+y) 0)) (plus (vl F i) (vl G y)):=fun y hy=>by
  have:=h.at (i:=i) (k:=y) (by omega) (by omega)
  rw[hp.vl g g' this.1];exact this.2
 rw[Cgt.same_iff,Cgt.ib g' hp.1,Cgt.gZ g' hp.1]
 refine⟨fun y hy=>?_,fun y hy=>?_,fun y hy=>?_,fun y hy=>?_⟩
 · obtain⟨x,hx,rfl⟩:=List.mem_map.1 hy
   have hx:=aK.1 hx
   unfold qO at hx;rw[eF,eG] at hx
   rcases List.mem_append.1 hx with hx | hx
   · obtain⟨z,hz,rfl⟩:=List.mem_map.1 hx
     exact⟨_,Cgt.fu.2 (.inl ⟨_,by rw[Cgt.ib hF dF];exact List.mem_map_of_mem hz,rfl⟩),kF z (wF.1 z hz)⟩
   · obtain⟨z,hz,rfl⟩:=List.mem_map.1 hx
     exact⟨_,Cgt.fu.2 (.inr ⟨_,by rw[Cgt.ib hG dG];exact List.mem_map_of_mem hz,rfl⟩),kG z (wG.1 z hz)⟩
 · rcases Cgt.fu.1 hy with ⟨u,hu,rfl⟩ | ⟨u,hu,rfl⟩
   · rw[Cgt.ib hF dF] at hu
     obtain⟨z,hz,rfl⟩:=List.mem_map.1 hu
     exact⟨_,List.mem_map_of_mem (aK.2 (by unfold qO;rw[eF,eG];exact List.mem_append.2 (.inl (List.mem_map_of_mem hz)))),kF z (wF.1 z hz)⟩
   · rw[Cgt.ib hG dG] at hu
     obtain⟨z,hz,rfl⟩:=List.mem_map.1 hu
     exact⟨_,List.mem_map_of_mem (aK.2 (by unfold qO;rw[eF,eG];exact List.mem_append.2 (.inr (List.mem_map_of_mem hz)))),kG z (wG.1 z hz)⟩
 · obtain⟨x,hx,rfl⟩:=List.mem_map.1 hy
   have hx:=aK.1 hx
   unfold qN at hx;rw[eF,eG] at hx
   rcases List.mem_append.1 hx with hx | hx
   · obtain⟨z,hz,rfl⟩:=List.mem_map.1 hx
     exact⟨_,Cgt.fq.2 (.inl ⟨_,by rw[Cgt.gZ hF dF];exact List.mem_map_of_mem hz,rfl⟩),kF z (wF.2 z hz)⟩
   · obtain⟨z,hz,rfl⟩:=List.mem_map.1 hx
     exact⟨_,Cgt.fq.2 (.inr ⟨_,by rw[Cgt.gZ hG dG];exact List.mem_map_of_mem hz,rfl⟩),kG z (wG.2 z hz)⟩
 · rcases Cgt.fq.1 hy with ⟨u,hu,rfl⟩ | ⟨u,hu,rfl⟩
   · rw[Cgt.gZ hF dF] at hu
     obtain⟨z,hz,rfl⟩:=List.mem_map.1 hu
     exact⟨_,List.mem_map_of_mem (aK.2 (by unfold qN;rw[eF,eG];exact List.mem_append.2 (.inl (List.mem_map_of_mem hz)))),kF z (wF.2 z hz)⟩
   · rw[Cgt.gZ hG dG] at hu
     obtain⟨z,hz,rfl⟩:=List.mem_map.1 hu
     exact⟨_,List.mem_map_of_mem (aK.2 (by unfold qN;rw[eF,eG];exact List.mem_append.2 (.inr (List.mem_map_of_mem hz)))),kG z (wG.2 z hz)⟩
end
section
open Go.RowKit
open Cgt (Dag Nd vl Same plus)
structure LR (wo wr:World) (lv rv:Value) (l r:List Nat):Prop where
 el:wr.ownsRow wo.heap.size 3 1 lv l.length ((toZ l).map (Value.int .i64))
 er:wr.ownsRow wo.heap.size 3 1 rv r.length ((toZ r).map (Value.int .i64))
 ap:∀ b,lv.ownBlock=some b→rv.ownBlock≠some b
 ext:Ext wo wr
theorem LR.drew {wo wr w2:World} {lv rv:Value} {l r:List Nat} (h:LR wo wr lv rv l r) (hx:Ext wr w2):LR wo w2 lv rv l r:=⟨aJ h.el hx,aJ h.er hx,h.ap,aa h.ext hx⟩
theorem LR.Pd {wo wr w5:World} {lv rv v5:Value} {l r:List Nat} {x:Nat} {X:Obj} (h:LR wo wr lv rv l r) (ho:w5.ownsRow wo.heap.size 3 1 v5 (l.length+1) ((toZ l).map (Value.int .i64)++[.int .i64 ((x:Nat):Int)])) (hg:(wr.alloc X).grownBy w5 lv.ownBlock) (hl:eU (wr.alloc X) lv v5):LR wo w5 v5 rv (l++[x]) r:=by
 have hz:(wr.alloc X).heap.size=wr.heap.size+1:=sA_ _ _
 have hk:bg (fun b=>lv.ownBlock=some b) (wr.alloc X) w5:=⟨hg.os,hg.tape,hg.output,hg.size,fun k hk hn=>hg.block k hk (fun e=>hn e.symm)⟩
 refine⟨by rw[List.length_append];simpa [toZ] using ho,aI (h.er.alloc X) hk (fun b hb e=>h.ap b e hb),fun b hb e=>?_,aV (aM h.ext X) hg (fun k hk=>(h.el.lt k hk).1)⟩
 rcases hl with q | ⟨c,q,k⟩
 · exact h.ap b (by rw[← q];exact hb) e
 · rw[q] at hb;injection hb with hb
   have:=(h.er.lt b e).2;omega
theorem LR.Pb {wo wr w5:World} {lv rv v5:Value} {l r:List Nat} {x:Nat} {X:Obj} (h:LR wo wr lv rv l r) (ho:w5.ownsRow wo.heap.size 3 1 v5 (r.length+1) ((toZ r).map (Value.int .i64)++[.int .i64 ((x:Nat):Int)])) (hg:(wr.alloc X).grownBy w5 rv.ownBlock) (hl:eU (wr.alloc X) rv v5):LR wo w5 lv v5 l (r++[x]):=by
 have hz:(wr.alloc X).heap.size=wr.heap.size+1:=sA_ _ _
 have hk:bg (fun b=>rv.ownBlock=some b) (wr.alloc X) w5:=⟨hg.os,hg.tape,hg.output,hg.size,fun k hk hn=>hg.block k hk (fun e=>hn e.symm)⟩
 refine⟨aI (h.el.alloc X) hk (fun b hb e=>h.ap b hb e),by rw[List.length_append];simpa [toZ] using ho,fun b hb e=>?_,aV (aM h.ext X) hg (fun k hk=>(h.er.lt k hk).1)⟩
 rcases hl with q | ⟨c,q,k⟩
 · exact h.ap b hb (by rw[← q];exact e)
 · rw[q] at e;injection e with e
   have:=(h.el.lt b hb).2;omega
structure SM (w we wr:World) (vf vg av vn vb:Value) (D:Dag) (at_:List Nat):Prop where
 bk:bu wr (w.heap.size+3) vn vb D
 go:dz we wr (w.heap.size+3) (.slice none 0 0) (.slice none 0 0) [] vn vb D
 b0:wr.heap[w.heap.size]?=some (.cells #[vf] 28 (0,0))
 b1:wr.heap[w.heap.size+1]?=some (.cells #[vg] 28 (0,0))
 b2:wr.heap[w.heap.size+2]?=some (.cells #[.slice none 0 0] 28 (0,0))
 own:wr.ownsRow we.heap.size 3 1 av at_.length ((toZ at_).map (Value.int .i64))
 sep:∀ b,av.ownBlock=some b→we.heap.size≤b∧Beside wr (w.heap.size+3) vn vb D b
 side:∀ b,b<w.heap.size+3→Beside wr (w.heap.size+3) vn vb D b
 ext:Ext w wr
 len:D.length≤at_.length
section
variable {w we wr w2:World} {vf vg av vn vb:Value} {D:Dag} {at_:List Nat}
theorem SM.ext' (m:SM w we wr vf vg av vn vb D at_) (hx:Ext wr w2):SM w we w2 vf vg av vn vb D at_ :=
 ⟨m.bk.ext hx,m.go.trans (dz.ext m.bk hx),(hx.block _ (ah m.b0)).trans m.b0,(hx.block _ (ah m.b1)).trans m.b1,(hx.block _ (ah m.b2)).trans m.b2,aJ m.own hx,fun b hb=>⟨(m.sep b hb).1,(m.sep b hb).2.goE m.bk hx⟩,fun b hb=>(m.side b hb).goE m.bk hx,aa m.ext hx,m.len⟩
theorem SM.push {w3 w5:World} {l r:List Nat} {i2:Nat} {vn2 vb2 v5:Value} {D2:Dag} {X:Obj} (m:SM w we wr vf vg av vn vb D at_)
 (hB3:bu w3 (w.heap.size+3) vn2 vb2 D2) (hgo:dz wr w3 (w.heap.size+3) vn vb D vn2 vb2 D2) (hP:eT D l r D2 i2) (hzw:w.heap.size+3<we.heap.size)
 (ho:w5.ownsRow we.heap.size 3 1 v5 (at_.length+1) ((toZ at_).map (Value.int .i64)++[.int .i64 ((i2:Nat):Int)])) (hg:(w3.alloc X).grownBy w5 av.ownBlock) (hl:eU (w3.alloc X) av v5):SM w we w5 vf vg v5 vn2 vb2 D2 (at_++[i2]):=by
 have hx4:Ext w3 (w3.alloc X):=aM (Below.refl _ _) _
 have hz4:(w3.alloc X).heap.size=w3.heap.size+1:=sA_ _ _
 have hz3:=hgo.keep.size
 have hG3:=m.go.trans hgo
 have hs3:∀ b,av.ownBlock=some b→we.heap.size≤b∧Beside w3 (w.heap.size+3) vn2 vb2 D2 b:=fun b hb=>⟨(m.sep b hb).1,(m.sep b hb).2.go (m.own.lt b hb).2 hgo⟩
 obtain⟨hB5,hG5,mo,hside⟩:=Beside.row hG3 hB3 hs3 hx4 hg hl
 have Gb:∀ b v T,b<w.heap.size+3→wr.heap[b]?=some (.cells #[v] T (0,0))→w5.heap[b]?=some (.cells #[v] T (0,0)):=fun b v T hb h=>by
  have hbl:=ah h
  rw[hg.block b (by omega) (fun e=>by have:=(m.sep b e.symm).1;omega),hx4.block b (by omega),hgo.keep.block b hbl (m.side b hb).ins];exact h
 have hlen:=hP.len
 refine⟨hB5,hG5,Gb _ _ _ (by omega) m.b0,Gb _ _ _ (by omega) m.b1,Gb _ _ _ (by omega) m.b2,by rw[List.length_append];simpa [toZ] using ho,mo,fun b hb=>hside _ ((m.side b hb).go (by have:=m.go.keep.size;omega) hgo),?_,by rw[List.length_append];have:=m.len;simp;omega⟩
 have h1:Ext w w3:=iD m.ext hgo.keep fun b hb=>by
  have:=m.go.ins b hb
  rcases this with k | k
  · rcases k with k | k | k
    · omega
    · simp[Value.ownBlock] at k
    · simp[Value.ownBlock] at k
  · omega
 exact aV (aM h1 X) hg fun b hb=>by have:=(m.sep b hb).1;omega
end
end
end Go.Proofs.YteknjeohbcgpdaaGreatDoor