/-
  Contract of the reference's l6Canon.
-/
import Derived.Test.YteknjeohbcgpdaaGreatDoorZ23
set_option maxRecDepth 100000
namespace Go.Proofs.YteknjeohbcgpdaaGreatDoor
open Tryz
open Go.RowKit
open Cgt (Dag Nd vl Same Canon Eqv)
theorem oK {w:World} {pb:Nat} {t:TypeId} (h:w.heap[pb]?=some (.cells #[.slice none 0 0,.slice none 0 0] t (0,0))):bu w pb (.slice none 0 0) (.slice none 0 0) [] :=
 ⟨Cgt.Good.nil,by simp,⟨t,h⟩,⟨by simp,.inl ⟨rfl,rfl⟩⟩,⟨[],⟨by simp,.inl ⟨rfl,rfl⟩⟩,fun i h=>absurd h (by simp)⟩,by simp[Value.ownBlock],by simp[Value.ownBlock],by simp[Value.ownBlock]⟩
theorem bP.set {w:World} {base:Nat} {v:Value} {F:Dag} (h:bP w base v F) {p:Addr} (hp:p.block<base) (u:Value):bP (w.setCell p u) base v F:=by
 obtain⟨a,cap,rfl,h1,h2,h3⟩:=h
 refine⟨a,cap,rfl,h1,h2,fun h0=>?_⟩
 obtain⟨b,rfl,hb,hc⟩:=h3 h0
 refine⟨b,rfl,hb,fun i hi=>?_⟩
 obtain⟨L,R,c1,c2,c3,c4,c5,c6⟩:=hc i hi
 have e:∀ k,base≤k→(w.setCell p u).heap[k]?=w.heap[k]?:=fun k hk=>heap_setCell_other _ _ _ _ (by omega)
 exact⟨L,R,by rw[World.cell?_of_block (w:=w) (e b hb)];exact c1,by rw[World.cell?_of_block (w:=w) (e b hb)];exact c2,c3.keep (fun b hl hb'=>e b (c5 b hb').1),c4.keep (fun b hl hb'=>e b (c6 b hb').1),by simpa using c5,by simpa using c6⟩
def Kb (F:Dag) (w:World) (e:Ending) (w':World):Prop :=
 ∃ vN F' g,e=.returned (.agg #[vN])∧bP w' w.heap.size vN F'∧Cgt.dH F'∧Same (Cgt.bE F') g∧Canon g∧Eqv g (Cgt.bE F)∧F'.length≤F.length∧Ext w w'
set_option maxHeartbeats 2000000 in
theorem nJ (vf:Value) (F:Dag) (w:World) (hf:bP w 0 vf F) (hF:Cgt.Good F) (h0:0<F.length) (hroom:3*F.length≤1000000) :
 Calls prog 78 #[.agg #[vf]] w (Kb F w):=by
 obtain⟨i0,hi0,hz0,hz1,hz2⟩:=info_parts eO
 obtain⟨aF,fD,rfl,-⟩:=id hf
 have hGF:=Hd_ hF
 go_enter Tryz.func78,Tryz.ntmps78
 go_wp2
 obtain⟨we,hwe⟩:∃ we,we=((w.alloc (.cells #[.slice aF F.length fD] 28)).alloc (.cells #[.slice none 0 0] 28)).alloc (.cells #[.slice none 0 0,.slice none 0 0] 157):=⟨_,rfl⟩
 have hze:we.heap.size=w.heap.size+3:=by rw[hwe];simp
 have hb0:we.heap[w.heap.size]?=some (.cells #[.slice aF F.length fD] 28 (0,0)):=by
  rw[hwe,Below.heap_alloc _ _ _ (by simp;omega),Below.heap_alloc _ _ _ (by simp)];exact heap_alloc_new _ _
 have hb1:we.heap[w.heap.size+1]?=some (.cells #[.slice none 0 0] 28 (0,0)):=by
  rw[hwe,Below.heap_alloc _ _ _ (by simp)];have h:=heap_alloc_new (w.alloc (.cells #[.slice aF F.length fD] 28)) (.cells #[.slice none 0 0] 28);rw[sA_] at h;exact h
 have hb2:we.heap[w.heap.size+1+1]?=some (.cells #[.slice none 0 0,.slice none 0 0] 157 (0,0)):=by
  rw[hwe];have h:=heap_alloc_new ((w.alloc (.cells #[.slice aF F.length fD] 28)).alloc (.cells #[.slice none 0 0] 28)) (.cells #[.slice none 0 0,.slice none 0 0] 157);rw[sA_,sA_] at h;exact h
 have hxe:Ext w we:=by rw[hwe];go_grown
 have hBe:bu we (w.heap.size+1+1) (.slice none 0 0) (.slice none 0 0) []:=oK hb2
 have hB:kz w we (w.heap.size+1+1) (.slice none 0 0) (.slice none 0 0) []:=⟨hBe,fun b hb=>by
  rcases hb with h | h | h
  · omega
  · simp[Value.ownBlock] at h
  · simp[Value.ownBlock] at h,hxe⟩
 have hsd:∀ b,b<w.heap.size+2→Beside we (w.heap.size+1+1) (.slice none 0 0) (.slice none 0 0) [] b:=fun b hb=>⟨fun k=>by
  rcases k with h | h | h
  · omega
  · simp[Value.ownBlock] at h
  · simp[Value.ownBlock] at h,fun ⟨i,g,cap,v,hi,_⟩=>by simp at hi⟩
 rw[← hwe]
 have hxa:Ext we (we.alloc (.cells #[] 3)):=by go_grown
 have Cx:w.heap.size+1+1+1=we.heap.size:=by omega
 rw[Cx]
 have hzl:w.heap.size+2<we.heap.size:=by omega
 clear hwe hze Cx
 go_loopw [4,5] (fun av kk wr=>∃ k vn' vb' D' at_,k≤F.length∧kk=.int .i64 ((k:Nat):Int)∧at_.length=k∧wr.ownsRow we.heap.size 3 1 av k ((toZ at_).map (Value.int .i64))∧bu wr (w.heap.size+1+1) vn' vb' D'∧dz we wr (w.heap.size+1+1) (.slice none 0 0) (.slice none 0 0) [] vn' vb' D'∧D'.length≤3*k ∧
  (∀ b,av.ownBlock=some b→we.heap.size≤b∧Beside wr (w.heap.size+1+1) vn' vb' D' b)∧wr.heap[w.heap.size]?=some (.cells #[.slice aF F.length fD] 28 (0,0))∧Beside wr (w.heap.size+1+1) vn' vb' D' w.heap.size∧wr.heap[w.heap.size+1]?=some (.cells #[.slice none 0 0] 28 (0,0))∧Beside wr (w.heap.size+1+1) vn' vb' D' (w.heap.size+1)∧Hid (qY D' F at_)) (fun _ kk _=>F.length-(intOf kk).toNat)
 case atStart =>
  refine⟨0,_,_,[],[],Nat.zero_le _,rfl,rfl,dD we _ (Nat.le_refl _) _,hBe.ext hxa,dz.ext hBe hxa,Nat.le_refl _,fun b hb=>?_,?_,?_,?_,?_,qY.nil F⟩
  · simp[Value.ownBlock] at hb;subst hb
    exact⟨Nat.le_refl _,(Beside.new hBe (b:=we.heap.size) (Nat.le_refl _)).goE hBe hxa⟩
  · rw[hxa.block _ (by omega)];exact hb0
  · exact(hsd _ (by omega)).goE hBe hxa
  · rw[hxa.block _ (by omega)];exact hb1
  · exact(hsd _ (by omega)).goE hBe hxa
 case round =>
  obtain⟨k,vn1,vb1,D1,at_,hk,rfl,hal,hown,hB1,hG1,hD1,mq,dI,hbb,hres,hrb,HA⟩:=hrel
  have hBO:=hB.go hB1 hG1
  have TU:=cell_of_row wr w.heap.size 0 _ _ _ dI
  by_cases hlt:k<F.length
  · have hlt':((k:Nat):Int)<(F.length:Int):=by omega
    obtain⟨bF,cF,aL,cL,aR,cR,he,hcF,cl,cr,hIL,hIR⟩:=hf.at hlt
    simp only[Value.slice.injEq] at he
    obtain⟨rfl,-,rfl⟩:=he
    have gl:=nZ hGF.out hlt
    have hwk:=hGF.out.wf k _ (List.getElem?_eq_getElem hlt)
    have hSx:∀ W,Ext w W→W.heap[w.heap.size]?=some (.cells #[.slice (some ⟨bF,0,none⟩) F.length fD] 28 (0,0))→W.cell? ⟨w.heap.size,0,none⟩=some (.slice (some ⟨bF,0,none⟩) F.length fD)∧W.cell? ⟨bF,k*2,none⟩=some (.slice aL (F[k]).1.length cL)∧W.cell? ⟨bF,k*2+1,none⟩=some (.slice aR (F[k]).2.length cR) :=
     fun W h1 h2=>⟨cell_of_row W w.heap.size 0 _ _ _ h2,(h1.cell (lt_of_cell cl)).trans cl,(h1.cell (lt_of_cell cr)).trans cr⟩
    have hS0:=hSx wr hBO.ext dI
    obtain⟨aA,cA,rfl,hcA,_⟩:=az hown
    have hx0:Ext wr wr.drew:=⟨rfl,rfl,rfl,Nat.le_refl _,fun _ _=>rfl⟩
    have uP:=Ints.bG (l:=toZ at_) hown (by rw[aj];have:=hB1.small;omega)
    have xV:=Hd_ uP
    have HOWN:=Hd_ hown
    have HB1:=Hd_ hB1
    have HG1:=Hd_ hG1
    have HBO:=Hd_ hBO
    have zT:=Hd_ mq
    have qb:=Hd_ dI
    have zS:=Hd_ hres
    have HAL:=Hd_ hal
    have HD1:=Hd_ hD1
    have HGL:=Hd_ gl
    have HWK:=Hd_ hwk
    have HIL:=Hd_ hIL
    have HIR:=Hd_ hIR
    clear hown hB1 hG1 hBO mq dI hres hal uP hIL hIR cl cr hcF hD1 gl hwk
    go_wp2_with fail
    refine fZ (fun W=>W.cell? ⟨w.heap.size,0,none⟩=some (.slice (some ⟨bF,0,none⟩) F.length fD)∧W.cell? ⟨bF,k*2,none⟩=some (.slice aL (F[k]).1.length cL)∧W.cell? ⟨bF,k*2+1,none⟩=some (.slice aR (F[k]).2.length cR)) [20,21] (by kernel_rfl) hS0 (fun hHeld=>?_)
    ((refine tkA (i:=0) hHeld ?_);(try simp only[nP]);(refine tkA (i:=1) hHeld ?_);(try simp only[nP]);(refine tkA (i:=2) hHeld ?_);(try simp only[nP]);(refine tkA (i:=3) hHeld ?_);(try simp only[nP]);(refine tkA (i:=4) hHeld ?_);(try simp only[nP]);(refine tkA (i:=5) hHeld ?_);(try simp only[nP]);(refine tkA (i:=6) hHeld ?_);(try simp only[nP]);(refine tkA (i:=7) hHeld ?_);(try simp only[nP]);(refine tkA (i:=8) hHeld ?_);(try simp only[nP]);(refine tkA (i:=10) hHeld ?_);(try simp only[nP]);(refine tkA (i:=11) hHeld ?_);(try simp only[nP]);(refine tkA (i:=12) hHeld ?_);(try simp only[nP]);(refine tkA (i:=13) hHeld ?_);(try simp only[nP]);(refine tkA (i:=14) hHeld ?_);(try simp only[nP]);(refine tkA (i:=15) hHeld ?_);(try simp only[nP]);(refine tkA (i:=16) hHeld ?_);(try simp only[nP]))
    (refine stA (i:=9) fun K hK=>?_;go_simp)
    have hlen1:(toZ (F[k]).1).length≤1000000000:=by rw[aj];have:=HGL.out.1;omega
    have qA:(toZ (F[k]).2).length≤1000000000:=by rw[aj];have:=HGL.out.2;omega
    have zK:∀ x,x∈toZ (F[k]).1→0≤x∧x<(toZ at_).length:=fun x hx=>by obtain⟨n,hn,rfl⟩:=iZ hx;have:=HWK.out.1 n hn;rw[aj,HAL.out];omega
    have uZ:∀ x,x∈toZ (F[k]).2→0≤x∧x<(toZ at_).length:=fun x hx=>by obtain⟨n,hn,rfl⟩:=iZ hx;have:=HWK.out.2 n hn;rw[aj,HAL.out];omega
    refine(je _ _ (toZ at_) (toZ (F[k]).1) _ (xV.out.ext hx0) (HIL.out.ext (aa HBO.out.ext hx0)) zK hlen1).mono ?_
    rintro e w1 ⟨v1,rfl,hI1,hx1⟩
    have pM:=aa hx0 hx1
    (refine hK.out _ _ (fun _=>?_) ?_)
    · exact hSx _ (aa HBO.out.ext pM) (by rw[pM.block _ (ah qb.out)];exact qb.out)
    clear hK K
    (try simp only[nP])
    (refine stA (i:=17) fun K hK=>?_;go_simp)
    refine(je _ _ (toZ at_) (toZ (F[k]).2) _ (xV.out.ext pM) (HIR.out.ext (aa HBO.out.ext pM)) uZ qA).mono ?_
    rintro e w2 ⟨v2,rfl,hI2,hx2⟩
    have jr:=aa pM hx2
    have oI:w2.heap[w.heap.size]?=some (.cells #[.slice (some ⟨bF,0,none⟩) F.length fD] 28 (0,0)):=by rw[jr.block _ (ah qb.out)];exact qb.out
    (refine hK.out _ _ (fun _=>?_) ?_)
    · exact hSx _ (aa HBO.out.ext jr) oI
    clear hK K
    (try simp only[nP])
    have xN:=hI1.ext hx2
    rw[wy] at xN hI2
    have hB2:=HB1.out.ext jr
    have CX:∀ i (h:i<at_.length),at_[i]<D1.length:=HA.out.lt
    have hG2:=HG1.out.trans (dz.ext HB1.out jr)
    have oJ:∀ b,Value.ownBlock (.slice aA k cA)=some b→we.heap.size≤b∧Beside w2 (w.heap.size+1+1) vn1 vb1 D1 b:=fun b hb=>⟨(zT.out b hb).1,(zT.out b hb).2.goE HB1.out jr⟩
    have xK:=hbb.goE HB1.out jr
    have hown2:=aJ HOWN.out jr
    (refine stA (i:=18) fun K hK=>?_;go_simp)
    refine(F6 (w.heap.size+1+1) vn1 vb1 D1 _ _ _ _ _ hB2 xN hI2 (yX HWK.out.1 HAL.out CX) (yX HWK.out.2 HAL.out CX) (by simp;have:=HGL.out.1;omega) (by simp;have:=HGL.out.2;omega) (by have:=HD1.out;omega) (Dq HA.out HWK.out.1 HAL.out) (Dq HA.out HWK.out.2 HAL.out)).mono ?_
    rintro e w3 ⟨vn2,vb2,D2,i2,rfl,hB3,hK3,hS3,hQ3,hE3,hi3,hC3,hV3,hW3⟩
    have dP:dz w2 w3 (w.heap.size+1+1) vn1 vb1 D1 vn2 vb2 D2:=⟨hK3,hS3,hQ3,by obtain⟨E,h,_⟩:=hE3;exact⟨E,h⟩⟩
    have jk:w3.heap[w.heap.size]?=some (.cells #[.slice (some ⟨bF,0,none⟩) F.length fD] 28 (0,0)):=by rw[hK3.block _ (ah oI) xK.ins];exact oI
    have hG3:=hG2.trans dP
    have qW:=hB.go hB3 hG3
    (refine hK.out _ _ (fun _=>?_) ?_)
    · exact hSx _ qW.ext jk
    clear hK K
    (try simp only[nP])
    (refine stA (i:=19) fun K hK=>?_;go_simp)
    have hx4:Ext w3 (w3.alloc (.cells #[.int .i64 ((i2:Nat):Int)] 3)):=by go_grown
    (refine hK.out _ _ (fun _=>?_) ?_)
    · exact hSx _ (aa qW.ext hx4) (by rw[hx4.block _ (ah jk)];exact jk)
    clear hK K
    (try simp only[nP])
    have hown3:=aI hown2 hK3 (fun b hb=>(oJ b hb).2.ins)
    have hzw:=hG3.keep.size
    refine tlA [20,21] [_,_] ?_
    refine aW rfl (.tmp 16) (.tmp 35) 80 rfl we.heap.size 3 i0 (.int .i64 0) 1 8 underlying80 hi0 hz0 hz1 hz2 rfl (by decide) (.slice aA k cA) k ((toZ at_).map (Value.int .i64)) rfl (aJ hown3 hx4) _ 1 _ [.int .i64 ((i2:Nat):Int)] rfl rfl (.inr ⟨_,rfl,bq (aO _ _ _)⟩) one_cell (by unfold maxLen;omega) (by omega) (by rw[sA_];omega) ?_
    intro v5 w5 ho5 hg5 hl5
    have kE:∀ b,Value.ownBlock (.slice aA k cA)=some b→we.heap.size≤b∧Beside w3 (w.heap.size+1+1) vn2 vb2 D2 b:=fun b hb=>⟨(oJ b hb).1,(oJ b hb).2.go (hown2.lt b hb).2 dP⟩
    have CV:=xK.go (ah oI) dP
    obtain⟨hB5,hG5,mo,hside⟩:=Beside.row hG3 hB3 kE hx4 hg5 hl5
    have CU:=hside _ CV
    have oH:w5.heap[w.heap.size]?=some (.cells #[.slice (some ⟨bF,0,none⟩) F.length fD] 28 (0,0)):=by
     rw[hg5.block _ (by rw[sA_];have:=ah jk;omega) (fun e=>by have:=(kE _ e.symm).1;omega),hx4.block _ (ah jk)];exact jk
    have PO:=(hrb.goE HB1.out jr).go (Nat.lt_of_lt_of_le (ah zS.out) jr.size) dP
    have ji:w3.heap[w.heap.size+1]?=some (.cells #[.slice none 0 0] 28 (0,0)):=by
     rw[hK3.block _ (Nat.lt_of_lt_of_le (ah zS.out) jr.size) (hrb.goE HB1.out jr).ins,jr.block _ (ah zS.out)];exact zS.out
    have zB:=hside _ PO
    have vW:w5.heap[w.heap.size+1]?=some (.cells #[.slice none 0 0] 28 (0,0)):=by
     rw[hg5.block _ (by rw[sA_];have:=ah ji;omega) (fun e=>by have:=(kE _ e.symm).1;omega),hx4.block _ (ah ji)];exact ji
    have hlen:D2.length≤3*(k+1):=by obtain⟨E,rfl,hE⟩:=hE3;have:=HD1.out;simp;omega
    have hsame:Hid (qY D2 F (at_++[i2])):=qY.next HB1.out.good.wf hB3.good.wf hGF.out.wf hlt HAL.out HA.out hE3 hi3 hC3 hV3 hW3
    have H5:=Hd_ hB5
    have H6:=Hd_ hG5
    have H7:=Hd_ mo
    have H8:=Hd_ oH
    have H9:=Hd_ CU
    have H10:=Hd_ vW
    have H13:=Hd_ zB
    have H11:=Hd_ ho5
    have H12:=Hd_ hlen
    clear hB5 hG5 mo oH CU vW zB ji PO ho5 hlen hg5 hl5 hside kE CV dP jk hG3 qW hx4 hown3 hB3 hK3 hS3 hQ3 hE3 hi3 hC3 hV3 hW3 oJ xK hown2 hG2 hB2 hHeld
    (try simp only[nP])
    go_wp2_with fail
    go_roundw
    case rel=>exact⟨k+1,vn2,vb2,D2,at_++[i2],by omega,by go_num,by rw[List.length_append,HAL.out];rfl,by simpa [toZ] using H11.out,H5.out,H6.out,H12.out,H7.out,H8.out,H9.out,H10.out,H13.out,hsame⟩
    case measure=>simp[intOf];omega
  · have hke:k=F.length:=by omega
    have hlt':¬ (((k:Nat):Int)<(F.length:Int)):=by omega
    obtain⟨ga,ca,rfl,hca,_,hcell⟩:=dC hown (by omega)
    have hlast:k-1<at_.length:=by omega
    have hc1:wr.cell? ⟨ga,k-1,none⟩=some (.int .i64 ((at_[k-1]:Nat):Int)):=by rw[hcell _ (by omega)];simp[toZ,hlast]
    have hrl:=HA.out.lt _ hlast
    have hrc:=HA.out.canon _ hlast
    have hre:=HA.out.eqv _ hlast
    have hrm:at_[k-1]∈at_:=List.getElem_mem hlast
    generalize hroot:at_[k-1]=root at *
    have HA':=Hd_ (And.intro hrc (And.intro hre hrm))
    have zT:=Hd_ mq
    have HG1:=Hd_ hG1
    have HKE:=Hd_ hke
    have HAL:=Hd_ hal
    have hzw:=hG1.keep.size
    have hwk:wrap64 ((k:Int)-1)=((k-1:Nat):Int):=by unfold wrap64;omega
    have hb9:((k-1:Nat):Int)<(k:Int):=by omega
    clear hcell mq hG1 hal hroot hrc hre hrm hown hke
    go_wp2_with (first
     | (go_at_call 133;refine(sS _ vn1 vb1 D1 root _ hB1 hrl).mono ?_;rintro e w7 ⟨vN,F',rfl,hN7,hIF,hS7,hx7⟩
        obtain⟨aN,cN,rfl,-⟩:=id hN7
        have mf:w7.heap[w.heap.size+1]?=some (.cells #[.slice none 0 0] 28 (0,0)):=by rw[hx7.block _ (ah hres)];exact hres
        have cr7:=cell_of_row w7 (w.heap.size+1) 0 _ _ _ mf
        have fr7:=frozen_of_row w7 (w.heap.size+1) 0 _ _ mf
        have hh:=heap_setCell_same w7 (w.heap.size+1) 0 _ _ (.slice aN F'.length cN) mf
        have HH:Hid ((w7.setCell ⟨w.heap.size+1,0,none⟩ (.slice aN F'.length cN)).heap[w.heap.size+1]?=some (.cells #[.slice aN F'.length cN] 28 (0,0))):=hh
        clear hh))
    (try simp only[Exit.inBlock,Exit.then])
    refine bodyPost_ret (results_cell_row rfl _ _ (w.heap.size+1) 28 #[.slice aN F'.length cN] (0,0) _ rfl HH.out underlying28 rfl (by kernel_rfl)) rfl ?_
    obtain⟨hrc,hre,hrm⟩:=HA'.out
    have hE7:Ext w w7:=aa hBO.ext hx7
    have hN8:=(hN7.set (p:=⟨w.heap.size+1,0,none⟩) (by show w.heap.size+1<wr.heap.size;exact ah hres) (.slice aN F'.length cN)).weaken (base':=w.heap.size) hBO.ext.size
    have hsm:=sQ hB1.good hrl hIF hS7 hrm HA.out.shut
    refine⟨_,F',_,rfl,hN8,hIF,hS7,hrc,?_,by have:=HAL.out;have:=HKE.out;omega,hE7.setCell (p:=⟨w.heap.size+1,0,none⟩) (by show w.heap.size≤w.heap.size+1;omega) _⟩
    have e:k-1=F.length-1:=by have:=HKE.out;omega
    rw[e] at hre;exact hre
end Go.Proofs.YteknjeohbcgpdaaGreatDoor