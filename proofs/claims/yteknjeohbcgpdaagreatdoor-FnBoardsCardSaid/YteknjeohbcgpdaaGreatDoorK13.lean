/-
  Memory: slices of forms; sizes. (4 texts.)
-/
import Derived.Test.YteknjeohbcgpdaaGreatDoorK12
set_option maxRecDepth 100000
namespace Go.Proofs.YteknjeohbcgpdaaGreatDoor
open Tryz
section
open Go.RowKit
open bO (dH Nd vl Same Canon iO)
variable {w:World}
theorem uq{pb:Nat}{t:TypeId}(h:w.heap[pb]?=some (.cells #[.slice none 0 0,.slice none 0 0] t (0,0))):eH w pb (.slice none 0 0) (.slice none 0 0) []:=
 ⟨bO.Good.nil,by simp,⟨t,h⟩,⟨by simp,.inl ⟨rfl,rfl⟩⟩,⟨[],⟨by simp,.inl ⟨rfl,rfl⟩⟩,λi h=>absurd h (by simp)⟩,by simp[Value.ownBlock],by simp[Value.ownBlock],by simp[Value.ownBlock]⟩
theorem fu.set{base:Nat}{v:Value}{F:dH}(h:fu w base v F){p:Addr}(hp:p.block<base)(u:Value):fu (w.setCell p u) base v F:=by
 obtain⟨a,cap,rfl,h1,h2,h3⟩:=h;refine⟨a,cap,rfl,h1,h2,λh0=>?_⟩;obtain⟨b,rfl,hb,hc⟩:=h3 h0;refine⟨b,rfl,hb,λi hi=>?_⟩;obtain⟨L,R,c1,c2,c3,c4,c5,c6⟩:=hc i hi;have e:∀k,base<=k->(w.setCell p u).heap[k]?=w.heap[k]?:=λk hk=>heap_setCell_other _ _ _ _ (by omega)
 exact⟨L,R,by rw[World.cell?_of_block (w:=w) (e b hb)];exact c1,by rw[World.cell?_of_block (w:=w) (e b hb)];exact c2,c3.keep (λb hl hb'=>e b (c5 b hb').1),c4.keep (λb hl hb'=>e b (c6 b hb').1),by simpa using c5,by simpa using c6⟩
def RH(F:dH)(w:World)(e:Ending)(w':World):Prop:=
 ∃vN F' g,e=.returned (.agg #[vN])/\fu w' w.heap.size vN F'/\bO.fC F'/\Same (bO.dZ F') g/\Canon g/\iO g (bO.dZ F)/\F'.length<=F.length/\Ext w w'
set_option maxHeartbeats 2000000 in
theorem BB(vf:Value)(F:dH)(w:World)(hf:fu w 0 vf F)(hF:bO.Good F)(h0:0<F.length)(hroom:3*F.length<=1000000):
 Calls prog 78 #[.agg #[vf]] w (RH F w):=by
 obtain⟨i0,hi0,hz0,hz1,hz2⟩:=info_parts iw;obtain⟨aF,iF,rfl,-⟩:=id hf;have hGF:=aQ hF;go_enter Tryz.func78,Tryz.ntmps78
 go_wp2
 obtain⟨we,DJ⟩:∃we,we=((w.alloc (.cells #[.slice aF F.length iF] 28)).alloc (.cells #[.slice none 0 0] 28)).alloc (.cells #[.slice none 0 0,.slice none 0 0] 157):=⟨_,rfl⟩;have MP:we.heap.size=w.heap.size+3:=by rw[DJ];simp
 have hb0:we.heap[w.heap.size]?=some (.cells #[.slice aF F.length iF] 28 (0,0)):=by
  rw[DJ,Below.heap_alloc _ _ _ (by simp;omega),Below.heap_alloc _ _ _ (by simp)];exact heap_alloc_new _ _
 have hb1:we.heap[w.heap.size+1]?=some (.cells #[.slice none 0 0] 28 (0,0)):=by
  rw[DJ,Below.heap_alloc _ _ _ (by simp)];have h:=heap_alloc_new (w.alloc (.cells #[.slice aF F.length iF] 28)) (.cells #[.slice none 0 0] 28);rw[eQ]at h;exact h
 have hb2:we.heap[w.heap.size+1+1]?=some (.cells #[.slice none 0 0,.slice none 0 0] 157 (0,0)):=by
  rw[DJ];have h:=heap_alloc_new ((w.alloc (.cells #[.slice aF F.length iF] 28)).alloc (.cells #[.slice none 0 0] 28)) (.cells #[.slice none 0 0,.slice none 0 0] 157);rw[eQ,eQ]at h;exact h
 have hxe:Ext w we:=by rw[DJ];go_grown
 have Ce:eH we (w.heap.size+1+1) (.slice none 0 0) (.slice none 0 0) []:=uq hb2;have hB:qI w we (w.heap.size+1+1) (.slice none 0 0) (.slice none 0 0) []:=⟨Ce,λb hb=>by
  rcases hb with h|h|h
  .omega
  .simp[Value.ownBlock]at h
  .simp[Value.ownBlock]at h,hxe⟩
 have hsd:∀b,b<w.heap.size+2->Beside we (w.heap.size+1+1) (.slice none 0 0) (.slice none 0 0) [] b:=λb hb=>⟨λk=>by
  rcases k with h|h|h
  .omega
  .simp[Value.ownBlock]at h
  .simp[Value.ownBlock]at h,λ⟨i,g,cap,v,hi,_⟩=>by simp at hi⟩
 rw[<-DJ];have hxa:Ext we (we.alloc (.cells #[] 3)):=by go_grown
 have UI:w.heap.size+1+1+1=we.heap.size:=by omega
 rw[UI];have hzl:w.heap.size+2<we.heap.size:=by omega
 clear DJ MP UI
 go_loopw [4,5] (λav kk wr=>∃k uJ xC D' at_,k<=F.length/\kk=.int .i64 ((k:Nat):Int)/\at_.length=k/\wr.ownsRow we.heap.size 3 1 av k ((dD at_).map (Value.int .i64))/\eH wr (w.heap.size+1+1) uJ xC D'/\ig we wr (w.heap.size+1+1) (.slice none 0 0) (.slice none 0 0) [] uJ xC D'/\D'.length<=3*k/\
  (∀b,av.ownBlock=some b->we.heap.size<=b/\Beside wr (w.heap.size+1+1) uJ xC D' b)/\wr.heap[w.heap.size]?=some (.cells #[.slice aF F.length iF] 28 (0,0))/\Beside wr (w.heap.size+1+1) uJ xC D' w.heap.size/\wr.heap[w.heap.size+1]?=some (.cells #[.slice none 0 0] 28 (0,0))/\Beside wr (w.heap.size+1+1) uJ xC D' (w.heap.size+1)/\Hid (EW D' F at_)) (λ_ kk _=>F.length-(intOf kk).toNat)
 case atStart=>
  refine⟨0,_,_,[],[],aJ _,rfl,rfl,fZ we _ (ay _) _,Ce.ext hxa,ig.ext Ce hxa,ay _,λb hb=>?_,?_,?_,?_,?_,EW.nil F⟩
  .simp[Value.ownBlock]at hb;subst hb
   exact⟨ay _,(Beside.new Ce (b:=we.heap.size) (ay _)).IX Ce hxa⟩
  .rw[hxa.block _ (by omega)];exact hb0
  .exact(hsd _ (by omega)).IX Ce hxa
  .rw[hxa.block _ (by omega)];exact hb1
  .exact(hsd _ (by omega)).IX Ce hxa
 case round=>
  obtain⟨k,qb,vb1,D1,at_,hk,rfl,hal,hown,hB1,hG1,hD1,zK,jF,hbb,hres,hrb,HA⟩:=hrel;have Lx:=hB.go hB1 hG1;have alg:=cell_of_row wr w.heap.size 0 _ _ _ jF;by_cases hlt:k<F.length
  .have hlt':((k:Nat):Int)<(F.length:Int):=by omega
   obtain⟨bF,cF,aL,cL,aR,cR,he,O8,cl,cr,uP,uO⟩:=hf.at hlt;simp only[Value.slice.injEq]at he;obtain⟨rfl,-,rfl⟩:=he;have gl:=sN hGF.out hlt;have hwk:=hGF.out.wf k _ (aa hlt)
   have pF:∀W,Ext w W->W.heap[w.heap.size]?=some (.cells #[.slice (some ⟨bF,0,none⟩) F.length iF] 28 (0,0))->W.cell? ⟨w.heap.size,0,none⟩=some (.slice (some ⟨bF,0,none⟩) F.length iF)/\W.cell? ⟨bF,k*2,none⟩=some (.slice aL (F[k]).1.length cL)/\W.cell? ⟨bF,k*2+1,none⟩=some (.slice aR (F[k]).2.length cR):=
    λW h1 h2=>⟨cell_of_row W w.heap.size 0 _ _ _ h2,(h1.cell (lt_of_cell cl)).trans cl,(h1.cell (lt_of_cell cr)).trans cr⟩
   have hS0:=pF wr Lx.ext jF;obtain⟨aA,cA,rfl,hcA,_⟩:=bH hown;have hx0:Ext wr wr.drew:=⟨rfl,rfl,rfl,ay _,λ_ _=>rfl⟩;have Kr:=Ints.eD (l:=dD at_) hown (by rw[bJ];have:=hB1.small;omega);have N8:=aQ Kr;have HOWN:=aQ hown;have HB1:=aQ hB1;have HG1:=aQ hG1;have HBO:=aQ Lx;have RG:=aQ zK;have Bf:=aQ jF;have Ry:=aQ hres;have yj:=aQ hal;have HD1:=aQ hD1;have Z5:=aQ gl;have Xe:=aQ hwk;have HIL:=aQ uP;have N7:=aQ uO;clear hown hB1 hG1 Lx zK jF hres hal Kr uP uO cl cr O8 hD1 gl hwk;go_wp2_with fail
   refine lq (λW=>W.cell? ⟨w.heap.size,0,none⟩=some (.slice (some ⟨bF,0,none⟩) F.length iF)/\W.cell? ⟨bF,k*2,none⟩=some (.slice aL (F[k]).1.length cL)/\W.cell? ⟨bF,k*2+1,none⟩=some (.slice aR (F[k]).2.length cR)) [20,21] (by kernel_rfl) hS0 (λah=>?_);(refine kM 0 ah ?_;refine kM 1 ah ?_;refine kM 2 ah ?_;refine kM 3 ah ?_;refine kM 4 ah ?_;refine kM 5 ah ?_;refine kM 6 ah ?_;refine kM 7 ah ?_;refine kM 8 ah ?_;refine kM 10 ah ?_;refine kM 11 ah ?_;refine kM 12 ah ?_;refine kM 13 ah ?_;refine kM 14 ah ?_;refine kM 15 ah ?_;refine kM 16 ah ?_);(refine stA (i:=9) λK hK=>?_;go_simp);have hlen1:(dD (F[k]).1).length<=1000000000:=(by rw[bJ];have:=Z5.out.1;omega);have BH:(dD (F[k]).2).length<=1000000000:=(by rw[bJ];have:=Z5.out.2;omega);have WG:∀x,x∈dD (F[k]).1->0<=x/\x<(dD at_).length:=λx hx=>by obtain⟨n,hn,rfl⟩:=mV hx;have:=Xe.out.1 n hn;rw[bJ,yj.out];omega
   have WE:∀x,x∈dD (F[k]).2->0<=x/\x<(dD at_).length:=λx hx=>by obtain⟨n,hn,rfl⟩:=mV hx;have:=Xe.out.2 n hn;rw[bJ,yj.out];omega
   refine(sD _ _ (dD at_) (dD (F[k]).1) _ (N8.out.ext hx0) (HIL.out.ext (ax HBO.out.ext hx0)) WG hlen1).mono ?_;rintro e w1 ⟨v1,rfl,hI1,hx1⟩;have DI:=ax hx0 hx1;(refine hK.out _ _ (λ_=>?_) ?_)
   .exact pF _ (ax HBO.out.ext DI) (by rw[DI.block _ (bu Bf.out)];exact Bf.out)
   clear hK K;(try simp only[nP]);(refine stA (i:=17) λK hK=>?_;go_simp);refine(sD _ _ (dD at_) (dD (F[k]).2) _ (N8.out.ext DI) (N7.out.ext (ax HBO.out.ext DI)) WE BH).mono ?_;rintro e w2 ⟨v2,rfl,hI2,hx2⟩;have sI:=ax DI hx2;have zI:w2.heap[w.heap.size]?=some (.cells #[.slice (some ⟨bF,0,none⟩) F.length iF] 28 (0,0)):=(by rw[sI.block _ (bu Bf.out)];exact Bf.out);(refine hK.out _ _ (λ_=>?_) ?_)
   .exact pF _ (ax HBO.out.ext sI) zI
   clear hK K;(try simp only[nP]);have Nn:=hI1.ext hx2;rw[CL]at Nn hI2;have hB2:=HB1.out.ext sI;have Vq:∀i (h:i<at_.length),at_[i]<D1.length:=HA.out.lt;have hG2:=HG1.out.trans (ig.ext HB1.out sI);have zJ:∀b,Value.ownBlock (.slice aA k cA)=some b->we.heap.size<=b/\Beside w2 (w.heap.size+1+1) qb vb1 D1 b:=λb hb=>⟨(RG.out b hb).1,(RG.out b hb).2.IX HB1.out sI⟩
   have EM:=hbb.IX HB1.out sI;have hown2:=bY HOWN.out sI;(refine stA (i:=18) λK hK=>?_;go_simp);refine(MH (w.heap.size+1+1) qb vb1 D1 _ _ _ _ _ hB2 Nn hI2 (Im Xe.out.1 yj.out Vq) (Im Xe.out.2 yj.out Vq) (by simp;have:=Z5.out.1;omega) (by simp;have:=Z5.out.2;omega) (by have:=HD1.out;omega) (KU HA.out Xe.out.1 yj.out) (KU HA.out Xe.out.2 yj.out)).mono ?_;rintro e w3 ⟨Cb,pJ,D2,i2,rfl,hB3,hK3,tC,Vv,ui,hi3,hC3,Lp,hW3⟩;have iU:ig w2 w3 (w.heap.size+1+1) qb vb1 D1 Cb pJ D2:=⟨hK3,tC,Vv,by obtain⟨E,h,_⟩:=ui;exact⟨E,h⟩⟩;have pO:w3.heap[w.heap.size]?=some (.cells #[.slice (some ⟨bF,0,none⟩) F.length iF] 28 (0,0)):=(by rw[hK3.block _ (bu zI) EM.ins];exact zI);have hG3:=hG2.trans iU;have EO:=hB.go hB3 hG3;(refine hK.out _ _ (λ_=>?_) ?_)
   .exact pF _ EO.ext pO
   clear hK K;(try simp only[nP]);(refine stA (i:=19) λK hK=>?_;go_simp);have hx4:Ext w3 (w3.alloc (.cells #[.int .i64 ((i2:Nat):Int)] 3)):=(by go_grown);(refine hK.out _ _ (λ_=>?_) ?_)
   .exact pF _ (ax EO.ext hx4) (by rw[hx4.block _ (bu pO)];exact pO)
   clear hK K;(try simp only[nP]);have hown3:=bI hown2 hK3 (λb hb=>(zJ b hb).2.ins);have XH:=hG3.keep.size;refine tlA [20,21] [_,_] ?_;refine dC rfl (.tmp 16) (.tmp 35) 80 rfl we.heap.size 3 i0 (.int .i64 0) 1 8 underlying80 hi0 hz0 hz1 hz2 rfl (by decide) (.slice aA k cA) k ((dD at_).map (Value.int .i64)) rfl (bY hown3 hx4) _ 1 _ [.int .i64 ((i2:Nat):Int)] rfl rfl (.inr ⟨_,rfl,dJ (dh _ _ _)⟩) one_cell (by unfold maxLen;omega) (by omega) (by rw[eQ];omega) ?_;intro v5 w5 iT hg5 hl5;have sM:∀b,Value.ownBlock (.slice aA k cA)=some b->we.heap.size<=b/\Beside w3 (w.heap.size+1+1) Cb pJ D2 b:=λb hb=>⟨(zJ b hb).1,(zJ b hb).2.go (hown2.lt b hb).2 iU⟩
   have Vo:=EM.go (bu zI) iU;obtain⟨VH,AL,vU,hside⟩:=Beside.row hG3 hB3 sM hx4 hg5 hl5;have Vn:=hside _ Vo;have zH:w5.heap[w.heap.size]?=some (.cells #[.slice (some ⟨bF,0,none⟩) F.length iF] 28 (0,0)):=by
    rw[hg5.block _ (by rw[eQ];have:=bu pO;omega) (λe=>by have:=(sM _ e.symm).1;omega),hx4.block _ (bu pO)];exact pO
   have ae2:=(hrb.IX HB1.out sI).go (bz (bu Ry.out) sI.size) iU;have pM:w3.heap[w.heap.size+1]?=some (.cells #[.slice none 0 0] 28 (0,0)):=by
    rw[hK3.block _ (bz (bu Ry.out) sI.size) (hrb.IX HB1.out sI).ins,sI.block _ (bu Ry.out)];exact Ry.out
   have QM:=hside _ ae2;have FX:w5.heap[w.heap.size+1]?=some (.cells #[.slice none 0 0] 28 (0,0)):=by
    rw[hg5.block _ (by rw[eQ];have:=bu pM;omega) (λe=>by have:=(sM _ e.symm).1;omega),hx4.block _ (bu pM)];exact pM
   have hlen:D2.length<=3*(k+1):=(by obtain⟨E,rfl,hE⟩:=ui;have:=HD1.out;simp;omega);have hsame:Hid (EW D2 F (at_++[i2])):=EW.next HB1.out.good.wf hB3.good.wf hGF.out.wf hlt yj.out HA.out ui hi3 hC3 Lp hW3;have H5:=aQ VH;have H6:=aQ AL;have H7:=aQ vU;have H8:=aQ zH;have H9:=aQ Vn;have H10:=aQ FX;have H13:=aQ QM;have H11:=aQ iT;have H12:=aQ hlen;clear VH AL vU zH Vn FX QM pM ae2 iT hlen hg5 hl5 hside sM Vo iU pO hG3 EO hx4 hown3 hB3 hK3 tC Vv ui hi3 hC3 Lp hW3 zJ EM hown2 hG2 hB2 ah;(try simp only[nP]);go_wp2_with fail
   go_roundw
   case rel=>exact⟨k+1,Cb,pJ,D2,at_++[i2],by omega,by go_num,by rw[aK,yj.out];rfl,by simpa [dD]using H11.out,H5.out,H6.out,H12.out,H7.out,H8.out,H9.out,H10.out,H13.out,hsame⟩
   case measure=>simp[intOf];omega
  .have hke:k=F.length:=by omega
   have hlt':¬(((k:Nat):Int)<(F.length:Int)):=(by omega);obtain⟨ga,ca,rfl,XP,_,hcell⟩:=gV hown (by omega);have hlast:k-1<at_.length:=(by omega);have hc1:wr.cell? ⟨ga,k-1,none⟩=some (.int .i64 ((at_[k-1]:Nat):Int)):=(by rw[hcell _ (by omega)];simp[dD,hlast]);have hrl:=HA.out.lt _ hlast;have hrc:=HA.out.canon _ hlast;have hre:=HA.out.eqv _ hlast;have hrm:at_[k-1]∈at_:=ai hlast;generalize hroot:at_[k-1]=root at *;have HA':=aQ (And.intro hrc (And.intro hre hrm));have RG:=aQ zK;have HG1:=aQ hG1;have Er:=aQ hke;have yj:=aQ hal;have XH:=hG1.keep.size;have hwk:wrap64 ((k:Int)-1)=((k-1:Nat):Int):=(by unfold wrap64;omega);have Y8:((k-1:Nat):Int)<(k:Int):=(by omega);clear hcell zK hG1 hal hroot hrc hre hrm hown hke
   go_wp2_with (first
    |(go_at_call 133;refine(zP _ qb vb1 D1 root _ hB1 hrl).mono ?_;rintro e w7 ⟨vN,F',rfl,hN7,hIF,hS7,hx7⟩
      obtain⟨aN,cN,rfl,-⟩:=id hN7;have vK:w7.heap[w.heap.size+1]?=some (.cells #[.slice none 0 0] 28 (0,0)):=(by rw[hx7.block _ (bu hres)];exact hres);have cr7:=cell_of_row w7 (w.heap.size+1) 0 _ _ _ vK;have fr7:=frozen_of_row w7 (w.heap.size+1) 0 _ _ vK;have hh:=heap_setCell_same w7 (w.heap.size+1) 0 _ _ (.slice aN F'.length cN) vK;have HH:Hid ((w7.setCell ⟨w.heap.size+1,0,none⟩ (.slice aN F'.length cN)).heap[w.heap.size+1]?=some (.cells #[.slice aN F'.length cN] 28 (0,0))):=hh;clear hh))
   (try simp only[Exit.inBlock,Exit.then]);refine bodyPost_ret (results_cell_row rfl _ _ (w.heap.size+1) 28 #[.slice aN F'.length cN] (0,0) _ rfl HH.out underlying28 rfl (by kernel_rfl)) rfl ?_;obtain⟨hrc,hre,hrm⟩:=HA'.out;have hE7:Ext w w7:=ax Lx.ext hx7;have hN8:=(hN7.set (p:=⟨w.heap.size+1,0,none⟩) (by show w.heap.size+1<wr.heap.size;exact bu hres) (.slice aN F'.length cN)).weaken (base':=w.heap.size) Lx.ext.size;have hsm:=yE hB1.good hrl hIF hS7 hrm HA.out.shut;refine⟨_,F',_,rfl,hN8,hIF,hS7,hrc,?_,by have:=yj.out;have:=Er.out;omega,hE7.setCell (p:=⟨w.heap.size+1,0,none⟩) (by show w.heap.size<=w.heap.size+1;omega) _⟩;have e:k-1=F.length-1:=(by have:=Er.out;omega);rw[e]at hre;exact hre
end
section
open Go.RowKit
open bO (dH Nd vl Same)
def iQ(F:dH):Bool:=decide (1<=F.length/\F.length<=120/\∀i (h:i<F.length),(F[i]).1.length<=24/\(F[i]).2.length<=24)
set_option maxHeartbeats 2000000 in
theorem Dy(vf:Value)(F:dH)(w:World)(hf:fu w 0 vf F):Calls prog 135 #[.agg #[vf]] w λe w'=>e=.returned (.bool (iQ F))/\Ext w w':=by
 obtain⟨aF,iF,rfl,hcap,p8,-⟩:=id hf;go_enter Tryz.func135,Tryz.ntmps135
 go_wp2
 have hxb:Ext w (w.alloc (.cells #[.slice aF F.length iF] 28)):=by go_grown
 have hbx:=cell_of_row (w.alloc (.cells #[.slice aF F.length iF] 28)) w.heap.size 0 _ _ _ (heap_alloc_new w _);generalize hW:w.alloc (.cells #[.slice aF F.length iF] 28)=W at *;generalize hp:w.heap.size=p at *;clear hW hp;go_loopw [3] (λkk wr=>wr=W/\∃k,k<=F.length/\k<=121/\kk=.int .i64 ((k:Nat):Int)/\Hid (∀i (h:i<F.length),i<k->(F[i]).1.length<=24/\(F[i]).2.length<=24)) (λkk _=>F.length-(intOf kk).toNat)
 case atStart=>exact⟨rfl,0,aJ _,by omega,rfl,λi _ h=>absurd h (by omega)⟩
 case round=>
  obtain⟨rfl,k,hk,hk2,rfl,HP⟩:=hrel;by_cases hlt:k<F.length
  .by_cases arT:k<=120
   .obtain⟨bF,cF,aL,cL,aR,cR,he,O8,cl,cr,-,-⟩:=hf.at hlt
    simp only[Value.slice.injEq]at he;obtain⟨rfl,-,rfl⟩:=he;have cl':=(hxb.cell (lt_of_cell cl)).trans cl;have LC:=(hxb.cell (lt_of_cell cr)).trans cr;have h1:((k:Nat):Int)<(F.length:Int):=(by omega);have h2:((k:Nat):Int)<=120:=(by omega);clear cl cr hf;by_cases hl:(F[k]).1.length<=24
    .have hl1:¬((24:Int)<((F[k]).1.length:Int)):=by omega
     by_cases hr:(F[k]).2.length<=24
     .have hr1:¬((24:Int)<((F[k]).2.length:Int)):=by omega
      have HL:=aQ hl;have HR:=aQ hr;clear hl hr;go_wp2
      go_roundw
      case rel=>exact⟨trivial,k+1,by omega,by omega,by go_num,λi hi hik=>by
       by_cases e:i=k
       .subst e;exact⟨HL.out,HR.out⟩
       .exact HP.out i hi (by omega)⟩
      case measure=>simp[intOf];omega
     .have hr1:((24:Int)<((F[k]).2.length:Int)):=by omega
      have HR:=aQ hr;clear hl hr;go_wp2
      go_ret
      exact⟨fE (by symm;rw[iQ];exact decide_eq_false (λh=>HR.out (h.2.2 k hlt).2)),hxb⟩
    .have hl1:((24:Int)<((F[k]).1.length:Int)):=by omega
     have HL:=aQ hl;clear hl;go_wp2
     go_ret
     exact⟨fE (by symm;rw[iQ];exact decide_eq_false (λh=>HL.out (h.2.2 k hlt).1)),hxb⟩
   .have h1:((k:Nat):Int)<(F.length:Int):=by omega
    have h2:¬(((k:Nat):Int)<=120):=(by omega);go_wp2_with (go_at_call 60;refine(jC _ _ _ _).mono ?_;rintro e w1 ⟨rfl,n,rfl⟩)
    go_ret
    refine⟨fE ?_,fA hxb _⟩;have:iQ F=false:=(by rw[iQ];exact decide_eq_false (λh=>by omega));rw[this];simp[CB];omega
  .have h1:¬(((k:Nat):Int)<(F.length:Int)):=by omega
   go_wp2_with (go_at_call 60;refine(jC _ _ _ _).mono ?_;rintro e w1 ⟨rfl,n,rfl⟩)
   go_ret
   refine⟨fE ?_,fA hxb _⟩;have hall:=HP.out;rw[iQ,CB,<-Bool.decide_and];refine decide_eq_decide.2 ⟨λh=>⟨by omega,by omega,λi hi=>hall i hi (by omega)⟩,λh=>⟨by omega,by omega⟩⟩
def Ti:List Row:=[⟨0,[],21,[2]⟩,⟨1,[0],22,[20]⟩,⟨2,[],23,[5]⟩,⟨3,[1,2],24,[21,22]⟩,⟨4,[3],25,[23]⟩,⟨5,[4],26,[24]⟩,⟨6,[],27,[3]⟩,⟨7,[6],28,[26]⟩,⟨8,[],29,[5]⟩,⟨9,[7,8],30,[27,28]⟩,⟨10,[9],31,[29]⟩,⟨11,[10],32,[30]⟩,⟨12,[5,11],33,[25,31]⟩,⟨13,[12],34,[32]⟩,⟨14,[13,12],35,[33]⟩,⟨15,[14],36,[2,34]⟩,⟨16,[15,14],37,[35,34]⟩,⟨17,[14],38,[5,34]⟩,⟨18,[16,17,14],39,[36,37,34]⟩,⟨19,[18,14],40,[38,34]⟩,⟨20,[19,14],41,[39,34]⟩,⟨21,[14],42,[3,34]⟩,⟨22,[21,14],43,[41,34]⟩,⟨23,[14],44,[5,34]⟩,⟨24,[22,23,14],45,[42,43,34]⟩,⟨25,[24,14],46,[44,34]⟩,⟨26,[25,14],47,[45,34]⟩,⟨27,[20,26,14,14],48,[40,46,34]⟩,⟨28,[27,14],49,[47,34]⟩,⟨29,[14,28],50,[34,48]⟩]
set_option maxHeartbeats 2000000 in
theorem MJ(va vb:Value)(F:dH)(w:World)(ha:fu w 0 va F)(hb:fu w 0 vb F):Calls prog 137 #[.agg #[va],.agg #[vb]] w λe w'=>e=.returned (.bool true)/\Ext w w':=by
 obtain⟨aA,Ic,rfl,-⟩:=id ha;obtain⟨aB,KT,rfl,hcapB,p8,-⟩:=id hb;go_enter Tryz.func137,Tryz.ntmps137
 go_wp2
 have hxb:Ext w ((w.alloc (.cells #[.slice aA F.length Ic] 28)).alloc (.cells #[.slice aB F.length KT] 28)):=by go_grown
 have hq:=heap_alloc_new (w.alloc (.cells #[.slice aA F.length Ic] 28)) (.cells #[.slice aB F.length KT] 28);have hp:((w.alloc (.cells #[.slice aA F.length Ic] 28)).alloc (.cells #[.slice aB F.length KT] 28)).heap[w.heap.size]?=some (.cells #[.slice aA F.length Ic] 28 (0,0)):=by
  rw[Below.heap_alloc _ _ _ (by simp)];exact heap_alloc_new _ _
 rw[eQ]at hq;generalize hW:(w.alloc (.cells #[.slice aA F.length Ic] 28)).alloc (.cells #[.slice aB F.length KT] 28)=W at *;generalize hqq:w.heap.size+1=q at *;generalize MU:w.heap.size=p at *;clear hW hqq MU;go_loopw [5] (λkk wr=>∃k,k<=F.length/\kk=.int .i64 ((k:Nat):Int)/\Ext W wr) (λkk _=>F.length-(intOf kk).toNat)
 case atStart=>exact⟨0,aJ _,rfl,Below.refl _ _⟩
 case round=>
  obtain⟨k,hk,rfl,hx⟩:=hrel;have hE:=ax hxb hx;have hp1:wr.heap[p]?=some (.cells #[.slice aA F.length Ic] 28 (0,0)):=by rw[hx.block _ (bu hp)];exact hp
  have hq1:wr.heap[q]?=some (.cells #[.slice aB F.length KT] 28 (0,0)):=by rw[hx.block _ (bu hq)];exact hq
  have cp:=cell_of_row wr p 0 _ _ _ hp1;have cq:=cell_of_row wr q 0 _ _ _ hq1;by_cases hlt:k<F.length
  .have h1:((k:Nat):Int)<(F.length:Int):=by omega
   obtain⟨bA,cA,aL,cL,aR,cR,he,hcA,cl,cr,uP,uO⟩:=(ha.ext hE).at hlt;simp only[Value.slice.injEq]at he;obtain⟨rfl,-,rfl⟩:=he;obtain⟨bB,cB,LF,LD,NP,ND,he,hcB,yF,cr2,agv,agu⟩:=(hb.ext hE).at hlt;simp only[Value.slice.injEq]at he;obtain⟨rfl,-,rfl⟩:=he;have HIL:=aQ uP;have N7:=aQ uO;have amj:=aQ agv;have ami:=aQ agu;have HX:=aQ hx;have fJ:=aQ hlt;have hwk:wrap64 ((k:Int)+1)=(k:Int)+1:=(by unfold maxLen at p8;unfold wrap64;omega);clear uP uO agv agu hx hE hp1 hq1;have s1:uE (dD (F[k]).1) (dD (F[k]).1)=true:=(by simp[uE]);have s2:uE (dD (F[k]).2) (dD (F[k]).2)=true:=(by simp[uE]);go_wp2_with fail
   refine bV (λW=>W.cell? ⟨p,0,none⟩=some (.slice (some ⟨bA,0,none⟩) F.length Ic)/\W.cell? ⟨q,0,none⟩=some (.slice (some ⟨bB,0,none⟩) F.length KT)/\W.cell? ⟨bA,k*2,none⟩=some (.slice aL (F[k]).1.length cL)/\W.cell? ⟨bA,k*2+1,none⟩=some (.slice aR (F[k]).2.length cR)/\W.cell? ⟨bB,k*2,none⟩=some (.slice LF (F[k]).1.length LD)/\W.cell? ⟨bB,k*2+1,none⟩=some (.slice NP (F[k]).2.length ND)) [27,28,29] Ti (by kernel_rfl) ⟨by kernel_rfl,by kernel_rfl,by kernel_rfl⟩ ⟨cp,cq,cl,cr,yF,cr2⟩ (λaz ah=>?_);(refine bT 0 az ah ?_;refine bT 1 az ah ?_;refine bT 2 az ah ?_;refine bT 3 az ah ?_;refine bT 4 az ah ?_;refine bT 5 az ah ?_;refine bT 6 az ah ?_;refine bT 7 az ah ?_;refine bT 8 az ah ?_;refine bT 9 az ah ?_;refine bT 10 az ah ?_;refine bT 11 az ah ?_);(refine nM az (i:=12) λK hK=>?_;go_simp);refine(qx _ _ (dD (F[k]).1) (dD (F[k]).1) _ (HIL.out.ext (by exact⟨rfl,rfl,rfl,ay _,λ_ _=>rfl⟩)) (amj.out.ext (by exact⟨rfl,rfl,rfl,ay _,λ_ _=>rfl⟩))).mono ?_;rintro e w1 ⟨he,n1,rfl⟩;rw[s1]at he;subst he;have hEn:Ext wr.drew (wr.drew.drewN n1):=⟨rfl,rfl,rfl,ay _,λ_ _=>rfl⟩;obtain⟨z1,z2,z3,z4,z5,z6⟩:=ah;have ah:(λW:World=>W.cell? ⟨p,0,none⟩=some (.slice (some ⟨bA,0,none⟩) F.length Ic)/\W.cell? ⟨q,0,none⟩=some (.slice (some ⟨bB,0,none⟩) F.length KT)/\W.cell? ⟨bA,k*2,none⟩=some (.slice aL (F[k]).1.length cL)/\W.cell? ⟨bA,k*2+1,none⟩=some (.slice aR (F[k]).2.length cR)/\W.cell? ⟨bB,k*2,none⟩=some (.slice LF (F[k]).1.length LD)/\W.cell? ⟨bB,k*2+1,none⟩=some (.slice NP (F[k]).2.length ND)) (wr.drew.drewN n1):=⟨(hEn.cell (lt_of_cell z1)).trans z1,(hEn.cell (lt_of_cell z2)).trans z2,(hEn.cell (lt_of_cell z3)).trans z3,(hEn.cell (lt_of_cell z4)).trans z4,(hEn.cell (lt_of_cell z5)).trans z5,(hEn.cell (lt_of_cell z6)).trans z6⟩;refine hK.out _ _ (λ_=>ah) ?_;generalize hwn:wr.drew.drewN n1=wn at ah hEn ⊢;clear hK K hwn z1 z2 z3 z4 z5 z6;have hE8:Ext wr wr.drew:=⟨rfl,rfl,rfl,ay _,λ_ _=>rfl⟩;have hE9:Ext wr wn:=ax hE8 hEn;(try simp only[nP]);(refine bT 13 az ah ?_;refine bT 14 az ah ?_;refine bT 15 az ah ?_;refine bT 16 az ah ?_;refine bT 17 az ah ?_;refine bT 18 az ah ?_;refine bT 19 az ah ?_;refine bT 20 az ah ?_;refine bT 21 az ah ?_;refine bT 22 az ah ?_;refine bT 23 az ah ?_;refine bT 24 az ah ?_;refine bT 25 az ah ?_;refine bT 26 az ah ?_);refine nU az [27,28,29] [_,_,_] ?_;go_wp2_with fail
   refine(qx _ _ (dD (F[k]).2) (dD (F[k]).2) _ ?i1 ?i2).mono ?post
   case i1=>exact N7.out.ext hE9
   case i2=>exact ami.out.ext hE9
   rintro e w2 ⟨he,n2,rfl⟩;rw[s2]at he;subst he;go_wp2_with fail
   go_roundw
   case rel=>exact⟨k+1,by have:=fJ.out;omega,by go_num,ax HX.out (fA hE9 _)⟩
   case measure=>
    have:=fJ.out;rw[hwk];simp[intOf];omega
  .have h1:¬(((k:Nat):Int)<(F.length:Int)):=by omega
   go_wp2
   go_ret
   exact⟨rfl,hE⟩
end
section
open Go.RowKit
open bO (dH Nd vl Same)
variable {k:Nat}
theorem Fv{l:List Nat}(ha:bO.Asc l)(hl:∀x,x∈l->x<k):rises (dD l) 0 ((k:Int)-1)=true:=by
 rw[Ai];intro j hj;rw[bJ]at hj;rw[gy hj];have h1:=hl _ (ai hj);refine⟨by omega,by omega,λh0=>?_⟩;rw[gy (by omega)];have:=dx.1 ha (j-1) j (by omega) hj (by omega);omega
theorem Mg{F:dH}(hF:bO.Good F)(hk:k<F.length):rises (dD (F[k]).1) 0 ((k:Int)-1)=true/\rises (dD (F[k]).2) 0 ((k:Int)-1)=true:=by
 have h:=hF.Cf _ (ai hk);have hw:=hF.wf k _ (aa hk);exact⟨Fv h.1 hw.1,Fv h.2 hw.2⟩
def Tt:List Row:=[⟨0,[],40,[4]⟩,⟨1,[],41,[4]⟩,⟨2,[],42,[1]⟩,⟨3,[1,2],43,[40,41]⟩,⟨4,[0,3,3],44,[39,42]⟩,⟨5,[],45,[1]⟩,⟨6,[4,5,4],46,[43,44]⟩,⟨7,[6,6,0,1,2,3,4,5,6],3,[45]⟩]
set_option maxHeartbeats 2000000 in
theorem ML(vf:Value)(F:dH)(w:World)(hf:fu w 0 vf F)(hF:bO.fC F):Calls prog 80 #[.agg #[vf]] w λe w'=>e=.returned (.bool (iQ F))/\Ext w w':=by
 obtain⟨aF,iF,rfl,hcap,p8,-⟩:=id hf;have hxb:Ext w (w.alloc (.cells #[.slice aF F.length iF] 28)):=by go_grown
 cases hfit:iQ F with
 |false=>
  go_enter Tryz.func80,Tryz.ntmps80
  go_wp2_with (go_at_call 135;refine(Dy _ F _ (hf.ext hxb)).mono ?_;rintro e w1 ⟨he,hx1⟩;rw[hfit]at he;subst he)
  go_ret
  exact⟨rfl,ax hxb hx1⟩
 |true=>
  have hlen:F.length<=120/\0<F.length:=by
   unfold iQ at hfit;have:=of_decide_eq_true hfit;omega
  go_enter Tryz.func80,Tryz.ntmps80
  go_wp2_with (go_at_call 135;refine(Dy _ F _ (hf.ext hxb)).mono ?_;rintro e w1 ⟨he,hx1⟩;rw[hfit]at he;subst he)
  have hbx:w1.heap[w.heap.size]?=some (.cells #[.slice aF F.length iF] 28 (0,0)):=by
   rw[hx1.block _ (by rw[eQ];omega)];exact heap_alloc_new _ _
  have hE1:=ax hxb hx1;clear hx1 hxb;go_loopw [3] (λkk wr=>∃k,k<=F.length/\kk=.int .i64 ((k:Nat):Int)/\Ext w1 wr) (λkk _=>F.length-(intOf kk).toNat)
  case atStart=>exact⟨0,aJ _,rfl,Below.refl _ _⟩
  case round=>
   obtain⟨k,hk,rfl,hx⟩:=hrel;have hE:=ax hE1 hx;have hb1:wr.heap[w.heap.size]?=some (.cells #[.slice aF F.length iF] 28 (0,0)):=(by rw[hx.block _ (bu hbx)];exact hbx);have cb:=cell_of_row wr w.heap.size 0 _ _ _ hb1;by_cases hlt:k<F.length
   .have h1:((k:Nat):Int)<(F.length:Int):=by omega
    obtain⟨bF,cF,aL,cL,aR,cR,he,O8,cl,cr,uP,uO⟩:=(hf.ext hE).at hlt;simp only[Value.slice.injEq]at he;obtain⟨rfl,-,rfl⟩:=he;obtain⟨r1,r2⟩:=Mg hF.good hlt;have HX:=aQ hx;clear hb1 hE hx;go_wp2_with (go_at_call 136;refine(Ha _ _ _ _ _ (by first|exact uP|exact lJ uO _)).mono ?_;rintro e w2 ⟨he,n1,rfl⟩;(first|rw[r1]at he|rw[r2]at he);subst he)
    go_roundw
    case rel=>exact⟨k+1,by omega,by go_num,ax HX.out ⟨rfl,rfl,rfl,ay _,λ_ _=>rfl⟩⟩
    case measure=>simp[intOf];omega
   .have h1:¬(((k:Nat):Int)<(F.length:Int)):=by omega
    go_wp2_with fail
    have hpb:=heap_alloc_new wr (.cells #[.slice none 0 0,.slice none 0 0] 157);have Ce:=uq hpb;have hxe:Ext wr (wr.alloc (.cells #[.slice none 0 0,.slice none 0 0] 157)):=(by go_grown);have hB:qI wr (wr.alloc (.cells #[.slice none 0 0,.slice none 0 0] 157)) wr.heap.size (.slice none 0 0) (.slice none 0 0) []:=⟨Ce,λb hb=>by
     rcases hb with h|h|h
     .omega
     .simp[Value.ownBlock]at h
     .simp[Value.ownBlock]at h,hxe⟩
    have hbw:(wr.alloc (.cells #[.slice none 0 0,.slice none 0 0] 157)).heap[w.heap.size]?=some (.cells #[.slice aF F.length iF] 28 (0,0)):=(by rw[hxe.block _ (bu hb1)];exact hb1);have hbl:=bu hb1;generalize wr.alloc (.cells #[.slice none 0 0,.slice none 0 0] 157)=W0 at *;have cw:=cell_of_row W0 w.heap.size 0 _ _ _ hbw;have hd:Ext W0 W0.drew:=⟨rfl,rfl,rfl,ay _,λ_ _=>rfl⟩;have hfr:=hf.ext hE;refine bV (λW=>W.cell? ⟨w.heap.size,0,none⟩=some (.slice aF F.length iF)) [6,7] Tt (by kernel_rfl) ⟨by kernel_rfl,by kernel_rfl,by kernel_rfl⟩ cw (λaz ah=>?_);(refine bT 0 az ah ?_;refine bT 1 az ah ?_;refine bT 2 az ah ?_;refine bT 5 az ah ?_);(refine nM az (i:=3) λK hK=>?_;go_simp);refine(CZ _ _ _ _ _ F wr _ (hB.ext' hd) hfr hF.good hlen.2 (by simp;omega)).mono ?_;rintro e w2 ⟨Cb,pJ,D2,i2,rfl,hB2,hG2,hD2,hi2,hS2⟩;have hbw2:w2.heap[w.heap.size]?=some (.cells #[.slice aF F.length iF] 28 (0,0)):=by
     rw[hG2.keep.block _ (bz (bu hbw) hd.size) (λk=>by
      rcases k with h|h|h
      .omega
      .simp[Value.ownBlock]at h
      .simp[Value.ownBlock]at h)]
     exact hbw
    (refine hK.out _ _ (λ_=>?_) ?_)
    .exact cell_of_row w2 w.heap.size 0 _ _ _ hbw2
    clear hK K;(try simp only[nP]);have akT:=(hB.ext' hd).go hB2 hG2;(refine nM az (i:=4) λK hK=>?_;go_simp);refine(zP _ _ _ D2 i2 _ hB2 hi2).mono ?_;rintro e w3 ⟨vN,F',rfl,hN,hIF,RX,hx3⟩;obtain rfl:F'=F:=bO.BO hIF hF (bO.gU RX hS2);(refine hK.out _ _ (λ_=>?_) ?_)
    .exact(hx3.cell (lt_of_cell (cell_of_row w2 w.heap.size 0 _ _ _ hbw2))).trans (cell_of_row w2 w.heap.size 0 _ _ _ hbw2)
    clear hK K;(try simp only[nP]);have ui:=ax hE (ax akT.ext hx3);refine nU az [6,7] [_,_] ?_;go_wp2_with (go_at_call 137;refine(MJ _ _ F' _ (hN.weaken (aJ _)) (hf.ext ui)).mono ?_;rintro e w4 ⟨rfl,hx4⟩)
    go_ret
    exact⟨rfl,ax ui hx4⟩
theorem Ab(vf:Value)(F:dH)(w:World)(hf:fu w 0 vf F)(hF:bO.fC F):Calls prog 39 #[.agg #[vf]] w λe w'=>e=.returned (.bool (iQ F))/\Ext w w':=by
 obtain⟨aF,iF,rfl,hcap,p8,-⟩:=id hf;have hxb:Ext w (w.alloc (.cells #[.slice aF F.length iF] 28)):=by go_grown
 go_enter Tryz.func39,Tryz.ntmps39
 go_wp2_with (go_at_call 80;refine(ML _ F _ (hf.ext hxb) hF).mono ?_;rintro e w1 ⟨rfl,hx1⟩)
 go_ret
 exact⟨rfl,ax hxb hx1⟩
end
section
open Go.RowKit
open bO (dH Nd vl Same)
variable {Fs:List dH} {i:Nat} {D:dH}
def Forms(w:World)(v:Value)(Fs:List dH):Prop:=∃a cap,v=.slice a Fs.length cap/\Fs.length<=cap/\Fs.length<=maxLen/\
 (0<Fs.length->∃b,a=some ⟨b,0,none⟩/\∀i (h:i<Fs.length),∃aN cN,w.cell? ⟨b,i,none⟩=some (.slice aN (Fs[i]).length cN)/\fu w 0 (.slice aN (Fs[i]).length cN) Fs[i])
theorem Forms.ext{w w':World}{v:Value}{Fs:List dH}(h:Forms w v Fs)(hx:Ext w w'):Forms w' v Fs:=by
 obtain⟨a,cap,rfl,h1,h2,h3⟩:=h;refine⟨a,cap,rfl,h1,h2,λh0=>?_⟩;obtain⟨b,rfl,hc⟩:=h3 h0;refine⟨b,rfl,λi hi=>?_⟩;obtain⟨aN,cN,c1,c2⟩:=hc i hi;exact⟨aN,cN,(hx.cell (lt_of_cell c1)).trans c1,c2.ext hx⟩
theorem Forms.at{w:World}{v:Value}(h:Forms w v Fs)(hi:i<Fs.length):
 ∃b cap aN cN,v=.slice (some ⟨b,0,none⟩) Fs.length cap/\Fs.length<=cap/\w.cell? ⟨b,i,none⟩=some (.slice aN (Fs[i]).length cN)/\fu w 0 (.slice aN (Fs[i]).length cN) Fs[i]:=by
 obtain⟨a,cap,rfl,h1,h2,h3⟩:=h;obtain⟨b,rfl,hc⟩:=h3 (by omega);obtain⟨aN,cN,c1,c2⟩:=hc i hi;exact⟨b,cap,aN,cN,rfl,h1,c1,c2⟩
def sizes(Fs:List dH):Nat:=(Fs.map List.length).sum
theorem tF{k:Nat}(h:k<Fs.length):sizes (Fs.take (k+1))=sizes (Fs.take k)+(Fs[k]).length:=by
 rw[bg h,sizes,bG,List.sum_append];simp[sizes]
theorem Jo(Fs:List dH)(k:Nat):sizes (Fs.take k)<=sizes Fs:=by
 conv=>rhs;rw[<-iV k Fs]
 rw[sizes,sizes,bG,List.sum_append];omega
theorem Zt{F':dH}{root:Nat}(g:bO.Good D)(hr:root<D.length)(hF:bO.fC F')(hs:Same (bO.dZ F') (vl D root)):F'.length<=D.length:=by
 have h:=yE (at_:=List.range D.length) g hr hF hs (dM.2 hr) (λj side x hj hx=>dM.2 (by have:=ku g.wf hx;have:=dM.1 hj;omega))
 simpa using h
theorem Qk{D':dH}{ls rs:List Nat}{Ls Rs:List dH}(g:bO.WF D)(g':bO.WF D')(hl:ls.length=Ls.length)(hr:rs.length=Rs.length)(sl:∀j (h:j<ls.length),ls[j]<D.length/\Same (vl D ls[j]) (bO.dZ (Ls.getD j [])))(sr:∀j (h:j<rs.length),rs[j]<D.length/\Same (vl D rs[j]) (bO.dZ (Rs.getD j [])))
 (hp:jm D ls rs D' i):Same (vl D' i) (.mk (Ls.map bO.dZ) (Rs.map bO.dZ)):=by
 have key:∀{ls:List Nat} {Ls:List dH},ls.length=Ls.length->(∀j (h:j<ls.length),ls[j]<D.length/\Same (vl D ls[j]) (bO.dZ (Ls.getD j [])))->
  (∀y,y∈(bQ ls).map (vl D')->∃z,z∈Ls.map bO.dZ/\Same y z)/\(∀z,z∈Ls.map bO.dZ->∃y,y∈(bQ ls).map (vl D')/\Same y z):=by
  intro ls Ls he hs;refine⟨λy hy=>?_,λz hz=>?_⟩
  .obtain⟨x,hx,rfl⟩:=aH.1 hy
   obtain⟨j,hj,rfl⟩:=aW.1 (bZ.1 hx);obtain⟨h1,h2⟩:=hs j hj;refine⟨_,bE (ai (l:=Ls) (n:=j) (by omega)),?_⟩;rw[hp.vl g g' h1];rw[aj,aa (by omega),bW]at h2;exact h2
  .obtain⟨F,hF,rfl⟩:=aH.1 hz
   obtain⟨j,hj,rfl⟩:=aW.1 hF;obtain⟨h1,h2⟩:=hs j (by omega);refine⟨_,bE (bZ.2 (ai (by omega:j<ls.length))),?_⟩;rw[hp.vl g g' h1];rw[aj,aa hj,bW]at h2;exact h2
 obtain⟨a,b⟩:=key hl sl;obtain⟨c,d⟩:=key hr sr;rw[bO.same_iff,bO.ow g' hp.1,bO.ou g' hp.1];exact⟨a,b,c,d⟩
end
end Go.Proofs.YteknjeohbcgpdaaGreatDoor