/-
  Contracts of the reference's l3Fits, l3Same, l3Good, GoodForm. (2 texts.)
-/
import Derived.Test.YteknjeohbcgpdaaGreatDoorK12
set_option maxRecDepth 100000
namespace Go.Proofs.YteknjeohbcgpdaaGreatDoor
open Tryz
section
open Go.RowKit
open bz (dC Nd vl Same Canon iK)
variable {w:World}
theorem tN{pb:Nat}{t:TypeId}(h:w.heap[pb]?=some (.cells #[.slice none 0 0,.slice none 0 0] t (0,0))):eD w pb (.slice none 0 0) (.slice none 0 0) []:=
 ⟨bz.Good.nil,by simp,⟨t,h⟩,⟨by simp,.inl ⟨rfl,rfl⟩⟩,⟨[],⟨by simp,.inl ⟨rfl,rfl⟩⟩,λi h=>absurd h (by simp)⟩,by simp[Value.ownBlock],by simp[Value.ownBlock],by simp[Value.ownBlock]⟩
theorem eX.set{base:Nat}{v:Value}{F:dC}(h:eX w base v F){p:Addr}(hp:p.block<base)(u:Value):eX (w.setCell p u) base v F:=by
 obtain⟨a,cap,rfl,h1,h2,h3⟩:=h;refine⟨a,cap,rfl,h1,h2,λh0=>?_⟩;obtain⟨b,rfl,hb,hc⟩:=h3 h0;refine⟨b,rfl,hb,λi hi=>?_⟩;obtain⟨L,R,c1,c2,c3,c4,c5,c6⟩:=hc i hi;have e:∀k,base<=k->(w.setCell p u).heap[k]?=w.heap[k]?:=λk hk=>heap_setCell_other _ _ _ _ (by omega)
 exact⟨L,R,by rw[World.cell?_of_block (w:=w) (e b hb)];exact c1,by rw[World.cell?_of_block (w:=w) (e b hb)];exact c2,c3.keep (λb hl hb'=>e b (c5 b hb').1),c4.keep (λb hl hb'=>e b (c6 b hb').1),by simpa using c5,by simpa using c6⟩
def Qe(F:dC)(w:World)(e:Ending)(w':World):Prop:=
 ∃vN F' g,e=.returned (.agg #[vN])/\eX w' w.heap.size vN F'/\bz.fq F'/\Same (bz.eu F') g/\Canon g/\iK g (bz.eu F)/\F'.length<=F.length/\Ext w w'
set_option maxHeartbeats 2000000 in
theorem AQ(vf:Value)(F:dC)(w:World)(hf:eX w 0 vf F)(hF:bz.Good F)(h0:0<F.length)(hroom:3*F.length<=1000000):
 Calls prog 78 #[.agg #[vf]] w (Qe F w):=by
 obtain⟨i0,hi0,hz0,hz1,hz2⟩:=info_parts iy;obtain⟨aF,iJ,rfl,-⟩:=id hf;have hGF:=aH hF;go_enter Tryz.func78,Tryz.ntmps78
 go_wp2
 obtain⟨we,xu⟩:∃we,we=((w.alloc (.cells #[.slice aF F.length iJ] 28)).alloc (.cells #[.slice none 0 0] 28)).alloc (.cells #[.slice none 0 0,.slice none 0 0] 157):=⟨_,rfl⟩;have YK:we.heap.size=w.heap.size+3:=by rw[xu];simp
 have hb0:we.heap[w.heap.size]?=some (.cells #[.slice aF F.length iJ] 28 (0,0)):=by
  rw[xu,Below.heap_alloc _ _ _ (by simp;omega),Below.heap_alloc _ _ _ (by simp)];exact heap_alloc_new _ _
 have hb1:we.heap[w.heap.size+1]?=some (.cells #[.slice none 0 0] 28 (0,0)):=by
  rw[xu,Below.heap_alloc _ _ _ (by simp)];have h:=heap_alloc_new (w.alloc (.cells #[.slice aF F.length iJ] 28)) (.cells #[.slice none 0 0] 28);rw[fw]at h;exact h
 have hb2:we.heap[w.heap.size+1+1]?=some (.cells #[.slice none 0 0,.slice none 0 0] 157 (0,0)):=by
  rw[xu];have h:=heap_alloc_new ((w.alloc (.cells #[.slice aF F.length iJ] 28)).alloc (.cells #[.slice none 0 0] 28)) (.cells #[.slice none 0 0,.slice none 0 0] 157);rw[fw,fw]at h;exact h
 have hxe:Ext w we:=by rw[xu];go_grown
 have Bn:eD we (w.heap.size+1+1) (.slice none 0 0) (.slice none 0 0) []:=tN hb2;have hB:qy w we (w.heap.size+1+1) (.slice none 0 0) (.slice none 0 0) []:=⟨Bn,λb hb=>by
  rcases hb with h|h|h
  .omega
  .simp[Value.ownBlock]at h
  .simp[Value.ownBlock]at h,hxe⟩
 have hsd:∀b,b<w.heap.size+2->Beside we (w.heap.size+1+1) (.slice none 0 0) (.slice none 0 0) [] b:=λb hb=>⟨λk=>by
  rcases k with h|h|h
  .omega
  .simp[Value.ownBlock]at h
  .simp[Value.ownBlock]at h,λ⟨i,g,cap,v,hi,_⟩=>by simp at hi⟩
 rw[<-xu];have hxa:Ext we (we.alloc (.cells #[] 3)):=by go_grown
 have Sm:w.heap.size+1+1+1=we.heap.size:=by omega
 rw[Sm];have hzl:w.heap.size+2<we.heap.size:=by omega
 clear xu YK Sm
 go_loopw [4,5] (λav kk wr=>∃k uj wI D' at_,k<=F.length/\kk=.int .i64 ((k:Nat):Int)/\at_.length=k/\wr.ownsRow we.heap.size 3 1 av k ((dx at_).map (Value.int .i64))/\eD wr (w.heap.size+1+1) uj wI D'/\gZ we wr (w.heap.size+1+1) (.slice none 0 0) (.slice none 0 0) [] uj wI D'/\D'.length<=3*k/\
  (∀b,av.ownBlock=some b->we.heap.size<=b/\Beside wr (w.heap.size+1+1) uj wI D' b)/\wr.heap[w.heap.size]?=some (.cells #[.slice aF F.length iJ] 28 (0,0))/\Beside wr (w.heap.size+1+1) uj wI D' w.heap.size/\wr.heap[w.heap.size+1]?=some (.cells #[.slice none 0 0] 28 (0,0))/\Beside wr (w.heap.size+1+1) uj wI D' (w.heap.size+1)/\Hid (Ej D' F at_)) (λ_ kk _=>F.length-(intOf kk).toNat)
 case atStart=>
  refine⟨0,_,_,[],[],az _,rfl,rfl,fC we _ (ai _) _,Bn.ext hxa,gZ.ext Bn hxa,ai _,λb hb=>?_,?_,?_,?_,?_,Ej.nil F⟩
  .simp[Value.ownBlock]at hb;subst hb
   exact⟨ai _,(Beside.new Bn (b:=we.heap.size) (ai _)).Hl Bn hxa⟩
  .rw[hxa.block _ (by omega)];exact hb0
  .exact(hsd _ (by omega)).Hl Bn hxa
  .rw[hxa.block _ (by omega)];exact hb1
  .exact(hsd _ (by omega)).Hl Bn hxa
 case round=>
  obtain⟨k,pV,vb1,D1,at_,hk,rfl,hal,hown,hB1,hG1,hD1,yV,lC,hbb,hres,hrb,HA⟩:=hrel;have Kj:=hB.go hB1 hG1;have agZ:=cell_of_row wr w.heap.size 0 _ _ _ lC;by_cases hlt:k<F.length
  .have hlt':((k:Nat):Int)<(F.length:Int):=by omega
   obtain⟨bF,cF,aL,cL,aR,cR,he,NI,cl,cr,uo,um⟩:=hf.at hlt;simp only[Value.slice.injEq]at he;obtain⟨rfl,-,rfl⟩:=he;have gl:=rO hGF.out hlt;have hwk:=hGF.out.wf k _ (aa hlt)
   have pq:∀W,Ext w W->W.heap[w.heap.size]?=some (.cells #[.slice (some ⟨bF,0,none⟩) F.length iJ] 28 (0,0))->W.cell? ⟨w.heap.size,0,none⟩=some (.slice (some ⟨bF,0,none⟩) F.length iJ)/\W.cell? ⟨bF,k*2,none⟩=some (.slice aL (F[k]).1.length cL)/\W.cell? ⟨bF,k*2+1,none⟩=some (.slice aR (F[k]).2.length cR):=
    λW h1 h2=>⟨cell_of_row W w.heap.size 0 _ _ _ h2,(h1.cell (lt_of_cell cl)).trans cl,(h1.cell (lt_of_cell cr)).trans cr⟩
   have hS0:=pq wr Kj.ext lC;obtain⟨aA,cA,rfl,hcA,_⟩:=bD hown;have hx0:Ext wr wr.drew:=⟨rfl,rfl,rfl,ai _,λ_ _=>rfl⟩;have JD:=Ints.eO (l:=dx at_) hown (by rw[bu];have:=hB1.small;omega);have MN:=aH JD;have HOWN:=aH hown;have HB1:=aH hB1;have Yk:=aH hG1;have Xu:=aH Kj;have Qd:=aH yV;have GZ:=aH lC;have Qb:=aH hres;have xB:=aH hal;have HD1:=aH hD1;have Xp:=aH gl;have UU:=aH hwk;have HIL:=aH uo;have HIR:=aH um;clear hown hB1 hG1 Kj yV lC hres hal JD uo um cl cr NI hD1 gl hwk;go_wp2_with fail
   refine lD (λW=>W.cell? ⟨w.heap.size,0,none⟩=some (.slice (some ⟨bF,0,none⟩) F.length iJ)/\W.cell? ⟨bF,k*2,none⟩=some (.slice aL (F[k]).1.length cL)/\W.cell? ⟨bF,k*2+1,none⟩=some (.slice aR (F[k]).2.length cR)) [20,21] (by kernel_rfl) hS0 (λae=>?_);(refine kW 0 ae ?_;refine kW 1 ae ?_;refine kW 2 ae ?_;refine kW 3 ae ?_;refine kW 4 ae ?_;refine kW 5 ae ?_;refine kW 6 ae ?_;refine kW 7 ae ?_;refine kW 8 ae ?_;refine kW 10 ae ?_;refine kW 11 ae ?_;refine kW 12 ae ?_;refine kW 13 ae ?_;refine kW 14 ae ?_;refine kW 15 ae ?_;refine kW 16 ae ?_);(refine stA (i:=9) λK hK=>?_;go_simp);have hlen1:(dx (F[k]).1).length<=1000000000:=(by rw[bu];have:=Xp.out.1;omega);have NF:(dx (F[k]).2).length<=1000000000:=(by rw[bu];have:=Xp.out.2;omega);have Uy:∀x,x∈dx (F[k]).1->0<=x/\x<(dx at_).length:=λx hx=>by obtain⟨n,hn,rfl⟩:=ni hx;have:=UU.out.1 n hn;rw[bu,xB.out];omega
   have Ux:∀x,x∈dx (F[k]).2->0<=x/\x<(dx at_).length:=λx hx=>by obtain⟨n,hn,rfl⟩:=ni hx;have:=UU.out.2 n hn;rw[bu,xB.out];omega
   refine(rE _ _ (dx at_) (dx (F[k]).1) _ (MN.out.ext hx0) (HIL.out.ext (ay Xu.out.ext hx0)) Uy hlen1).mono ?_;rintro e w1 ⟨v1,rfl,hI1,hx1⟩;have CZ:=ay hx0 hx1;(refine hK.out _ _ (λ_=>?_) ?_)
   .exact pq _ (ay Xu.out.ext CZ) (by rw[CZ.block _ (bG GZ.out)];exact GZ.out)
   clear hK K;(try simp only[nP]);(refine stA (i:=17) λK hK=>?_;go_simp);refine(rE _ _ (dx at_) (dx (F[k]).2) _ (MN.out.ext CZ) (HIR.out.ext (ay Xu.out.ext CZ)) Ux NF).mono ?_;rintro e w2 ⟨v2,rfl,hI2,hx2⟩;have rH:=ay CZ hx2;have yT:w2.heap[w.heap.size]?=some (.cells #[.slice (some ⟨bF,0,none⟩) F.length iJ] 28 (0,0)):=(by rw[rH.block _ (bG GZ.out)];exact GZ.out);(refine hK.out _ _ (λ_=>?_) ?_)
   .exact pq _ (ay Xu.out.ext rH) yT
   clear hK K;(try simp only[nP]);have Mh:=hI1.ext hx2;rw[BO]at Mh hI2;have hB2:=HB1.out.ext rH;have Tu:∀i (h:i<at_.length),at_[i]<D1.length:=HA.out.lt;have hG2:=Yk.out.trans (gZ.ext HB1.out rH);have yU:∀b,Value.ownBlock (.slice aA k cA)=some b->we.heap.size<=b/\Beside w2 (w.heap.size+1+1) pV vb1 D1 b:=λb hb=>⟨(Qd.out b hb).1,(Qd.out b hb).2.Hl HB1.out rH⟩
   have Ea:=hbb.Hl HB1.out rH;have hown2:=dn HOWN.out rH;(refine stA (i:=18) λK hK=>?_;go_simp);refine(Lh (w.heap.size+1+1) pV vb1 D1 _ _ _ _ _ hB2 Mh hI2 (GH UU.out.1 xB.out Tu) (GH UU.out.2 xB.out Tu) (by simp;have:=Xp.out.1;omega) (by simp;have:=Xp.out.2;omega) (by have:=HD1.out;omega) (JX HA.out UU.out.1 xB.out) (JX HA.out UU.out.2 xB.out)).mono ?_;rintro e w3 ⟨Bf,pF,D2,i2,rfl,hB3,hK3,yX,Tz,xx,hi3,hC3,NJ,hW3⟩;have iX:gZ w2 w3 (w.heap.size+1+1) pV vb1 D1 Bf pF D2:=⟨hK3,yX,Tz,by obtain⟨E,h,_⟩:=xx;exact⟨E,h⟩⟩;have pI:w3.heap[w.heap.size]?=some (.cells #[.slice (some ⟨bF,0,none⟩) F.length iJ] 28 (0,0)):=(by rw[hK3.block _ (bG yT) Ea.ins];exact yT);have hG3:=hG2.trans iX;have Ec:=hB.go hB3 hG3;(refine hK.out _ _ (λ_=>?_) ?_)
   .exact pq _ Ec.ext pI
   clear hK K;(try simp only[nP]);(refine stA (i:=19) λK hK=>?_;go_simp);have hx4:Ext w3 (w3.alloc (.cells #[.int .i64 ((i2:Nat):Int)] 3)):=(by go_grown);(refine hK.out _ _ (λ_=>?_) ?_)
   .exact pq _ (ay Ec.ext hx4) (by rw[hx4.block _ (bG pI)];exact pI)
   clear hK K;(try simp only[nP]);have hown3:=bO hown2 hK3 (λb hb=>(yU b hb).2.ins);have YI:=hG3.keep.size;refine Yq [20,21] [_,_] ?_;refine bQ rfl (.tmp 16) (.tmp 35) 80 rfl we.heap.size 3 i0 (.int .i64 0) 1 8 underlying80 hi0 hz0 hz1 hz2 rfl (by decide) (.slice aA k cA) k ((dx at_).map (Value.int .i64)) rfl (dn hown3 hx4) _ 1 _ [.int .i64 ((i2:Nat):Int)] rfl rfl (.inr ⟨_,rfl,cK (bP _ _ _)⟩) one_cell (by unfold maxLen;omega) (by omega) (by rw[fw];omega) ?_;intro v5 w5 fI hg5 hl5;have rM:∀b,Value.ownBlock (.slice aA k cA)=some b->we.heap.size<=b/\Beside w3 (w.heap.size+1+1) Bf pF D2 b:=λb hb=>⟨(yU b hb).1,(yU b hb).2.go (hown2.lt b hb).2 iX⟩
   have Tt:=Ea.go (bG yT) iX;obtain⟨TJ,Ke,uQ,hside⟩:=Beside.row hG3 hB3 rM hx4 hg5 hl5;have Tq:=hside _ Tt;have yS:w5.heap[w.heap.size]?=some (.cells #[.slice (some ⟨bF,0,none⟩) F.length iJ] 28 (0,0)):=by
    rw[hg5.block _ (by rw[fw];have:=bG pI;omega) (λe=>by have:=(rM _ e.symm).1;omega),hx4.block _ (bG pI)];exact pI
   have abG:=(hrb.Hl HB1.out rH).go (aQ (bG Qb.out) rH.size) iX;have pG:w3.heap[w.heap.size+1]?=some (.cells #[.slice none 0 0] 28 (0,0)):=by
    rw[hK3.block _ (aQ (bG Qb.out) rH.size) (hrb.Hl HB1.out rH).ins,rH.block _ (bG Qb.out)];exact Qb.out
   have Ph:=hside _ abG;have EY:w5.heap[w.heap.size+1]?=some (.cells #[.slice none 0 0] 28 (0,0)):=by
    rw[hg5.block _ (by rw[fw];have:=bG pG;omega) (λe=>by have:=(rM _ e.symm).1;omega),hx4.block _ (bG pG)];exact pG
   have hlen:D2.length<=3*(k+1):=(by obtain⟨E,rfl,hE⟩:=xx;have:=HD1.out;simp;omega);have hsame:Hid (Ej D2 F (at_++[i2])):=Ej.next HB1.out.good.wf hB3.good.wf hGF.out.wf hlt xB.out HA.out xx hi3 hC3 NJ hW3;have H5:=aH TJ;have H6:=aH Ke;have H7:=aH uQ;have H8:=aH yS;have H9:=aH Tq;have H10:=aH EY;have H13:=aH Ph;have H11:=aH fI;have H12:=aH hlen;clear TJ Ke uQ yS Tq EY Ph pG abG fI hlen hg5 hl5 hside rM Tt iX pI hG3 Ec hx4 hown3 hB3 hK3 yX Tz xx hi3 hC3 NJ hW3 yU Ea hown2 hG2 hB2 ae;(try simp only[nP]);go_wp2_with fail
   go_roundw
   case rel=>exact⟨k+1,Bf,pF,D2,at_++[i2],by omega,by go_num,by rw[aj,xB.out];rfl,by simpa [dx]using H11.out,H5.out,H6.out,H12.out,H7.out,H8.out,H9.out,H10.out,H13.out,hsame⟩
   case measure=>simp[intOf];omega
  .have hke:k=F.length:=by omega
   have hlt':¬(((k:Nat):Int)<(F.length:Int)):=(by omega);obtain⟨ga,ca,rfl,Vg,_,hcell⟩:=iB hown (by omega);have hlast:k-1<at_.length:=(by omega);have hc1:wr.cell? ⟨ga,k-1,none⟩=some (.int .i64 ((at_[k-1]:Nat):Int)):=(by rw[hcell _ (by omega)];simp[dx,hlast]);have hrl:=HA.out.lt _ hlast;have hrc:=HA.out.canon _ hlast;have hre:=HA.out.eqv _ hlast;have hrm:at_[k-1]∈at_:=ah hlast;generalize hroot:at_[k-1]=root at *;have HA':=aH (And.intro hrc (And.intro hre hrm));have Qd:=aH yV;have Yk:=aH hG1;have HKE:=aH hke;have xB:=aH hal;have YI:=hG1.keep.size;have hwk:wrap64 ((k:Int)-1)=((k-1:Nat):Int):=(by unfold wrap64;omega);have Wm:((k-1:Nat):Int)<(k:Int):=(by omega);clear hcell yV hG1 hal hroot hrc hre hrm hown hke
   go_wp2_with (first
    |(go_at_call 133;refine(y7 _ pV vb1 D1 root _ hB1 hrl).mono ?_;rintro e w7 ⟨vN,F',rfl,XZ,hIF,XW,hx7⟩
      obtain⟨aN,cN,rfl,-⟩:=id XZ;have uL:w7.heap[w.heap.size+1]?=some (.cells #[.slice none 0 0] 28 (0,0)):=(by rw[hx7.block _ (bG hres)];exact hres);have cr7:=cell_of_row w7 (w.heap.size+1) 0 _ _ _ uL;have fr7:=frozen_of_row w7 (w.heap.size+1) 0 _ _ uL;have hh:=heap_setCell_same w7 (w.heap.size+1) 0 _ _ (.slice aN F'.length cN) uL;have HH:Hid ((w7.setCell ⟨w.heap.size+1,0,none⟩ (.slice aN F'.length cN)).heap[w.heap.size+1]?=some (.cells #[.slice aN F'.length cN] 28 (0,0))):=hh;clear hh))
   (try simp only[Exit.inBlock,Exit.then]);refine bodyPost_ret (results_cell_row rfl _ _ (w.heap.size+1) 28 #[.slice aN F'.length cN] (0,0) _ rfl HH.out underlying28 rfl (by kernel_rfl)) rfl ?_;obtain⟨hrc,hre,hrm⟩:=HA'.out;have hE7:Ext w w7:=ay Kj.ext hx7;have hN8:=(XZ.set (p:=⟨w.heap.size+1,0,none⟩) (by show w.heap.size+1<wr.heap.size;exact bG hres) (.slice aN F'.length cN)).weaken (base':=w.heap.size) Kj.ext.size;have hsm:=xR hB1.good hrl hIF XW hrm HA.out.shut;refine⟨_,F',_,rfl,hN8,hIF,XW,hrc,?_,by have:=xB.out;have:=HKE.out;omega,hE7.setCell (p:=⟨w.heap.size+1,0,none⟩) (by show w.heap.size<=w.heap.size+1;omega) _⟩;have e:k-1=F.length-1:=(by have:=HKE.out;omega);rw[e]at hre;exact hre
end
section
open Go.RowKit
open bz (dC Nd vl Same)
set_option maxHeartbeats 2000000 in
theorem CP(vf:Value)(F:dC)(w:World)(hf:eX w 0 vf F):Calls prog 135 #[.agg #[vf]] w λe w'=>e=.returned (.bool (gQ F))/\Ext w w':=by
 obtain⟨aF,iJ,rfl,hcap,xP,-⟩:=id hf;go_enter Tryz.func135,Tryz.ntmps135
 go_wp2
 have hxb:Ext w (w.alloc (.cells #[.slice aF F.length iJ] 28)):=by go_grown
 have hbx:=cell_of_row (w.alloc (.cells #[.slice aF F.length iJ] 28)) w.heap.size 0 _ _ _ (heap_alloc_new w _);generalize hW:w.alloc (.cells #[.slice aF F.length iJ] 28)=W at *;generalize hp:w.heap.size=p at *;clear hW hp;go_loopw [3] (λkk wr=>wr=W/\∃k,k<=F.length/\k<=121/\kk=.int .i64 ((k:Nat):Int)/\Hid (∀i (h:i<F.length),i<k->(F[i]).1.length<=24/\(F[i]).2.length<=24)) (λkk _=>F.length-(intOf kk).toNat)
 case atStart=>exact⟨rfl,0,az _,by omega,rfl,λi _ h=>absurd h (by omega)⟩
 case round=>
  obtain⟨rfl,k,hk,hk2,rfl,HP⟩:=hrel;by_cases hlt:k<F.length
  .by_cases amX:k<=120
   .obtain⟨bF,cF,aL,cL,aR,cR,he,NI,cl,cr,-,-⟩:=hf.at hlt
    simp only[Value.slice.injEq]at he;obtain⟨rfl,-,rfl⟩:=he;have cl':=(hxb.cell (lt_of_cell cl)).trans cl;have NV:=(hxb.cell (lt_of_cell cr)).trans cr;have h1:((k:Nat):Int)<(F.length:Int):=(by omega);have h2:((k:Nat):Int)<=120:=(by omega);clear cl cr hf;by_cases hl:(F[k]).1.length<=24
    .have hl1:¬((24:Int)<((F[k]).1.length:Int)):=by omega
     by_cases hr:(F[k]).2.length<=24
     .have hr1:¬((24:Int)<((F[k]).2.length:Int)):=by omega
      have HL:=aH hl;have HR:=aH hr;clear hl hr;go_wp2
      go_roundw
      case rel=>exact⟨trivial,k+1,by omega,by omega,by go_num,λi hi hik=>by
       by_cases e:i=k
       .subst e;exact⟨HL.out,HR.out⟩
       .exact HP.out i hi (by omega)⟩
      case measure=>simp[intOf];omega
     .have hr1:((24:Int)<((F[k]).2.length:Int)):=by omega
      have HR:=aH hr;clear hl hr;go_wp2
      go_ret
      exact⟨jq (by symm;rw[gQ];exact decide_eq_false (λh=>HR.out (h.2.2 k hlt).2)),hxb⟩
    .have hl1:((24:Int)<((F[k]).1.length:Int)):=by omega
     have HL:=aH hl;clear hl;go_wp2
     go_ret
     exact⟨jq (by symm;rw[gQ];exact decide_eq_false (λh=>HL.out (h.2.2 k hlt).1)),hxb⟩
   .have h1:((k:Nat):Int)<(F.length:Int):=by omega
    have h2:¬(((k:Nat):Int)<=120):=(by omega);go_wp2_with (go_at_call 60;refine(jr _ _ _ _).mono ?_;rintro e w1 ⟨rfl,n,rfl⟩)
    go_ret
    refine⟨jq ?_,fZ hxb _⟩;have:gQ F=false:=(by rw[gQ];exact decide_eq_false (λh=>by omega));rw[this];simp[DJ];omega
  .have h1:¬(((k:Nat):Int)<(F.length:Int)):=by omega
   go_wp2_with (go_at_call 60;refine(jr _ _ _ _).mono ?_;rintro e w1 ⟨rfl,n,rfl⟩)
   go_ret
   refine⟨jq ?_,fZ hxb _⟩;have hall:=HP.out;rw[gQ,DJ,<-Bool.decide_and];refine decide_eq_decide.2 ⟨λh=>⟨by omega,by omega,λi hi=>hall i hi (by omega)⟩,λh=>⟨by omega,by omega⟩⟩
def Q9:List Row:=[⟨0,[],21,[2]⟩,⟨1,[0],22,[20]⟩,⟨2,[],23,[5]⟩,⟨3,[1,2],24,[21,22]⟩,⟨4,[3],25,[23]⟩,⟨5,[4],26,[24]⟩,⟨6,[],27,[3]⟩,⟨7,[6],28,[26]⟩,⟨8,[],29,[5]⟩,⟨9,[7,8],30,[27,28]⟩,⟨10,[9],31,[29]⟩,⟨11,[10],32,[30]⟩,⟨12,[5,11],33,[25,31]⟩,⟨13,[12],34,[32]⟩,⟨14,[13,12],35,[33]⟩,⟨15,[14],36,[2,34]⟩,⟨16,[15,14],37,[35,34]⟩,⟨17,[14],38,[5,34]⟩,⟨18,[16,17,14],39,[36,37,34]⟩,⟨19,[18,14],40,[38,34]⟩,⟨20,[19,14],41,[39,34]⟩,⟨21,[14],42,[3,34]⟩,⟨22,[21,14],43,[41,34]⟩,⟨23,[14],44,[5,34]⟩,⟨24,[22,23,14],45,[42,43,34]⟩,⟨25,[24,14],46,[44,34]⟩,⟨26,[25,14],47,[45,34]⟩,⟨27,[20,26,14,14],48,[40,46,34]⟩,⟨28,[27,14],49,[47,34]⟩,⟨29,[14,28],50,[34,48]⟩]
set_option maxHeartbeats 2000000 in
theorem Lj(va vb:Value)(F:dC)(w:World)(ha:eX w 0 va F)(hb:eX w 0 vb F):Calls prog 137 #[.agg #[va],.agg #[vb]] w λe w'=>e=.returned (.bool true)/\Ext w w':=by
 obtain⟨aA,Gt,rfl,-⟩:=id ha;obtain⟨aB,JW,rfl,hcapB,xP,-⟩:=id hb;go_enter Tryz.func137,Tryz.ntmps137
 go_wp2
 have hxb:Ext w ((w.alloc (.cells #[.slice aA F.length Gt] 28)).alloc (.cells #[.slice aB F.length JW] 28)):=by go_grown
 have hq:=heap_alloc_new (w.alloc (.cells #[.slice aA F.length Gt] 28)) (.cells #[.slice aB F.length JW] 28);have hp:((w.alloc (.cells #[.slice aA F.length Gt] 28)).alloc (.cells #[.slice aB F.length JW] 28)).heap[w.heap.size]?=some (.cells #[.slice aA F.length Gt] 28 (0,0)):=by
  rw[Below.heap_alloc _ _ _ (by simp)];exact heap_alloc_new _ _
 rw[fw]at hq;generalize hW:(w.alloc (.cells #[.slice aA F.length Gt] 28)).alloc (.cells #[.slice aB F.length JW] 28)=W at *;generalize hqq:w.heap.size+1=q at *;generalize LJ:w.heap.size=p at *;clear hW hqq LJ;go_loopw [5] (λkk wr=>∃k,k<=F.length/\kk=.int .i64 ((k:Nat):Int)/\Ext W wr) (λkk _=>F.length-(intOf kk).toNat)
 case atStart=>exact⟨0,az _,rfl,Below.refl _ _⟩
 case round=>
  obtain⟨k,hk,rfl,hx⟩:=hrel;have hE:=ay hxb hx;have hp1:wr.heap[p]?=some (.cells #[.slice aA F.length Gt] 28 (0,0)):=by rw[hx.block _ (bG hp)];exact hp
  have hq1:wr.heap[q]?=some (.cells #[.slice aB F.length JW] 28 (0,0)):=by rw[hx.block _ (bG hq)];exact hq
  have cp:=cell_of_row wr p 0 _ _ _ hp1;have cq:=cell_of_row wr q 0 _ _ _ hq1;by_cases hlt:k<F.length
  .have h1:((k:Nat):Int)<(F.length:Int):=by omega
   obtain⟨bA,cA,aL,cL,aR,cR,he,hcA,cl,cr,uo,um⟩:=(ha.ext hE).at hlt;simp only[Value.slice.injEq]at he;obtain⟨rfl,-,rfl⟩:=he;obtain⟨bB,cB,Ko,Kn,MG,Mv,he,hcB,cl2,cr2,ac2,ac1⟩:=(hb.ext hE).at hlt;simp only[Value.slice.injEq]at he;obtain⟨rfl,-,rfl⟩:=he;have HIL:=aH uo;have HIR:=aH um;have ahQ:=aH ac2;have ahP:=aH ac1;have HX:=aH hx;have dK:=aH hlt;have hwk:wrap64 ((k:Int)+1)=(k:Int)+1:=(by unfold maxLen at xP;unfold wrap64;omega);clear uo um ac2 ac1 hx hE hp1 hq1;have s1:tX (dx (F[k]).1) (dx (F[k]).1)=true:=(by simp[tX]);have s2:tX (dx (F[k]).2) (dx (F[k]).2)=true:=(by simp[tX]);go_wp2_with fail
   refine bW (λW=>W.cell? ⟨p,0,none⟩=some (.slice (some ⟨bA,0,none⟩) F.length Gt)/\W.cell? ⟨q,0,none⟩=some (.slice (some ⟨bB,0,none⟩) F.length JW)/\W.cell? ⟨bA,k*2,none⟩=some (.slice aL (F[k]).1.length cL)/\W.cell? ⟨bA,k*2+1,none⟩=some (.slice aR (F[k]).2.length cR)/\W.cell? ⟨bB,k*2,none⟩=some (.slice Ko (F[k]).1.length Kn)/\W.cell? ⟨bB,k*2+1,none⟩=some (.slice MG (F[k]).2.length Mv)) [27,28,29] Q9 (by kernel_rfl) ⟨by kernel_rfl,by kernel_rfl,by kernel_rfl⟩ ⟨cp,cq,cl,cr,cl2,cr2⟩ (λax ae=>?_);(refine bT 0 ax ae ?_;refine bT 1 ax ae ?_;refine bT 2 ax ae ?_;refine bT 3 ax ae ?_;refine bT 4 ax ae ?_;refine bT 5 ax ae ?_;refine bT 6 ax ae ?_;refine bT 7 ax ae ?_;refine bT 8 ax ae ?_;refine bT 9 ax ae ?_;refine bT 10 ax ae ?_;refine bT 11 ax ae ?_);(refine oZ ax (i:=12) λK hK=>?_;go_simp);refine(qi _ _ (dx (F[k]).1) (dx (F[k]).1) _ (HIL.out.ext (by exact⟨rfl,rfl,rfl,ai _,λ_ _=>rfl⟩)) (ahQ.out.ext (by exact⟨rfl,rfl,rfl,ai _,λ_ _=>rfl⟩))).mono ?_;rintro e w1 ⟨he,n1,rfl⟩;rw[s1]at he;subst he;have X5:Ext wr.drew (wr.drew.drewN n1):=⟨rfl,rfl,rfl,ai _,λ_ _=>rfl⟩;obtain⟨z1,z2,z3,z4,z5,z6⟩:=ae;have ae:(λW:World=>W.cell? ⟨p,0,none⟩=some (.slice (some ⟨bA,0,none⟩) F.length Gt)/\W.cell? ⟨q,0,none⟩=some (.slice (some ⟨bB,0,none⟩) F.length JW)/\W.cell? ⟨bA,k*2,none⟩=some (.slice aL (F[k]).1.length cL)/\W.cell? ⟨bA,k*2+1,none⟩=some (.slice aR (F[k]).2.length cR)/\W.cell? ⟨bB,k*2,none⟩=some (.slice Ko (F[k]).1.length Kn)/\W.cell? ⟨bB,k*2+1,none⟩=some (.slice MG (F[k]).2.length Mv)) (wr.drew.drewN n1):=⟨(X5.cell (lt_of_cell z1)).trans z1,(X5.cell (lt_of_cell z2)).trans z2,(X5.cell (lt_of_cell z3)).trans z3,(X5.cell (lt_of_cell z4)).trans z4,(X5.cell (lt_of_cell z5)).trans z5,(X5.cell (lt_of_cell z6)).trans z6⟩;refine hK.out _ _ (λ_=>ae) ?_;generalize hwn:wr.drew.drewN n1=wn at ae X5 ⊢;clear hK K hwn z1 z2 z3 z4 z5 z6;have hE8:Ext wr wr.drew:=⟨rfl,rfl,rfl,ai _,λ_ _=>rfl⟩;have hE9:Ext wr wn:=ay hE8 X5;(try simp only[nP]);(refine bT 13 ax ae ?_;refine bT 14 ax ae ?_;refine bT 15 ax ae ?_;refine bT 16 ax ae ?_;refine bT 17 ax ae ?_;refine bT 18 ax ae ?_;refine bT 19 ax ae ?_;refine bT 20 ax ae ?_;refine bT 21 ax ae ?_;refine bT 22 ax ae ?_;refine bT 23 ax ae ?_;refine bT 24 ax ae ?_;refine bT 25 ax ae ?_;refine bT 26 ax ae ?_);refine ow ax [27,28,29] [_,_,_] ?_;go_wp2_with fail
   refine(qi _ _ (dx (F[k]).2) (dx (F[k]).2) _ ?i1 ?i2).mono ?post
   case i1=>exact HIR.out.ext hE9
   case i2=>exact ahP.out.ext hE9
   rintro e w2 ⟨he,n2,rfl⟩;rw[s2]at he;subst he;go_wp2_with fail
   go_roundw
   case rel=>exact⟨k+1,by have:=dK.out;omega,by go_num,ay HX.out (fZ hE9 _)⟩
   case measure=>
    have:=dK.out;rw[hwk];simp[intOf];omega
  .have h1:¬(((k:Nat):Int)<(F.length:Int)):=by omega
   go_wp2
   go_ret
   exact⟨rfl,hE⟩
end
end Go.Proofs.YteknjeohbcgpdaaGreatDoor