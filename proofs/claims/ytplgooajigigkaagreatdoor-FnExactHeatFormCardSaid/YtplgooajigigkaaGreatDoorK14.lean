/- 14 -/
import Derived.Test.YtplgooajigigkaaGreatDoorK13
set_option maxRecDepth 100000
set_option maxHeartbeats 4000000
namespace Go.Proofs.YtplgooajigigkaaGreatDoor
open Tryz
section
open Go.RowKit
open bE (dh Nd vl Same Canon jc)
variable {w:World}
theorem qM{pb:Nat}{t:TypeId}(h:w.heap[pb]?=some (.cells #[.slice none 0 0,.slice none 0 0] t (0,0))):fB w pb (.slice none 0 0) (.slice none 0 0) []:=
 ⟨bE.Good.nil,by simp,⟨t,h⟩,⟨by simp,.inl ⟨rfl,rfl⟩⟩,⟨[],⟨by simp,.inl ⟨rfl,rfl⟩⟩,λi h=>absurd h (by simp)⟩,by simp[Value.ownBlock],by simp[Value.ownBlock],by simp[Value.ownBlock]⟩
theorem dI.set{base:Nat}{v:Value}{F:dh}(h:dI w base v F){p:Addr}(hp:p.block<base)(u:Value):dI (w.setCell p u) base v F:=by
 obtain⟨a,cap,rfl,h1,h2,h3⟩:=h;refine⟨a,cap,rfl,h1,h2,λh0=>?_⟩;obtain⟨b,rfl,hb,hc⟩:=h3 h0;refine⟨b,rfl,hb,λi hi=>?_⟩;obtain⟨L,R,c1,c2,c3,c4,c5,c6⟩:=hc i hi;have e:∀k,base<=k->(w.setCell p u).heap[k]?=w.heap[k]?:=λk hk=>tQ _ _ _ _ (by omega)
 exact⟨L,R,by rw[mP (w:=w) (e b hb)];exact c1,by rw[mP (w:=w) (e b hb)];exact c2,c3.keep (λb hl hb'=>e b (c5 b hb').1),c4.keep (λb hl hb'=>e b (c6 b hb').1),by simpa using c5,by simpa using c6⟩
def Uw(F:dh)(w:World)(e:Ending)(w':World):Prop:=
 ∃vN F' g,e=.returned (.agg #[vN])/\dI w' w.heap.size vN F'/\bE.bI F'/\Same (bE.bz F') g/\Canon g/\jc g (bE.bz F)/\F'.length<=F.length/\Ext w w'
theorem uC(vf:Value)(F:dh)(w:World)(hf:dI w 0 vf F)(hF:bE.Good F)(h0:0<F.length)(hroom:3*F.length<=1000000):
 Calls prog 30 #[.agg #[vf]] w (Uw F w):=by
 obtain⟨i0,hi0,hz0,hz1,hz2⟩:=info_parts iU;obtain⟨aF,gH,rfl,-⟩:=id hf;have hGF:=aW hF;go_enter Tryz.func30,Tryz.ntmps30
 go_wp2
 obtain⟨we,Dh⟩:=fu (((w.alloc (.cells #[.slice aF F.length gH] 30)).alloc (.cells #[.slice none 0 0] 30)).alloc (.cells #[.slice none 0 0,.slice none 0 0] 109));have WG:we.heap.size=w.heap.size+3:=by rw[Dh];simp
 have hb0:we.heap[w.heap.size]?=some (.cells #[.slice aF F.length gH] 30 (0,0)):=by
  rw[Dh,jo _ _ _ (by simp;omega),jo _ _ _ (by simp)];exact eu _ _
 have hb1:we.heap[w.heap.size+1]?=some (.cells #[.slice none 0 0] 30 (0,0)):=by
  rw[Dh,jo _ _ _ (by simp)];have h:=eu (w.alloc (.cells #[.slice aF F.length gH] 30)) (.cells #[.slice none 0 0] 30);rw[fU]at h;exact h
 have hb2:we.heap[w.heap.size+1+1]?=some (.cells #[.slice none 0 0,.slice none 0 0] 109 (0,0)):=by
  rw[Dh];have h:=eu ((w.alloc (.cells #[.slice aF F.length gH] 30)).alloc (.cells #[.slice none 0 0] 30)) (.cells #[.slice none 0 0,.slice none 0 0] 109);rw[fU,fU]at h;exact h
 have hxe:Ext w we:=by rw[Dh];go_grown
 have Cb:fB we (w.heap.size+1+1) (.slice none 0 0) (.slice none 0 0) []:=qM hb2;have hB:qp w we (w.heap.size+1+1) (.slice none 0 0) (.slice none 0 0) []:=⟨Cb,λb hb=>by
  rcases hb with h|h|h
  .omega
  .simp[Value.ownBlock]at h
  .simp[Value.ownBlock]at h,hxe⟩
 have hsd:∀b,b<w.heap.size+2->Beside we (w.heap.size+1+1) (.slice none 0 0) (.slice none 0 0) [] b:=λb hb=>⟨λk=>by
  rcases k with h|h|h
  .omega
  .simp[Value.ownBlock]at h
  .simp[Value.ownBlock]at h,λ⟨i,g,cap,v,hi,_⟩=>by simp at hi⟩
 rw[<-Dh];have hxa:Ext we (we.alloc (.cells #[] 3)):=by go_grown
 have WR:w.heap.size+1+1+1=we.heap.size:=by omega
 rw[WR];have hzl:w.heap.size+2<we.heap.size:=by omega
 clear Dh WG WR
 go_loopw [4,5] (λav kk wr=>∃k uL wB D' at_,k<=F.length/\kk=.int .i64 ((k:Nat):Int)/\at_.length=k/\wr.ownsRow we.heap.size 3 1 av k ((dB at_).map (Value.int .i64))/\fB wr (w.heap.size+1+1) uL wB D'/\fO we wr (w.heap.size+1+1) (.slice none 0 0) (.slice none 0 0) [] uL wB D'/\D'.length<=3*k/\
  (∀b,av.ownBlock=some b->we.heap.size<=b/\Beside wr (w.heap.size+1+1) uL wB D' b)/\wr.heap[w.heap.size]?=some (.cells #[.slice aF F.length gH] 30 (0,0))/\Beside wr (w.heap.size+1+1) uL wB D' w.heap.size/\wr.heap[w.heap.size+1]?=some (.cells #[.slice none 0 0] 30 (0,0))/\Beside wr (w.heap.size+1+1) uL wB D' (w.heap.size+1)/\Hid (G6 D' F at_)) (λ_ kk _=>F.length-(intOf kk).toNat)
 case atStart=>
  refine⟨0,_,_,[],[],aU _,rfl,rfl,iB we _ (aJ _) _,Cb.ext hxa,fO.ext Cb hxa,aJ _,λb hb=>?_,?_,?_,?_,?_,G6.nil F⟩
  .simp[Value.ownBlock]at hb;subst hb
   exact⟨aJ _,(Beside.new Cb (b:=we.heap.size) (aJ _)).Ki Cb hxa⟩
  .rw[hxa.block _ (by omega)];exact hb0
  .exact(hsd _ (by omega)).Ki Cb hxa
  .rw[hxa.block _ (by omega)];exact hb1
  .exact(hsd _ (by omega)).Ki Cb hxa
 case round=>
  obtain⟨k,rY,vb1,D1,at_,hk,rfl,hal,hown,hB1,hG1,hD1,BI,xc,hbb,hres,hrb,HA⟩:=hrel;have JK:=hB.go hB1 hG1;have ang:=bQ wr w.heap.size 0 _ _ _ xc;by_cases hlt:k<F.length
  .have hlt':((k:Nat):Int)<(F.length:Int):=by omega
   obtain⟨bF,cF,aL,cL,aR,cR,he,Nh,cl,cr,xg,xe⟩:=hf.at hlt;simp only[il]at he;obtain⟨rfl,-,rfl⟩:=he;have gl:=vQ hGF.out hlt;have hwk:=hGF.out.wf k _ (af hlt)
   have mI:∀W,Ext w W->W.heap[w.heap.size]?=some (.cells #[.slice (some ⟨bF,0,none⟩) F.length gH] 30 (0,0))->W.cell? ⟨w.heap.size,0,none⟩=some (.slice (some ⟨bF,0,none⟩) F.length gH)/\W.cell? ⟨bF,k*2,none⟩=some (.slice aL (F[k]).1.length cL)/\W.cell? ⟨bF,k*2+1,none⟩=some (.slice aR (F[k]).2.length cR):=
    λW h1 h2=>⟨bQ W w.heap.size 0 _ _ _ h2,fw h1 cl,fw h1 cr⟩
   have hS0:=mI wr JK.ext xc;obtain⟨aA,cA,rfl,hcA,_⟩:=bT hown;have hx0:Ext wr wr.drew:=⟨rfl,rfl,rfl,aJ _,λ_ _=>rfl⟩;have Mr:=Ints.gm (l:=dB at_) hown (by rw[bG];have:=hB1.small;omega);have Qc:=aW Mr;have HOWN:=aW hown;have HB1:=aW hB1;have HG1:=aW hG1;have HBO:=aW JK;have Uv:=aW BI;have J9:=aW xc;have Uq:=aW hres;have zw:=aW hal;have HD1:=aW hD1;have HGL:=aW gl;have YS:=aW hwk;have HIL:=aW xg;have HIR:=aW xe;clear hown hB1 hG1 JK BI xc hres hal Mr xg xe cl cr Nh hD1 gl hwk;go_wp2_with fail
   refine pQ (λW=>W.cell? ⟨w.heap.size,0,none⟩=some (.slice (some ⟨bF,0,none⟩) F.length gH)/\W.cell? ⟨bF,k*2,none⟩=some (.slice aL (F[k]).1.length cL)/\W.cell? ⟨bF,k*2+1,none⟩=some (.slice aR (F[k]).2.length cR)) [20,21] (by kernel_rfl) hS0 (λae=>?_);(refine nX 0 ae ?_;refine nX 1 ae ?_;refine nX 2 ae ?_;refine nX 3 ae ?_;refine nX 4 ae ?_;refine nX 5 ae ?_;refine nX 6 ae ?_;refine nX 7 ae ?_;refine nX 8 ae ?_;refine nX 10 ae ?_;refine nX 11 ae ?_;refine nX 12 ae ?_;refine nX 13 ae ?_;refine nX 14 ae ?_;refine nX 15 ae ?_;refine nX 16 ae ?_);(refine stA (i:=9) λK hK=>?_;go_simp);have hlen1:(dB (F[k]).1).length<=1000000000:=(by rw[bG];have:=HGL.out.1;omega);have Q8:(dB (F[k]).2).length<=1000000000:=(by rw[bG];have:=HGL.out.2;omega);have Yu:∀x,x∈dB (F[k]).1->0<=x/\x<(dB at_).length:=λx hx=>by obtain⟨n,hn,rfl⟩:=o9 hx;have:=YS.out.1 n hn;rw[bG,zw.out];omega
   have PO:∀x,x∈dB (F[k]).2->0<=x/\x<(dB at_).length:=λx hx=>by obtain⟨n,hn,rfl⟩:=o9 hx;have:=YS.out.2 n hn;rw[bG,zw.out];omega
   refine(vw _ _ (dB at_) (dB (F[k]).1) _ (Qc.out.ext hx0) (HIL.out.ext (ah HBO.out.ext hx0)) Yu hlen1).mono ?_;rintro e w1 ⟨v1,rfl,hI1,hx1⟩;have Fu:=ah hx0 hx1;(refine hK.out _ _ (λ_=>?_) ?_)
   .exact mI _ (ah HBO.out.ext Fu) (by rw[Fu.block _ (bW J9.out)];exact J9.out)
   clear hK K;(try simp only[nP]);(refine stA (i:=17) λK hK=>?_;go_simp);refine(vw _ _ (dB at_) (dB (F[k]).2) _ (Qc.out.ext Fu) (HIR.out.ext (ah HBO.out.ext Fu)) PO Q8).mono ?_;rintro e w2 ⟨v2,rfl,hI2,hx2⟩;have vH:=ah Fu hx2;have BG:w2.heap[w.heap.size]?=some (.cells #[.slice (some ⟨bF,0,none⟩) F.length gH] 30 (0,0)):=(by rw[vH.block _ (bW J9.out)];exact J9.out);(refine hK.out _ _ (λ_=>?_) ?_)
   .exact mI _ (ah HBO.out.ext vH) BG
   clear hK K;(try simp only[nP]);have Pk:=hI1.ext hx2;rw[Er]at Pk hI2;have hB2:=HB1.out.ext vH;have XF:∀i (h:i<at_.length),at_[i]<D1.length:=HA.out.lt;have hG2:=HG1.out.trans (fO.ext HB1.out vH);have BH:∀b,Value.ownBlock (.slice aA k cA)=some b->we.heap.size<=b/\Beside w2 (w.heap.size+1+1) rY vb1 D1 b:=λb hb=>⟨(Uv.out b hb).1,(Uv.out b hb).2.Ki HB1.out vH⟩
   have GI:=hbb.Ki HB1.out vH;have hown2:=dD HOWN.out vH;(refine stA (i:=18) λK hK=>?_;go_simp);refine(Og (w.heap.size+1+1) rY vb1 D1 _ _ _ _ _ hB2 Pk hI2 (JV YS.out.1 zw.out XF) (JV YS.out.2 zw.out XF) (by simp;have:=HGL.out.1;omega) (by simp;have:=HGL.out.2;omega) (by have:=HD1.out;omega) (MO HA.out YS.out.1 zw.out) (MO HA.out YS.out.2 zw.out)).mono ?_;rintro e w3 ⟨zS,qE,D2,i2,rfl,hB3,hK3,CB,TD,mZ,hi3,hC3,Zh,hW3⟩;have iq:fO w2 w3 (w.heap.size+1+1) rY vb1 D1 zS qE D2:=⟨hK3,CB,TD,by obtain⟨E,h,_⟩:=mZ;exact⟨E,h⟩⟩;have rP:w3.heap[w.heap.size]?=some (.cells #[.slice (some ⟨bF,0,none⟩) F.length gH] 30 (0,0)):=(by rw[hK3.block _ (bW BG) GI.ins];exact BG);have hG3:=hG2.trans iq;have GM:=hB.go hB3 hG3;(refine hK.out _ _ (λ_=>?_) ?_)
   .exact mI _ GM.ext rP
   clear hK K;(try simp only[nP]);(refine stA (i:=19) λK hK=>?_;go_simp);have hx4:Ext w3 (w3.alloc (.cells #[.int .i64 ((i2:Nat):Int)] 3)):=(by go_grown);(refine hK.out _ _ (λ_=>?_) ?_)
   .exact mI _ (ah GM.ext hx4) (by rw[hx4.block _ (bW rP)];exact rP)
   clear hK K;(try simp only[nP]);have hown3:=bS hown2 hK3 (λb hb=>(BH b hb).2.ins);have Uz:=hG3.keep.size;refine tlA [20,21] [_,_] ?_;refine eO rfl (.tmp 16) (.tmp 35) 41 rfl we.heap.size 3 i0 (.int .i64 0) 1 8 underlying41 hi0 hz0 hz1 hz2 rfl (by decide) (.slice aA k cA) k ((dB at_).map (Value.int .i64)) rfl (dD hown3 hx4) _ 1 _ [.int .i64 ((i2:Nat):Int)] rfl rfl (.inr ⟨_,rfl,fD (dW _ _ _)⟩) one_cell (by unfold maxLen;omega) (by omega) (by rw[fU];omega) ?_;intro v5 w5 lq hg5 hl5;have vO:∀b,Value.ownBlock (.slice aA k cA)=some b->we.heap.size<=b/\Beside w3 (w.heap.size+1+1) zS qE D2 b:=λb hb=>⟨(BH b hb).1,(BH b hb).2.go (hown2.lt b hb).2 iq⟩
   have XE:=GI.go (bW BG) iq;obtain⟨Cc,FB,yn,hside⟩:=Beside.row hG3 hB3 vO hx4 hg5 hl5;have XD:=hside _ XE;have Me:w5.heap[w.heap.size]?=some (.cells #[.slice (some ⟨bF,0,none⟩) F.length gH] 30 (0,0)):=by
    rw[hg5.block _ (by rw[fU];have:=bW rP;omega) (λe=>by have:=(vO _ e.symm).1;omega),hx4.block _ (bW rP)];exact rP
   have agr:=(hrb.Ki HB1.out vH).go (bg (bW Uq.out) vH.size) iq;have rO:w3.heap[w.heap.size+1]?=some (.cells #[.slice none 0 0] 30 (0,0)):=by
    rw[hK3.block _ (bg (bW Uq.out) vH.size) (hrb.Ki HB1.out vH).ins,vH.block _ (bW Uq.out)];exact Uq.out
   have Tj:=hside _ agr;have Iz:w5.heap[w.heap.size+1]?=some (.cells #[.slice none 0 0] 30 (0,0)):=by
    rw[hg5.block _ (by rw[fU];have:=bW rO;omega) (λe=>by have:=(vO _ e.symm).1;omega),hx4.block _ (bW rO)];exact rO
   have hlen:D2.length<=3*(k+1):=(by obtain⟨E,rfl,hE⟩:=mZ;have:=HD1.out;simp;omega);have hsame:Hid (G6 D2 F (at_++[i2])):=G6.next HB1.out.good.wf hB3.good.wf hGF.out.wf hlt zw.out HA.out mZ hi3 hC3 Zh hW3;have H5:=aW Cc;have H6:=aW FB;have H7:=aW yn;have H8:=aW Me;have H9:=aW XD;have H10:=aW Iz;have H13:=aW Tj;have H11:=aW lq;have H12:=aW hlen;clear Cc FB yn Me XD Iz Tj rO agr lq hlen hg5 hl5 hside vO XE iq rP hG3 GM hx4 hown3 hB3 hK3 CB TD mZ hi3 hC3 Zh hW3 BH GI hown2 hG2 hB2 ae;(try simp only[nP]);go_wp2_with fail
   go_roundw
   case rel=>exact⟨k+1,zS,qE,D2,at_++[i2],by omega,by go_num,by rw[bu,zw.out];rfl,by simpa [dB]using H11.out,H5.out,H6.out,H12.out,H7.out,H8.out,H9.out,H10.out,H13.out,hsame⟩
   case measure=>simp[intOf];omega
  .have hke:k=F.length:=by omega
   have hlt':¬(((k:Nat):Int)<(F.length:Int)):=(by omega);obtain⟨ga,ca,rfl,Xy,_,hcell⟩:=iy hown (by omega);have hlast:k-1<at_.length:=(by omega);have hc1:wr.cell? ⟨ga,k-1,none⟩=some (.int .i64 ((at_[k-1]:Nat):Int)):=(by rw[hcell _ (by omega)];simp[dB,hlast]);have hrl:=HA.out.lt _ hlast;have hrc:=HA.out.canon _ hlast;have hre:=HA.out.eqv _ hlast;have hrm:at_[k-1]∈at_:=ai hlast;generalize hroot:at_[k-1]=root at *;have HA':=nY hrc hre hrm;have Uv:=aW BI;have HG1:=aW hG1;have YX:=aW hke;have zw:=aW hal;have Uz:=hG1.keep.size;have hwk:wrap64 ((k:Int)-1)=((k-1:Nat):Int):=(by unfold wrap64;omega);have UE:((k-1:Nat):Int)<(k:Int):=(by omega);clear hcell BI hG1 hal hroot hrc hre hrm hown hke
   go_wp2_with (first
    |(go_at_call 70;refine(vU _ rY vb1 D1 root _ hB1 hrl).mono ?_;rintro e w7 ⟨vN,F',rfl,Rh,hIF,TC,hx7⟩
      obtain⟨aN,cN,rfl,-⟩:=id Rh;have yh:w7.heap[w.heap.size+1]?=some (.cells #[.slice none 0 0] 30 (0,0)):=(by rw[hx7.block _ (bW hres)];exact hres);have cr7:=bQ w7 (w.heap.size+1) 0 _ _ _ yh;have fr7:=gQ w7 (w.heap.size+1) 0 _ _ yh;have hh:=gK w7 (w.heap.size+1) 0 _ _ (.slice aN F'.length cN) yh;have HH:Hid ((w7.setCell ⟨w.heap.size+1,0,none⟩ (.slice aN F'.length cN)).heap[w.heap.size+1]?=some (.cells #[.slice aN F'.length cN] 30 (0,0))):=hh;clear hh))
   (try simp only[Exit.inBlock,Exit.then]);refine bodyPost_ret (results_cell_row rfl _ _ (w.heap.size+1) 30 #[.slice aN F'.length cN] (0,0) _ rfl HH.out underlying30 rfl (by kernel_rfl)) rfl ?_;obtain⟨hrc,hre,hrm⟩:=HA'.out;have Ef:Ext w w7:=ah JK.ext hx7;have hN8:=(Rh.set (p:=⟨w.heap.size+1,0,none⟩) (by show w.heap.size+1<wr.heap.size;exact bW hres) (.slice aN F'.length cN)).weaken (base':=w.heap.size) JK.ext.size;have hsm:=Aj hB1.good hrl hIF TC hrm HA.out.shut;refine⟨_,F',_,rfl,hN8,hIF,TC,hrc,?_,by have:=zw.out;have:=YX.out;omega,ll Ef (w.heap.size+1) 0 _⟩;have e:k-1=F.length-1:=(by have:=YX.out;omega);rw[e]at hre;exact hre
end
section
open Go.RowKit
open bE (dh Nd vl Same)
variable {w w':World} {B n j:Nat} {v:Value} {sl:Nat->Value} {ls:Nat->List Int} {P:Program} {fn:Func} {p u:Tmp} {ty:TypeId}
structure FO(w:World)(B:Nat)(v:Value)(n:Nat)(sl:Nat->Value)(ls:Nat->List Int):Prop where
 row:∃xs,w.ownsRow B 91 2 v n xs/\∀j,j<2*n->xs[j]?=some (sl j)
 own:∀j,j<2*n->w.ownsRow B 3 1 (sl j) (ls j).length ((ls j).map (Value.int .i64))
 ap:∀i j,i<2*n->j<2*n->i≠j->∀b,(sl i).ownBlock=some b->(sl j).ownBlock≠some b
 Zr:∀j,j<2*n->∀b,(sl j).ownBlock=some b->v.ownBlock≠some b
theorem FO.ext(h:FO w B v n sl ls)(hx:Ext w w'):FO w' B v n sl ls:=by
 obtain⟨xs,h1,h2⟩:=h.row;exact⟨⟨xs,dD h1 hx,h2⟩,λj hj=>dD (h.own j hj) hx,h.ap,h.Zr⟩
theorem FO.set(h:FO w B v n sl ls)(hj:j<2*n){l:List Int}(hk:fJ (λb=>(sl j).ownBlock=some b) w w')(ho:w'.ownsRow B 3 1 (sl j) l.length (l.map (Value.int .i64))):FO w' B v n sl (λq=>if q=j then l else ls q):=by
 obtain⟨xs,h1,h2⟩:=h.row;refine⟨⟨xs,bS h1 hk (λb hb e=>h.Zr j hj b e hb),h2⟩,λq hq=>?_,h.ap,h.Zr⟩;by_cases c:q=j
 .subst c;simp only[if_true];exact ho
 .simp only[c,if_false];exact bS (h.own q hq) hk (λb hb e=>h.ap q j hq hj c b hb e)
theorem FO.cell{w:World}{B:Nat}{v:Value}{n:Nat}{sl:Nat->Value}{ls:Nat->List Int}(h:FO w B v n sl ls){i:Nat}(hi:i<n):∃g cap,v=.slice (some ⟨g,0,none⟩) n cap/\n<=cap/\w.cell? ⟨g,i*2,none⟩=some (sl (2*i))/\w.cell? ⟨g,i*2+1,none⟩=some (sl (2*i+1)):=by
 obtain⟨xs,h1,h2⟩:=h.row;obtain⟨g,cap,rfl,hc,_,hcell⟩:=iy h1 (by omega);exact⟨g,cap,rfl,hc,by rw[hcell _ (by omega),iY];exact h2 _ (by omega),by rw[hcell _ (by omega),iY];exact h2 _ (by omega)⟩
theorem FO.slice{w:World}{B:Nat}{v:Value}{n:Nat}{sl:Nat->Value}{ls:Nat->List Int}(h:FO w B v n sl ls){j:Nat}(hj:j<2*n):∃a c,sl j=.slice a (ls j).length c:=by
 obtain⟨a,c,e,_⟩:=bT (h.own j hj);exact⟨a,c,e⟩
def iJ(ls:Nat->List Int):Nat->Int
 | 0=>1
 |j+1=>iJ ls j+(ls j).length
theorem yz{i:Nat}(h:i<=j):iJ ls i<=iJ ls j:=by
 induction j with
 |zero=>have:i=0:=by omega
        subst this;exact Int.le_refl _
 |succ j ih=>
  by_cases c:i=j+1
  .subst c;exact Int.le_refl _
  .have:=ih (by omega);rw[iJ];omega
theorem pV(ls:Nat->List Int)(j:Nat):1<=iJ ls j:=by have:=yz (ls:=ls) (aU j);simpa [iJ]using this
def marked(ls:Nat->List Int)(m:Nat)(q:Nat):List Int:=if q<m then jK (iJ ls q) (ls q).length else ls q
theorem Dc(ls:Nat->List Int)(m:Nat):(λq=>if q=m then jK (iJ ls m) (ls m).length else marked ls m q)=marked ls (m+1):=by
 funext q;unfold marked;by_cases c:q=m
 .subst c;simp
 .by_cases d:q<m
  .simp[c,d,show q<m+1 by omega]
  .simp[c,d,show ¬q<m+1 by omega]
theorem Lt(ls:Nat->List Int):marked ls 0=ls:=by funext q;simp[marked]
def Lists(n:Nat)(sl:Nat->Value)(b:Nat):Prop:=∃j,j<2*n/\(sl j).ownBlock=some b
theorem Gv(v:Value)(n B:Nat)(sl:Nat->Value)(ls:Nat->List Int)(w:World)(h:FO w B v n sl ls)(hn:n<=2000000)(h1:iJ ls (2*n)<=1000000000):
 Calls prog 38 #[v,.int .i64 1] w λe w'=>e=.returned (.int .i64 (iJ ls (2*n)))/\FO w' B v n sl (marked ls (2*n))/\fJ (Lists n sl) w w':=by
 obtain⟨a,cap,rfl,hc,hcm⟩:∃a cap,v=.slice a n cap/\n<=cap/\cap<=maxLen:=by obtain⟨xs,h2,_⟩:=h.row;exact bT h2
 go_enter Tryz.func38,Tryz.ntmps38
 go_wp2
 go_loopw [1,5] (λkk ii wr=>∃i,i<=n/\ii=.int .i64 ((i:Nat):Int)/\kk=.int .i64 (iJ ls (2*i))/\FO wr B (.slice a n cap) n sl (marked ls (2*i))/\fJ (Lists n sl) w wr) (λ_ ii _=>n-(intOf ii).toNat)
 case atStart=>exact⟨0,aU _,rfl,rfl,by rw[Nat.mul_zero,Lt];exact h,fJ.refl _ _⟩
 case round=>
  obtain⟨i,hi,rfl,rfl,hF,hK⟩:=hrel;by_cases hlt:i<n
  .have h2:((i:Nat):Int)<(n:Int):=by omega
   obtain⟨g,cap',he,-,cl,cr⟩:=hF.cell hlt;simp only[il]at he;obtain⟨rfl,-,rfl⟩:=he;have hj0:2*i<2*n:=(by omega);have hj1:2*i+1<2*n:=(by omega);obtain⟨aL,cL,eL⟩:=hF.slice hj0;obtain⟨aR,cR,eR⟩:=hF.slice hj1;have oL:=hF.own _ hj0;have p0:=pV ls (2*i);have p1:=pV ls (2*i+1);have q0:=yz (ls:=ls) (show 2*i+1<=2*n by omega);have q1:=yz (ls:=ls) (show 2*i+1+1<=2*n by omega);have s0:iJ ls (2*i+1)=iJ ls (2*i)+(ls (2*i)).length:=rfl;have s1:iJ ls (2*i+1+1)=iJ ls (2*i+1)+(ls (2*i+1)).length:=rfl;have m0:marked ls (2*i) (2*i)=ls (2*i):=(by simp[marked]);have m1:marked ls (2*i) (2*i+1)=ls (2*i+1):=(by unfold marked;rw[if_neg (by omega)]);rw[m0]at oL eL;rw[m1]at eR;have EL:=aW eL;have ER:=aW eR;rw[eL]at cl oL;rw[eR]at cr;have bL:0<=iJ ls (2*i)/\iJ ls (2*i)+(ls (2*i)).length<=4611686018427387904:=(by omega);have bR:0<=iJ ls (2*i+1)/\iJ ls (2*i+1)+(ls (2*i+1)).length<=4611686018427387904:=(by omega);have S0:=aW s0;have S1:=aW s1;have HF:=aW hF;have HK:=aW hK;clear eL eR m0 m1 s0 s1 q0 q1 hF hK;go_upto_region 5 with(go_at_call 81;refine(Bo _ (ls (2*i)) _ B _ oL bL.1 bL.2).mono ?_;rintro e w1 ⟨rfl,ho1,hk1⟩)
   have hF1:FO w1 B (.slice (some ⟨g,0,none⟩) n cap) n sl (marked ls (2*i+1)):=by
    have:=HF.out.set hj0 (l:=jK (iJ ls (2*i)) (ls (2*i)).length) (by rw[EL.out];exact hk1) (by rw[EL.out,kN];exact ho1);rw[Dc]at this;exact this
   have oR:=hF1.own _ hj1;have m2:marked ls (2*i+1) (2*i+1)=ls (2*i+1):=(by simp[marked]);rw[m2,ER.out]at oR;obtain⟨g2,cap2,he2,-,cl2,Zo⟩:=hF1.cell hlt;simp only[il,bU,Addr.mk.injEq,and_true,true_and]at he2;obtain⟨rfl,rfl⟩:=he2;rw[ER.out]at Zo;have hK1:fJ (Lists n sl) w w1:=HK.out.trans hk1 (λx _ e=>⟨2*i,hj0,by rw[EL.out];exact e⟩);have ZA:=aW hF1;have HK1:=aW hK1;rw[<-S0.out];clear m2 hF1 hK1 cl2 cl cr ho1 hk1 oL;go_wp2_with (go_at_call 81;refine(Bo _ (ls (2*i+1)) _ B _ oR bR.1 bR.2).mono ?_;rintro e w2 ⟨rfl,ho2,hk2⟩)
   go_roundw
   case rel=>
    refine⟨i+1,by omega,by go_num,?_,?_,HK1.out.trans hk2 (λx _ e=>⟨2*i+1,hj1,by rw[ER.out];exact e⟩)⟩
    .rw[show 2*(i+1)=2*i+1+1 by omega,S1.out]
    .have:=ZA.out.set hj1 (l:=jK (iJ ls (2*i+1)) (ls (2*i+1)).length) (by rw[ER.out];exact hk2) (by rw[ER.out,kN];exact ho2)
     rw[Dc]at this;rw[show 2*(i+1)=2*i+1+1 by omega];exact this
   case measure=>simp[intOf];omega
  .have h2:¬(((i:Nat):Int)<(n:Int)):=by omega
   have hie:i=n:=(by omega);subst hie;go_wp2
   go_ret
   exact⟨rfl,hF,hK⟩
theorem Bp(v:Value)(n B:Nat)(sl:Nat->Value)(ls:Nat->List Int)(w:World)(h:FO w B v n sl ls)(hn:n<=2000000)(h1:iJ ls (2*n)<=1000000000):
 Calls prog 11 #[.agg #[v],.int .i64 1] w λe w'=>e=.returned (.int .i64 (iJ ls (2*n)))/\FO w' B v n sl (marked ls (2*n))/\fJ (Lists n sl) w w':=by
 obtain⟨a,cap,rfl,hc,hcm⟩:∃a cap,v=.slice a n cap/\n<=cap/\cap<=maxLen:=by obtain⟨xs,h2,_⟩:=h.row;exact bT h2
 have hE:Ext w (w.alloc (.cells #[.slice a n cap] 30)):=by go_grown
 have b0:=eu w (.cells #[.slice a n cap] 30);go_enter Tryz.func11,Tryz.ntmps11
 go_upto_region 1 with fail
 generalize w.alloc (.cells #[.slice a n cap] 30)=W at *;have c0:=bQ W w.heap.size 0 _ _ _ b0;go_wp2_with (go_at_call 38;refine(Gv _ n B sl ls _ (h.ext hE) hn h1).mono ?_;rintro e w1 ⟨rfl,hF,hk⟩)
 go_ret
 exact⟨rfl,hF,(jR (F:=Lists n sl) hE).trans hk (λ_ _ h=>h)⟩
theorem GH(v:Value)(n B:Nat)(sl:Nat->Value)(ls:Nat->List Int)(w:World)(h:FO w B v n sl (marked ls (2*n)))(hn:n<=2000000)(h1:iJ ls (2*n)<=1000000000):
 Calls prog 39 #[v,.int .i64 1] w λe w'=>e=.returned (.int .i64 (iJ ls (2*n)))/\RD w w':=by
 obtain⟨a,cap,rfl,hc,hcm⟩:∃a cap,v=.slice a n cap/\n<=cap/\cap<=maxLen:=by obtain⟨xs,h2,_⟩:=h.row;exact bT h2
 go_enter Tryz.func39,Tryz.ntmps39
 go_wp2
 go_loopw [1,5] (λkk ii wr=>∃i m,i<=n/\ii=.int .i64 ((i:Nat):Int)/\kk=.int .i64 (iJ ls (2*i))/\wr=w.drewN m) (λ_ ii _=>n-(intOf ii).toNat)
 case atStart=>exact⟨0,0,aU _,rfl,rfl,rfl⟩
 case round=>
  obtain⟨i,m,hi,rfl,rfl,rfl⟩:=hrel;by_cases hlt:i<n
  .have h2:((i:Nat):Int)<(n:Int):=by omega
   obtain⟨g,cap',he,-,cl,cr⟩:=h.cell hlt;simp only[il]at he;obtain⟨rfl,-,rfl⟩:=he;have hj0:2*i<2*n:=(by omega);have hj1:2*i+1<2*n:=(by omega);obtain⟨aL,cL,eL⟩:=h.slice hj0;obtain⟨aR,cR,eR⟩:=h.slice hj1;have p0:=pV ls (2*i);have p1:=pV ls (2*i+1);have p2:=pV ls (2*i+1+1);have q0:=yz (ls:=ls) (show 2*i+1<=2*n by omega);have q1:=yz (ls:=ls) (show 2*i+1+1<=2*n by omega);have s0:iJ ls (2*i+1)=iJ ls (2*i)+(ls (2*i)).length:=rfl;have s1:iJ ls (2*i+1+1)=iJ ls (2*i+1)+(ls (2*i+1)).length:=rfl;have m0:marked ls (2*n) (2*i)=jK (iJ ls (2*i)) (ls (2*i)).length:=(by simp only[marked,hj0,if_true]);have m1:marked ls (2*n) (2*i+1)=jK (iJ ls (2*i+1)) (ls (2*i+1)).length:=(by simp only[marked,hj1,if_true]);have iL:=Ints.gm (h.own _ hj0) (by rw[m0,kN];omega);have iR:=Ints.gm (h.own _ hj1) (by rw[m1,kN];omega);rw[m0]at iL eL;rw[m1]at iR eR;rw[kN]at eL eR;rw[eL]at cl iL;rw[eR]at cr iR;have bL:0<=iJ ls (2*i)/\iJ ls (2*i)+((ls (2*i)).length:Int)<=4611686018427387904:=(by omega);have bR:0<=iJ ls (2*i+1)/\iJ ls (2*i+1)+((ls (2*i+1)).length:Int)<=4611686018427387904:=(by omega);have n0:¬(iJ ls (2*i)+((ls (2*i)).length:Int)<0):=(by omega);have S0:=aW s0;have S1:=aW s1;clear eL eR m0 m1 s0 s1 q0 q1;go_upto_region 5 with(go_at_call 82;refine(BD _ (ls (2*i)).length _ _ (jL iL _) bL.1 bL.2).mono ?_;rintro e w1 ⟨rfl,q,rfl⟩)
   rw[<-S0.out]at n0 ⊢;have n1:¬(iJ ls (2*i+1)+((ls (2*i+1)).length:Int)<0):=(by omega);go_wp2_with (go_at_call 82;refine(BD _ (ls (2*i+1)).length _ _ (by first|exact jL iR _|exact jL (jL iR _) _) bR.1 bR.2).mono ?_;rintro e w2 ⟨rfl,q2,rfl⟩)
   go_roundw
   case rel=>exact⟨i+1,_,by omega,by go_num,by rw[show 2*(i+1)=2*i+1+1 by omega,S1.out],by first|rfl|simp only[World.drewN_drewN]⟩
   case measure=>simp[intOf];omega
  .have h2:¬(((i:Nat):Int)<(n:Int)):=by omega
   have hie:i=n:=(by omega);subst hie;go_wp2
   go_ret
   exact⟨rfl,AY _ _⟩
theorem BF(v:Value)(n B:Nat)(sl:Nat->Value)(ls:Nat->List Int)(w:World)(h:FO w B v n sl (marked ls (2*n)))(hn:n<=2000000)(h1:iJ ls (2*n)<=1000000000):
 Calls prog 12 #[.agg #[v],.int .i64 1] w λe w'=>e=.returned (.int .i64 (iJ ls (2*n)))/\Ext w w':=by
 obtain⟨a,cap,rfl,hc,hcm⟩:∃a cap,v=.slice a n cap/\n<=cap/\cap<=maxLen:=by obtain⟨xs,h2,_⟩:=h.row;exact bT h2
 have hE:Ext w (w.alloc (.cells #[.slice a n cap] 30)):=by go_grown
 have b0:=eu w (.cells #[.slice a n cap] 30);have hp:=pV ls (2*n);go_enter Tryz.func12,Tryz.ntmps12
 go_upto_region 1 with fail
 generalize w.alloc (.cells #[.slice a n cap] 30)=W at *;have c0:=bQ W w.heap.size 0 _ _ _ b0;go_wp2_with (go_at_call 39;refine(GH _ n B sl ls _ (h.ext hE) hn h1).mono ?_;rintro e w1 ⟨rfl,q,rfl⟩)
 go_ret
 exact⟨rfl,eH hE _⟩
def mV(F:dh)(j:Nat):List Int:=if j % 2=0 then dB (F.getD (j / 2) ([],[])).1 else dB (F.getD (j / 2) ([],[])).2
theorem FO.oP{G:Nat->Prop}(h:FO w B v n sl ls)(hk:fJ G w w')(hG:∀b,G b->b<B):FO w' B v n sl ls:=by
 obtain⟨xs,h1,h2⟩:=h.row;exact⟨⟨xs,bS h1 hk (λb hb g=>by have:=hG b g;have:=(h1.lt b hb).1;omega),h2⟩,λj hj=>bS (h.own j hj) hk (λb hb g=>by have:=hG b g;have:=((h.own j hj).lt b hb).1;omega),h.ap,h.Zr⟩
theorem FO.lists(h:FO w B v n sl ls){b:Nat}(hb:Lists n sl b):B<=b/\b<w.heap.size:=by
 obtain⟨j,hj,e⟩:=hb;exact(h.own j hj).lt b e
theorem FO.top(h:FO w B v n sl ls):∃a c,v=.slice a n c:=by
 obtain⟨xs,h1,_⟩:=h.row;obtain⟨a,c,h,_⟩:=bT h1;exact⟨a,c,h⟩
theorem FO.nodes{F:dh}(h:FO w B v F.length sl (mV F))(hs:∀j,j<2*F.length->(mV F j).length<=1152921504606846976)(hl:F.length<=maxLen):dI w 0 v F:=by
 obtain⟨xs,h1,h2⟩:=h.row;refine dI.gm (K:=λ_=>False) (qd h1 (aU _)) (λi hi=>?_);have g:F.getD i ([],[])=F[i]:=by rw[bD,af hi];rfl
 have e0:mV F (2*i)=dB (F[i]).1:=by unfold mV;rw[if_pos (by omega),show 2*i / 2=i by omega,g]
 have e1:mV F (2*i+1)=dB (F[i]).2:=by unfold mV;rw[if_neg (by omega),show(2*i+1) / 2=i by omega,g]
 have o0:=h.own (2*i) (by omega);have o1:=h.own (2*i+1) (by omega);have s0:=hs (2*i) (by omega);have s1:=hs (2*i+1) (by omega);rw[e0]at o0 s0;rw[e1]at o1 s1;exact⟨sl (2*i),sl (2*i+1),by rw[iY];exact h2 _ (by omega),by rw[iY];exact h2 _ (by omega),Ints.gm o0 s0,Ints.gm o1 s1,λb hb=>⟨aU _,(o0.lt b hb).2,id⟩,λb hb=>⟨aU _,(o1.lt b hb).2,id⟩⟩
theorem Dp(h:fn.results=#[.cell p ty,.tmp u])(tmps:Array Value)(w:World)(g:Nat)(t:TypeId)(cs:Array Value)(fr:Nat × Nat)(d:TypeDesc)
 (hp:tmps.getD p undef=.pointer (some ⟨g,0,none⟩)) (hg:w.heap[g]?=some (.cells cs t fr))
 (hu:P.underlying ty=some d) (hd:(match d with | .struct _ | .array _ _=>true|_=>false)=true) (hi:(P.info? ty).map (·.size)=some cs.size) (hv:tmps.getD u undef=v):
 (results fn tmps).run P w=.ok (.tuple #[.agg cs,v]) w:=by
 have hp':tmps[p]?.getD undef=.pointer (some ⟨g,0,none⟩):=by simpa using hp
 subst hv;rw[results_cell_tmp h];simp[hp',asAddr,run_loadVar_row w g t ty cs fr d hg hu hd hi]
theorem mg{R:Ending->World->Prop}{a:Act}{d:TypeDesc}(g:Nat)(t:TypeId)(cs:Array Value)(hg:w.heap[g]?=some (.cells cs t (0,0)))(hu:P.underlying ty=some d)
 (hR:R (.returned (.tuple #[.agg cs,v])) w) (h:fn.results=#[.cell p ty,.tmp u]:=by exact rfl) (hp:a.tmps.getD p undef=.pointer (some ⟨g,0,none⟩):=by exact rfl) (hd:(match d with | .struct _ | .array _ _=>true|_=>false)=true:=by exact rfl) (hi:(P.info? ty).map (·.size)=some cs.size:=by kernel_rfl) (hv:a.tmps.getD u undef=v:=by exact rfl) (hq:a.defers=[]:=by exact rfl):bodyPost P fn R .ret a w:=
 bodyPost_ret (Dp h a.tmps w g t cs (0,0) d hp hg hu hd hi hv) hq hR
end
section
open Go.RowKit
open bE (dh Nd vl Same bI bz)
def GV(F:dh)(r:Nat)(w:World)(e:Ending)(w':World):Prop:=
 ∃vN E,e=.returned (.agg #[vN])/\dI w' w.heap.size vN E/\bI E/\Same (bz E) (vl F r)/\Ext w w'
theorem Oj(vf:Value)(F:dh)(r:Nat)(w:World)(hf:dI w 0 vf F)(hF:bE.Good F)(hr:r<F.length)(hroom:F.length<=1000000):
 Calls prog 154 #[.agg #[vf],.int .i64 (r:Int)] w (GV F r w):=by
 obtain⟨aF,gH,rfl,-⟩:=id hf;obtain⟨we,Dh,WG,hb0,hb1,hb2,hxe⟩:∃we,we=((w.alloc (.cells #[.slice aF F.length gH] 30)).alloc (.cells #[.slice none 0 0] 30)).alloc (.cells #[.slice none 0 0,.slice none 0 0] 109)/\we.heap.size=w.heap.size+3/\we.heap[w.heap.size]?=some (.cells #[.slice aF F.length gH] 30 (0,0))/\we.heap[w.heap.size+1]?=some (.cells #[.slice none 0 0] 30 (0,0))/\we.heap[w.heap.size+1+1]?=some (.cells #[.slice none 0 0,.slice none 0 0] 109 (0,0))/\Ext w we:=by
  refine⟨_,rfl,by simp,?_,?_,?_,by go_grown⟩
  .rw[jo _ _ _ (by simp;omega),jo _ _ _ (by simp)];exact eu _ _
  .rw[jo _ _ _ (by simp)];have h:=eu (w.alloc (.cells #[.slice aF F.length gH] 30)) (.cells #[.slice none 0 0] 30);rw[fU]at h;exact h
  .have h:=eu ((w.alloc (.cells #[.slice aF F.length gH] 30)).alloc (.cells #[.slice none 0 0] 30)) (.cells #[.slice none 0 0,.slice none 0 0] 109);rw[fU,fU]at h;exact h
 have Cb:fB we (w.heap.size+1+1) (.slice none 0 0) (.slice none 0 0) []:=qM hb2;have hB:qp w we (w.heap.size+1+1) (.slice none 0 0) (.slice none 0 0) []:=⟨Cb,λb hb=>by
  rcases hb with h|h|h
  .omega
  .simp[Value.ownBlock]at h
  .simp[Value.ownBlock]at h,hxe⟩
 have hsd:Beside we (w.heap.size+1+1) (.slice none 0 0) (.slice none 0 0) [] (w.heap.size+1):=⟨λk=>by
  rcases k with h|h|h
  .omega
  .simp[Value.ownBlock]at h
  .simp[Value.ownBlock]at h,λ⟨i,g,cap,v,hi,_⟩=>by simp at hi⟩
 have c0:=bQ we w.heap.size 0 _ _ _ hb0;simp only[gE]at c0;have Ka:=aW (abq (w.heap.size+1+1) _ _ [] (.slice aF F.length gH) F w we hB hf hF (by simpa using hroom));have HB:=Ap hB hsd hb1 WG;have HR:=aW hr;clear hB hsd hb0 hb1 hb2 hxe WG Cb hf hF hr;go_enter Tryz.func154,Tryz.ntmps154
 go_upto_region 2 with fail
 rw[<-Dh];clear Dh;go_upto_region 3 with(go_at_call 153;refine Ka.out.mono ?_;rintro e w2 ⟨v2,zS,qE,D2,at_,rfl,hI2,hB2,hG2,hl2,hal,hat⟩)
 obtain⟨a2,cap2,rfl,alA,hcap2,hc2⟩:=hI2;simp only[bG]at alA hcap2 hc2 ⊢;have hrl:r<at_.length:=by have:=HR.out;omega
 obtain⟨g,off,rfl,hcell⟩:=hc2 (by omega);have hck:=hcell r hrl;rw[iA hrl]at hck;obtain⟨hx1,hx2⟩:=hat r hrl;have JK:=HB.out.1.go hB2 hG2;have hres:=(hG2.keep.block _ (bW HB.out.2.2.1) HB.out.2.1.ins).trans HB.out.2.2.1;have Zv:=Aw hx2 JK.ext hres hG2.keep.size HB.out.2.2.2;have Y0:=aW (vU (w.heap.size+1+1) zS qE D2 at_[r] w2 hB2 hx1);have hrI:((r:Nat):Int)<((at_.length:Nat):Int):=by omega
 clear hx2 JK hres hG2 hB2 hat hal hl2 hc2 hcell hx1
 go_wp2_with (go_at_call 70;refine Y0.out.mono ?_;rintro e w7 ⟨vN,E,rfl,Rh,Zj,TC,hx7⟩
              obtain⟨aN,cN,rfl⟩:=Rh.slice;have Q5:=ik hx7 Zv.out.2.2.1;have z1:=bQ _ (w.heap.size+1) 0 _ _ _ Q5;have z2:=gQ _ (w.heap.size+1) 0 _ _ Q5;have H7:=Aw Rh Zj TC hx7 Q5;clear Rh Zj TC hx7 Q5)
 (try simp only[Exit.inBlock,Exit.then]);refine bodyPost_ret (results_cell_row rfl _ _ (w.heap.size+1) 30 _ (0,0) _ rfl (gK _ (w.heap.size+1) 0 _ _ (.slice aN E.length cN) H7.out.2.2.2.2) underlying30 rfl (by kernel_rfl)) rfl ?_;obtain⟨Rh,Zj,TC,hx7,-⟩:=H7.out;obtain⟨hx2,hE2,hres,hsz,WG⟩:=Zv.out;refine⟨.slice aN E.length cN,E,rfl,(Rh.set (p:=⟨w.heap.size+1,0,none⟩) (by show w.heap.size+1<w2.heap.size;omega) _).weaken (by omega),Zj,bE.dn TC hx2,ll (ah hE2 hx7) (w.heap.size+1) 0 _⟩
end
