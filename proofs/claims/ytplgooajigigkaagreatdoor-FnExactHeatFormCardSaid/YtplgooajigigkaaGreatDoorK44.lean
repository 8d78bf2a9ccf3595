/- 44 -/
import Derived.Test.YtplgooajigigkaaGreatDoorK41
import Derived.Test.YtplgooajigigkaaGreatDoorK42
set_option maxRecDepth 100000
set_option maxHeartbeats 4000000
namespace Go.Proofs.YtplgooajigigkaaGreatDoor
open Tryz
section
open Go.RowKit
open bE (dh Nd vl Same)
variable {D:dh} {Fs:List dh} {ls:List Nat}
def YM(Ls Rs:List dh)(w:World)(e:Ending)(w':World):Prop:=
 ∃vN F',e=.returned (.agg #[vN])/\dI w' w.heap.size vN F'/\bE.bI F'/\Same (bE.bz F') (.mk (Ls.map bE.bz) (Rs.map bE.bz))/\F'.length<=sizes Ls+sizes Rs+1/\Ext w w'
def J3(D:dh)(Fs:List dh)(ls:List Nat):Prop:=∀j (h:j<ls.length),ls[j]<D.length/\Same (vl D ls[j]) (bE.bz (Fs.getD j []))
theorem J3.more{D':dh}(h:J3 D Fs ls)(g:bE.WF D)(g':bE.WF D')(hm:∃E,D'=D++E):J3 D' Fs ls:=by
 obtain⟨E,rfl⟩:=hm;intro j hj;obtain⟨a,b⟩:=h j hj;exact⟨by simp;omega,by rw[bE.jJ g g' _ a];exact b⟩
theorem J3.snoc{i:Nat}(h:J3 D Fs ls)(hi:i<D.length)(hs:Same (vl D i) (bE.bz (Fs.getD ls.length []))):J3 D Fs (ls++[i]):=
 xP (P:=λa j=>a<D.length/\Same (vl D a) (bE.bz (Fs.getD j []))) h ⟨hi,hs⟩
theorem Ol(va vb:Value)(Ls Rs:List dh)(w:World)(ha:Forms w va Ls)(hb:Forms w vb Rs)(gL:∀F,F∈Ls->bE.Good F/\0<F.length)(gR:∀F,F∈Rs->bE.Good F/\0<F.length)(hlL:Ls.length<=1000000)(hlR:Rs.length<=1000000)(hroom:sizes Ls+sizes Rs+1<=1000000):
 Calls prog 95 #[va,vb] w (YM Ls Rs w):=by
 obtain⟨i0,hi0,hz0,hz1,hz2⟩:=info_parts iU;obtain⟨aA,MN,rfl,-⟩:=id ha;obtain⟨aB,MM,rfl,-⟩:=id hb;go_enter Tryz.func95,Tryz.ntmps95
 go_wp2
 obtain⟨we,Dh⟩:=fu ((w.alloc (.cells #[.slice none 0 0] 30)).alloc (.cells #[.slice none 0 0,.slice none 0 0] 109));have WG:we.heap.size=w.heap.size+2:=by rw[Dh];simp
 have hb0:we.heap[w.heap.size]?=some (.cells #[.slice none 0 0] 30 (0,0)):=by
  rw[Dh,jo _ _ _ (by simp)];exact eu _ _
 have hb1:we.heap[w.heap.size+1]?=some (.cells #[.slice none 0 0,.slice none 0 0] 109 (0,0)):=by
  rw[Dh];have h:=eu (w.alloc (.cells #[.slice none 0 0] 30)) (.cells #[.slice none 0 0,.slice none 0 0] 109);rw[fU]at h;exact h
 have hxe:Ext w we:=by rw[Dh];go_grown
 have Cb:=qM hb1;have hB:qp w we (w.heap.size+1) (.slice none 0 0) (.slice none 0 0) []:=⟨Cb,λb hb=>by
  rcases hb with h|h|h
  .omega
  .simp[Value.ownBlock]at h
  .simp[Value.ownBlock]at h,hxe⟩
 have hsd:∀b,b<w.heap.size+1->Beside we (w.heap.size+1) (.slice none 0 0) (.slice none 0 0) [] b:=λb hb=>⟨λk=>by
  rcases k with h|h|h
  .omega
  .simp[Value.ownBlock]at h
  .simp[Value.ownBlock]at h,λ⟨i,g,cap,v,hi,_⟩=>by simp at hi⟩
 rw[<-Dh];have WR:w.heap.size+1+1=we.heap.size:=by omega
 rw[WR];have hxa:Ext we ((we.alloc (.cells #[] 3)).alloc (.cells #[] 3)):=by go_grown
 have hzl:w.heap.size+1<we.heap.size:=by omega
 clear Dh WG WR
 go_loopw [6,8] (λlv ii wr=>∃k vn vb D ls,k<=Ls.length/\ii=.int .i64 ((k:Nat):Int)/\ls.length=k/\wr.ownsRow we.heap.size 3 1 lv k ((dB ls).map (Value.int .i64))/\fB wr (w.heap.size+1) vn vb D/\fO we wr (w.heap.size+1) (.slice none 0 0) (.slice none 0 0) [] vn vb D/\D.length<=sizes (Ls.take k)/\
  (∀b,lv.ownBlock=some b->we.heap.size<=b/\Beside wr (w.heap.size+1) vn vb D b)/\wr.heap[w.heap.size]?=some (.cells #[.slice none 0 0] 30 (0,0))/\Beside wr (w.heap.size+1) vn vb D w.heap.size/\
  wr.ownsRow we.heap.size 3 1 (.slice (some ⟨we.heap.size+1,0,none⟩) 0 0) 0 []/\Beside wr (w.heap.size+1) vn vb D (we.heap.size+1)/\lv.ownBlock≠some (we.heap.size+1)/\Hid (J3 D Ls ls)) (λ_ ii _=>Ls.length-(intOf ii).toNat)
 case atStart=>
  refine⟨0,_,_,[],[],aU _,rfl,rfl,(iB we _ (aJ _) _).alloc _,Cb.ext hxa,fO.ext Cb hxa,aU _,λb hb=>?_,?_,(hsd _ (by omega)).Ki Cb hxa,og we _ _ (aJ _) _,(Beside.new Cb (by omega)).Ki Cb hxa,by simp[Value.ownBlock],λj h=>absurd h (by simp)⟩
  .simp[Value.ownBlock]at hb;subst hb
   exact⟨aJ _,(Beside.new Cb (b:=we.heap.size) (aJ _)).Ki Cb hxa⟩
  .rw[hxa.block _ (by omega)];exact hb0
 case round=>
  obtain⟨k,rY,vb1,D1,ls,hk,rfl,hal,hown,hB1,hG1,hD1,BI,hres,hrb,hr0,hrr,hne,HA⟩:=hrel;have JK:=hB.go hB1 hG1;by_cases hlt:k<Ls.length
  .have h1:((k:Nat):Int)<(Ls.length:Int):=by omega
   obtain⟨bA,cA,aN,cN,he,hcA,hcell,hN⟩:=ha.at hlt;simp only[il]at he;obtain⟨rfl,-,rfl⟩:=he;have cc:=fw JK.ext hcell;obtain⟨g1,g2⟩:=gL _ (ai hlt);obtain⟨aL,cL,rfl,hcL,_⟩:=bT hown;have hrm:D1.length+(Ls[k]).length<=1000000:=(by have:=wH hlt;have:=KN Ls (k+1);omega);have HT:=aW (wH hlt)
   go_wp2_with (first
    |(go_at_call 112;refine(KZ _ rY vb1 D1 _ Ls[k] w _ JK hN g1 g2 hrm).mono ?_;rintro e w3 ⟨zS,qE,D2,i2,rfl,hB3,iq,hD3,hi3,CB⟩
      have hown3:=bS hown iq.keep (λb hb=>(BI b hb).2.ins);have hG3:=hG1.trans iq;have Uz:=hG3.keep.size;have hx4:Ext w3 (w3.alloc (.cells #[.int .i64 ((i2:Nat):Int)] 3)):=by go_grown)
    |(at_builtin;refine eO rfl (.tmp 20) (.tmp 27) 41 rfl we.heap.size 3 i0 (.int .i64 0) 1 8 underlying41 hi0 hz0 hz1 hz2 rfl (by decide) (.slice aL k cL) k ((dB ls).map (Value.int .i64)) rfl (dD hown3 hx4) _ 1 _ [.int .i64 ((i2:Nat):Int)] rfl rfl (.inr ⟨_,rfl,fD (dW _ _ _)⟩) one_cell (by unfold maxLen;omega) (by omega) (by rw[fU];omega) ?_;intro v5 w5 lq hg5 hl5))
   have vO:∀b,Value.ownBlock (.slice aL k cL)=some b->we.heap.size<=b/\Beside w3 (w.heap.size+1) zS qE D2 b:=λb hb=>⟨(BI b hb).1,(BI b hb).2.go (hown.lt b hb).2 iq⟩
   obtain⟨Cc,FB,yn,hside⟩:=Beside.row hG3 hB3 vO hx4 hg5 hl5;have rO:w3.heap[w.heap.size]?=some (.cells #[.slice none 0 0] 30 (0,0)):=(by rw[iq.keep.block _ (bW hres) hrb.ins];exact hres);have Iz:w5.heap[w.heap.size]?=some (.cells #[.slice none 0 0] 30 (0,0)):=by
    rw[hg5.block _ (by rw[fU];have:=bW rO;omega) (λe=>by have:=(vO _ e.symm).1;omega),hx4.block _ (bW rO)];exact rO
   have Tj:=hside _ (hrb.go (bW hres) iq);have ak7:=(hr0.lt (we.heap.size+1) rfl).2;have hr3:=bS hr0 iq.keep (λb hb=>by simp[Value.ownBlock]at hb;subst hb;exact hrr.ins);have apk:=(hr3.lt (we.heap.size+1) rfl).2;have hk5:fJ (λb=>Value.ownBlock (.slice aL k cL)=some b) (w3.alloc (.cells #[.int .i64 ((i2:Nat):Int)] 3)) w5:=⟨hg5.os,hg5.tape,hg5.output,hg5.size,λk hk hn=>hg5.block k hk (λe=>hn e.symm)⟩;have Gj:=bS (dD hr3 hx4) hk5 (λb hb e=>by simp[Value.ownBlock]at hb;subst hb;exact hne e);have ak5:=hside _ (hrr.go ak7 iq);have hne5:v5.ownBlock≠some (we.heap.size+1):=by
    rcases hl5 with h|⟨g,h,h2⟩
    .rw[h];exact hne
    .rw[h];intro e;injection e with e;rw[fU]at h2;omega
   have htk:=(HA.out.more hB1.good.wf hB3.good.wf iq.more).snoc hi3 (by rw[hal,bD,af hlt];exact CB);go_roundw
   case rel=>exact⟨k+1,zS,qE,D2,ls++[i2],by omega,by go_num,by rw[bu,hal];rfl,by simpa [dB]using lq,Cc,FB,by have:=HT.out;omega,yn,Iz,Tj,Gj,ak5,hne5,htk⟩
   case measure=>simp[intOf];omega
  .have hke:k=Ls.length:=by omega
   have h1:¬(((k:Nat):Int)<(Ls.length:Int)):=(by omega);obtain⟨aL,cL,rfl,hcL,atA⟩:=bT hown;rw[hke,dJ (aJ _)]at hD1;have hsb:∀b,Value.ownBlock (.slice aL k cL)=some b->Value.ownBlock (.slice (some ⟨we.heap.size+1,0,none⟩) 0 0)≠some b:=λb hb e=>hne (by rw[hb,<-e];rfl)
   have Fy:∀b,Value.ownBlock (.slice (some ⟨we.heap.size+1,0,none⟩) 0 0)=some b->we.heap.size<=b/\Beside wr (w.heap.size+1) rY vb1 D1 b:=λb hb=>by
    simp[Value.ownBlock]at hb;subst hb;exact⟨by omega,hrr⟩
   have YX:=aW hke;clear hke JK;go_wp2_with fail
   obtain⟨wl,rfl⟩:∃wl:World,wl=wr:=⟨_,rfl⟩
   go_loopw [7,9] (λrv ii wr=>∃q vn vb D rs,q<=Rs.length/\ii=.int .i64 ((q:Nat):Int)/\rs.length=q/\wr.ownsRow we.heap.size 3 1 rv q ((dB rs).map (Value.int .i64))/\fB wr (w.heap.size+1) vn vb D/\fO we wr (w.heap.size+1) (.slice none 0 0) (.slice none 0 0) [] vn vb D/\D.length<=sizes Ls+sizes (Rs.take q)/\
    (∀b,rv.ownBlock=some b->we.heap.size<=b/\Beside wr (w.heap.size+1) vn vb D b)/\wr.heap[w.heap.size]?=some (.cells #[.slice none 0 0] 30 (0,0))/\Beside wr (w.heap.size+1) vn vb D w.heap.size/\
    wr.ownsRow we.heap.size 3 1 (.slice aL k cL) k ((dB ls).map (Value.int .i64))/\(∀b,Value.ownBlock (.slice aL k cL)=some b->Beside wr (w.heap.size+1) vn vb D b)/\(∀b,Value.ownBlock (.slice aL k cL)=some b->rv.ownBlock≠some b)/\Hid (J3 D Ls ls)/\Hid (J3 D Rs rs)) (λ_ ii _=>Rs.length-(intOf ii).toNat)
   case atStart=>exact⟨0,_,_,D1,[],aU _,rfl,rfl,hr0,hB1,hG1,by simpa [sizes]using hD1,Fy,hres,hrb,hown,λb hb=>(BI b hb).2,hsb,HA,λj h=>absurd h (by simp)⟩
   case round=>
    clear hB1 hG1 hD1 BI hres hrb hr0 hrr hne HA hown hsb Fy;obtain⟨q,rY,vb1,D1,rs,hq,rfl,har,IA,hB1,hG1,hD1,Fy,hres,hrb,Q6,XB,hsb,HA,HAr⟩:=hrel;have JK:=hB.go hB1 hG1;by_cases hlt:q<Rs.length
    .have h2:((q:Nat):Int)<(Rs.length:Int):=by omega
     obtain⟨bA,cA,aN,cN,he,hcA,hcell,hN⟩:=hb.at hlt;simp only[il]at he;obtain⟨rfl,-,rfl⟩:=he;have cc:=fw JK.ext hcell;obtain⟨g1,g2⟩:=gR _ (ai hlt);obtain⟨aR,cR,rfl,hcR,_⟩:=bT IA;have hrm:D1.length+(Rs[q]).length<=1000000:=(by have:=wH hlt;have:=KN Rs (q+1);omega);have HT:=aW (wH hlt)
     go_wp2_with (first
      |(go_at_call 112;refine(KZ _ rY vb1 D1 _ Rs[q] w _ JK hN g1 g2 hrm).mono ?_;rintro e w3 ⟨zS,qE,D2,i2,rfl,hB3,iq,hD3,hi3,CB⟩
        have hown3:=bS IA iq.keep (λb hb=>(Fy b hb).2.ins);have hG3:=hG1.trans iq;have Uz:=hG3.keep.size;have hx4:Ext w3 (w3.alloc (.cells #[.int .i64 ((i2:Nat):Int)] 3)):=by go_grown)
      |(at_builtin;refine eO rfl (.tmp 35) (.tmp 42) 41 rfl we.heap.size 3 i0 (.int .i64 0) 1 8 underlying41 hi0 hz0 hz1 hz2 rfl (by decide) (.slice aR q cR) q ((dB rs).map (Value.int .i64)) rfl (dD hown3 hx4) _ 1 _ [.int .i64 ((i2:Nat):Int)] rfl rfl (.inr ⟨_,rfl,fD (dW _ _ _)⟩) one_cell (by unfold maxLen;omega) (by omega) (by rw[fU];omega) ?_;intro v5 w5 lq hg5 hl5))
     have vO:∀b,Value.ownBlock (.slice aR q cR)=some b->we.heap.size<=b/\Beside w3 (w.heap.size+1) zS qE D2 b:=λb hb=>⟨(Fy b hb).1,(Fy b hb).2.go (IA.lt b hb).2 iq⟩
     obtain⟨Cc,FB,yn,hside⟩:=Beside.row hG3 hB3 vO hx4 hg5 hl5;have rO:w3.heap[w.heap.size]?=some (.cells #[.slice none 0 0] 30 (0,0)):=(by rw[iq.keep.block _ (bW hres) hrb.ins];exact hres);have Iz:w5.heap[w.heap.size]?=some (.cells #[.slice none 0 0] 30 (0,0)):=by
      rw[hg5.block _ (by rw[fU];have:=bW rO;omega) (λe=>by have:=(vO _ e.symm).1;omega),hx4.block _ (bW rO)];exact rO
     have Tj:=hside _ (hrb.go (bW hres) iq);have hl3:=bS Q6 iq.keep (λb hb=>(XB b hb).ins);have hk5:fJ (λb=>Value.ownBlock (.slice aR q cR)=some b) (w3.alloc (.cells #[.int .i64 ((i2:Nat):Int)] 3)) w5:=⟨hg5.os,hg5.tape,hg5.output,hg5.size,λk hk hn=>hg5.block k hk (λe=>hn e.symm)⟩;have alF:=bS (dD hl3 hx4) hk5 (λb hb e=>hsb b hb e);have adM:∀b,Value.ownBlock (.slice aL k cL)=some b->Beside w5 (w.heap.size+1) zS qE D2 b:=λb hb=>hside _ ((XB b hb).go (Q6.lt b hb).2 iq)
     have ak3:∀b,Value.ownBlock (.slice aL k cL)=some b->v5.ownBlock≠some b:=λb hb=>by
      rcases hl5 with h|⟨g,h,h2⟩
      .rw[h];exact hsb b hb
      .rw[h];intro e;injection e with e;rw[fU]at h2;have:=(hl3.lt b hb).2;omega
     have htl:=HA.out.more hB1.good.wf hB3.good.wf iq.more;have htk:=(HAr.out.more hB1.good.wf hB3.good.wf iq.more).snoc hi3 (by rw[har,bD,af hlt];exact CB);go_roundw
     case rel=>exact⟨q+1,zS,qE,D2,rs++[i2],by omega,by go_num,by rw[bu,har];rfl,by simpa [dB]using lq,Cc,FB,by have:=HT.out;omega,yn,Iz,Tj,alF,adM,ak3,htl,htk⟩
     case measure=>simp[intOf];omega
    .have hqe:q=Rs.length:=by omega
     have h2:¬(((q:Nat):Int)<(Rs.length:Int)):=(by omega);obtain⟨aR,cR,rfl,hcR,atx⟩:=bT IA;have hkl:=YX.out;have hIl:=Ints.gm (l:=dB ls) Q6 (by rw[bG];omega);have hIr:=Ints.gm (l:=dB rs) IA (by rw[bG];omega);rw[hqe,dJ (aJ _)]at hD1;have bl:∀x,x∈ls->x<D1.length:=λx hx=>by obtain⟨j,hj,rfl⟩:=aQ.1 hx;exact(HA.out j hj).1
     have br:∀x,x∈rs->x<D1.length:=λx hx=>by obtain⟨j,hj,rfl⟩:=aQ.1 hx;exact(HAr.out j hj).1
     have HQE:=aW hqe;have HIL:=aW hIl;have HIR:=aW hIr;have HD1:=aW hD1;have HG1:=aW hG1;have zw:=aW (hal.trans hkl);have HAR:=aW (har.trans hqe);clear hqe hkl hIl hIr Q6 IA Fy XB hsb hD1
     go_wp2_with (first
      |(go_at_call 114;refine(qN _ rY vb1 D1 _ _ ls rs _ hB1 HIL.out HIR.out bl br (by have:=zw.out;omega) (by have:=HAR.out;omega) (by have:=HD1.out;omega)).mono ?_;rintro e w3 ⟨zS,qE,D2,i2,rfl,hB3,hK3,CB,TD,hP3⟩
        have rO:w3.heap[w.heap.size]?=some (.cells #[.slice none 0 0] 30 (0,0)):=(by rw[hK3.block _ (bW hres) hrb.ins];exact hres);have GM:=hB.go hB3 (HG1.out.trans (fO.zY hK3 CB TD hP3)))
      |(go_at_call 70;refine(vU _ zS qE D2 i2 _ hB3 hP3.lt).mono ?_;rintro e w7 ⟨vN,F',rfl,Rh,hIF,TC,hx7⟩
        obtain⟨aN,cN,rfl,-⟩:=id Rh;have yh:w7.heap[w.heap.size]?=some (.cells #[.slice none 0 0] 30 (0,0)):=(by rw[hx7.block _ (bW rO)];exact rO);have cr7:=bQ w7 w.heap.size 0 _ _ _ yh;have fr7:=gQ w7 w.heap.size 0 _ _ yh;have HH:Hid ((w7.setCell ⟨w.heap.size,0,none⟩ (.slice aN F'.length cN)).heap[w.heap.size]?=some (.cells #[.slice aN F'.length cN] 30 (0,0))):=gK w7 w.heap.size 0 _ _ (.slice aN F'.length cN) yh))
     (try simp only[Exit.inBlock,Exit.then]);refine bodyPost_ret (results_cell_row rfl _ _ w.heap.size 30 #[.slice aN F'.length cN] (0,0) _ rfl HH.out underlying30 rfl (by kernel_rfl)) rfl ?_;have hN8:=(Rh.set (p:=⟨w.heap.size,0,none⟩) (by show w.heap.size<w3.heap.size;exact bW rO) (.slice aN F'.length cN)).weaken (base':=w.heap.size) GM.ext.size;have hsm:=Rp hB3.good hP3.lt hIF TC;have hgm:=Sg hB1.good.wf hB3.good.wf zw.out HAR.out HA.out HAr.out hP3;exact⟨_,F',rfl,hN8,hIF,bE.dn TC hgm,by have:=hP3.len;have:=HD1.out;omega,(ah GM.ext hx7).setCell (p:=⟨w.heap.size,0,none⟩) (aJ _) _⟩
end
section
open Go.RowKit
open bE (dh Nd Gm vl bI bz Same Canon jc)
theorem Cv(v:Value)(Fs:List dh)(most:Int)(w:World)(hv:Forms w v Fs)(hF:∀F,F∈Fs->bI F)(h0:0<=most)(h1:most<=1000000):
 Calls prog 233 #[v,.int .i64 most] w (yI ((Fs.length:Int)<=most/\∀F,F∈Fs->dm F=true) w):=by
 obtain⟨a,cap,rfl,hcap,zz,-⟩:=id hv;have hmx:maxLen=9223372036854775807:=by simp[maxLen]
 go_enter Tryz.func233,Tryz.ntmps233
 go_wp2
 go_loopw [5] (λii wr=>∃i:Nat,i<=Fs.length/\(i:Int)<=most+1/\ii=.int .i64 ((i:Nat):Int)/\Ext w wr/\Hid (∀j (h:j<Fs.length),j<i->dm Fs[j]=true)) (λii _=>Fs.length-(intOf ii).toNat)
 case atStart=>exact⟨0,aU _,by omega,by go_num,gz _ _,aW λj _ h=>absurd h (by omega)⟩
 case round=>
  obtain⟨i,hi,him,rfl,hx,HJ⟩:=hrel;by_cases hlt:i<Fs.length
  .have g1:((i:Nat):Int)<((Fs.length:Nat):Int):=by omega
   by_cases hm:((i:Nat):Int)<=most
   .obtain⟨b,cp,aN,cN,he,hcp,hcell,hN⟩:=(hv.ext hx).at hlt
    simp only[il]at he;obtain⟨rfl,-,rfl⟩:=he;obtain⟨F,eF⟩:=fu (Fs[i]);rw[<-eF]at hcell hN;have HG:=aW (Ah _ F wr hN (by rw[eF];exact hF _ (ai hlt)));have kg:=aW hlt;have HEF:Hid (F=Fs[i]'(kg.out)):=aW eF;have HX:=aW hx;clear eF;cases fF:dm F with
    |false=>
     have Uu:=aW fF;clear hN hv hF hx hlt;go_wp2_with (go_at_call 65;refine HG.out.mono ?_;rintro e w1 ⟨he,hx1⟩;rw[fF]at he;subst he)
     go_ret
     exact⟨false,rfl,⟨λh=>(by cases h),λh=>by have:=h.2 _ (ai kg.out);rw[<-HEF.out,Uu.out]at this;cases this⟩,ah HX.out hx1⟩
    |true=>
     have Uu:=aW fF;clear hN hx hlt;have hwk:wrap64 ((i:Int)+1)=(i:Int)+1:=(by unfold wrap64;omega);go_wp2_with (go_at_call 65;refine HG.out.mono ?_;rintro e w1 ⟨he,hx1⟩;rw[fF]at he;subst he)
     go_roundw
     case rel=>exact⟨i+1,by have:=kg.out;omega,by omega,by go_num,ah HX.out hx1,aW λj hj hji=>by
      by_cases c:j=i
      .subst c;rw[<-HEF.out];exact Uu.out
      .exact HJ.out j hj (by omega)⟩
     case measure=>have:=kg.out;simp[intOf];omega
   .have g3:¬(((Fs.length:Nat):Int)<=most):=by omega
    clear hv hF;go_wp2
    go_ret
    exact⟨false,rfl,⟨λh=>(by cases h),λh=>absurd h.1 (by omega)⟩,hx⟩
  .have g1:¬(((i:Nat):Int)<((Fs.length:Nat):Int)):=by omega
   have HA:Hid (∀F,F∈Fs->dm F=true):=aW λF hF=>by
    obtain⟨j,hj,rfl⟩:=aQ.1 hF;exact HJ.out j hj (by omega)
   clear hv hF HJ;go_wp2
   go_ret
   exact⟨_,rfl,by simp only[decide_eq_true_eq];exact⟨λh=>⟨h,HA.out⟩,λh=>h.1⟩,hx⟩
def MOk(Ls Rs:List dh):Prop:=(Ls.length<=100/\∀F,F∈Ls->dm F=true)/\(Rs.length<=100/\∀F,F∈Rs->dm F=true)
def Ug(Ls Rs:List dh)(w:World)(e:Ending)(w':World):Prop:=
 ∃(a:Option Addr) (n c:Nat) (ok:Bool),e=.returned (.tuple #[.agg #[.slice a n c],.bool ok])/\(ok=true->∃M,n=M.length/\MOk Ls Rs/\bI M/\Same (bz M) (.mk (Ls.map bz) (Rs.map bz))/\dm M=true/\dI w' w.heap.size (.slice a n c) M)/\
  (ok=false->¬(MOk Ls Rs/\∃M,bI M/\Same (bz M) (.mk (Ls.map bz) (Rs.map bz))/\dm M=true))/\Ext w w'
theorem Da{Fs:List dh}{b:Nat}(h:∀F,F∈Fs->F.length<=b):sizes Fs<=Fs.length*b:=by
 induction Fs with
 |nil=>simp[sizes]
 |cons F Fs ih=>
  have h1:=h F (by simp);have h2:=ih λG hG=>h G (by simp[hG])
  have e:sizes (F :: Fs)=F.length+sizes Fs:=by simp[sizes]
  rw[e,gI,rW,Nat.one_mul];omega
theorem SA(va vb:Value)(Ls Rs:List dh)(w:World)(ha:Forms w va Ls)(hb:Forms w vb Rs)(gL:∀F,F∈Ls->bI F/\F.length<=1000)(gR:∀F,F∈Rs->bI F/\F.length<=1000):
 Calls prog 198 #[va,vb] w (Ug Ls Rs w):=by
 obtain⟨a,ca,rfl,-,-,-⟩:=id ha;obtain⟨b,cb,rfl,-,-,-⟩:=id hb;obtain⟨W,hW,hx,b0,hz⟩:=Ce w (.cells #[.slice none 0 0] 30);have HA:=aW (λV (hV:Ext W V)=>Cv _ Ls 100 V (ha.ext (ah hx hV)) (λF h=>(gL F h).1) (by omega) (by omega));have HB:=aW (λV (hV:Ext W V)=>Cv _ Rs 100 V (hb.ext (ah hx hV)) (λF h=>(gR F h).1) (by omega) (by omega));have HM:=aW (λV (hV:Ext W V) (h1:Ls.length<=100) (h2:Rs.length<=100)=>Ol _ _ Ls Rs V (ha.ext (ah hx hV)) (hb.ext (ah hx hV)) (λF h=>⟨(gL F h).1.good,fV.2 (gL F h).1.ne⟩) (λF h=>⟨(gR F h).1.good,fV.2 (gR F h).1.ne⟩) (by omega) (by omega) (by
  have k1:=Da (b:=1000) λF h=>(gL F h).2
  have k2:=Da (b:=1000) λF h=>(gR F h).2
  have:=jC 1000 h1;have:=jC 1000 h2;omega))
 have HX:=nY hx b0 hz;clear ha hb b0 hx hz gL gR;by_cases hL:(Ls.length:Int)<=100/\∀F,F∈Ls->dm F=true
 .have HL:=aW hL
  clear hL;by_cases hR:(Rs.length:Int)<=100/\∀F,F∈Rs->dm F=true
  .have HRR:=aW hR
   clear hR;go_enter Tryz.func198,Tryz.ntmps198
   go_upto_region 1 with fail
   rw[<-hW];clear hW
   go_wp2_with (first
    |(go_at_call 195;refine(Cu _ _ S _ XO).mono ?_;rintro e w4 ⟨aR,nR,cR,okR,rfl,hok,hy,-,hx3⟩
      have hr3:=ik (ah hq3 hx3) HX.out.2.1;have z1:=bQ _ w.heap.size 0 _ _ _ hr3;have z2:=gQ _ w.heap.size 0 _ _ hr3;have HR:=Ap hok hy hr3 hx3;clear hok hy hr3 hx3)
    |(go_at_call 95;refine(HM.out _ hq2 (by have:=HL.out.1;omega) (by have:=HRR.out.1;omega)).mono ?_;rintro e w3 ⟨vS,S,rfl,XO,hIS,hSS,hlS,hx2⟩
      obtain⟨aS,cS,rfl⟩:=XO.slice;have hq3:=ah hq2 hx2;clear hlS)
    |(go_at_call 233;refine(HB.out _ hq1).mono ?_;rintro e w2 ⟨bb,rfl,hbb,hqx⟩
      obtain rfl:bb=true:=hbb.2 HRR.out;have hq2:=ah hq1 hqx;clear hbb)
    |(go_at_call 233;refine(HA.out _ (gz _ _)).mono ?_;rintro e w1 ⟨bb,rfl,hbb,hq1⟩
      obtain rfl:bb=true:=hbb.2 HL.out;clear hbb))
   refine mg w.heap.size 30 _ (gK _ w.heap.size 0 _ _ (.slice aR nR cR) HR.out.2.2.1) underlying30 ?_;obtain⟨hok,hy,hr3,hx3⟩:=HR.out;have hzz:=HX.out.2.2;have hz1:=hq2.size;refine⟨aR,nR,cR,okR,rfl,λh=>?_,λh k=>?_,(ah HX.out.1 (ah hq3 hx3)).setCell (p:=⟨w.heap.size,0,none⟩) (aJ _) _⟩
   .obtain⟨h1,h2⟩:=hy h
    exact⟨S,h1,⟨⟨by have:=HL.out.1;omega,HL.out.2⟩,⟨by have:=HRR.out.1;omega,HRR.out.2⟩⟩,hIS,hSS,by rw[<-hok,h],(h2.set (p:=⟨w.heap.size,0,none⟩) (by show w.heap.size<w2.heap.size;omega) _).weaken (by omega)⟩
   .obtain⟨_,S',k1,k2,k3⟩:=k
    have e:=bE.kQ k1 hIS (bE.dn k2 (bE.dU hSS));rw[e,<-hok,h]at k3;cases k3
  .have HRR:=aW hR
   have HN:Hid (¬MOk Ls Rs):=aW λk=>HRR.out ⟨by have:=k.2.1;omega,k.2.2⟩
   clear hR;go_enter Tryz.func198,Tryz.ntmps198
   go_upto_region 1 with fail
   rw[<-hW];clear hW
   go_wp2_with (first
    |(go_at_call 233;refine(HB.out _ hq1).mono ?_;rintro e w2 ⟨bb,rfl,hbb,hqx⟩
      obtain rfl:bb=false:=iT.2 (λq=>HRR.out (hbb.1 q));have hq2:=ah hq1 hqx;have hr3:=ik hq2 HX.out.2.1;have z1:=bQ _ w.heap.size 0 _ _ _ hr3;have z2:=gQ _ w.heap.size 0 _ _ hr3;have HR:=jm hr3 hq2;clear hbb hr3)
    |(go_at_call 233;refine(HA.out _ (gz _ _)).mono ?_;rintro e w1 ⟨bb,rfl,hbb,hq1⟩
      obtain rfl:bb=true:=hbb.2 HL.out;clear hbb))
   refine mg w.heap.size 30 _ (gK _ w.heap.size 0 _ _ (.slice none 0 0) HR.out.1) underlying30 ?_;exact⟨none,0,0,false,rfl,(λh=>by cases h),(λ_ k=>HN.out k.1),(ah HX.out.1 HR.out.2).setCell (p:=⟨w.heap.size,0,none⟩) (aJ _) _⟩
 .have HL:=aW hL
  have HN:Hid (¬MOk Ls Rs):=aW λk=>HL.out ⟨by have:=k.1.1;omega,k.1.2⟩
  clear hL;go_enter Tryz.func198,Tryz.ntmps198
  go_upto_region 1 with fail
  rw[<-hW];clear hW
  go_wp2_with (go_at_call 233;refine(HA.out _ (gz _ _)).mono ?_;rintro e w1 ⟨bb,rfl,hbb,hq1⟩
               obtain rfl:bb=false:=iT.2 (λq=>HL.out (hbb.1 q));have hr3:=ik hq1 HX.out.2.1;have z1:=bQ _ w.heap.size 0 _ _ _ hr3;have z2:=gQ _ w.heap.size 0 _ _ hr3;have HR:=jm hr3 hq1;clear hbb hr3)
  refine mg w.heap.size 30 _ (gK _ w.heap.size 0 _ _ (.slice none 0 0) HR.out.1) underlying30 ?_;exact⟨none,0,0,false,rfl,(λh=>by cases h),(λ_ k=>HN.out k.1),(ah HX.out.1 HR.out.2).setCell (p:=⟨w.heap.size,0,none⟩) (aJ _) _⟩
end
section
open bE (dh Nd Gm vl bI bz Same plus Canon jc nf N0)
variable {T u:Int} {C E M:dh} {O:List Nat} {Fs Gs:List dh} {nd:Nd} {k0:Nat}
def yH(T u:Int)(C:dh)(O:List Nat)(Fs:List dh)(k:Nat):Prop:=
 Fs.length=k/\∀j (_:j<Fs.length) (_:j<O.length),rQ T (vl C O[j])/\(∃E,Ga T (vl C O[j]) E/\dm E=true/\CS E u)/\F9 T u (vl C O[j]) Fs[j]
theorem yH.nil(T u:Int)(C:dh)(O:List Nat):yH T u C O [] 0:=⟨rfl,λj h=>absurd h (by simp)⟩
theorem yH.next{k:Nat}(h:yH T u C O Fs k)(hk:k<O.length){F:dh}(h1:rQ T (vl C O[k]))(hE:Ga T (vl C O[k]) E)(fE:dm E=true)(h2:CS E u)(h3:fA F (plus (bz E) (nf 16 u))):yH T u C O (Fs++[F]) (k+1):=by
 obtain⟨hl,h⟩:=h;refine⟨by simp[hl],λj a b=>?_⟩;by_cases c:j<Fs.length
 .rw[dM c];exact h j c b
 .have e:j=k:=by simp at a;omega
  subst e;rw[eQ (by omega)]
  simpa using⟨h1,⟨E,hE,fE,h2⟩,show F9 T u _ F from h3.to (bE.o6 hE.eqv (jc.refl _))⟩
theorem yH.opt(h:yH T u C O Fs O.length)(hf:∀F,F∈Fs->dm F=true):o8 T u C O Fs O.length:=by
 refine⟨h.1,λj a b=>?_⟩;obtain⟨k1,⟨E,k2,k3,k4⟩,k5⟩:=h.2 j a b;have f:=hf _ (ai a);exact⟨k1,⟨E,Fs[j],k2,k3,k4,k5,f⟩,k5,f⟩
theorem yH.bad(h:yH T u C O Fs O.length)(hf:¬ ∀F,F∈Fs->dm F=true):∃o,o∈O/\¬nG T u (vl C o):=by
 refine iw λk=>hf λF hF=>?_
 obtain⟨j,hj,rfl⟩:=aQ.1 hF;have hjo:j<O.length:=by have:=h.1;omega
 obtain⟨k1,_,k5⟩:=h.2 j hj hjo;have st:nG T u (vl C O[j]):=iw λq=>k ⟨_,ai hjo,q⟩
 obtain⟨_,E',_,_,_,h1,h2⟩:=st;have e:=fA.unique h1 k5;rw[<-e];exact h2
theorem Vf{x:Gm}(h:Ga T x E)(n:¬(CS E u/\∃E',fA E' (plus (bz E) (nf 16 u)))):¬nG T u x:=
 I5 h λ⟨k1,E',k2,_⟩=>n ⟨k1,E',k2⟩
theorem QM(hC:bI C)(hd:C[k0]?=some nd)(hF:o8 T T C nd.1 Fs nd.1.length)(hG:o8 T (-T) C nd.2 Gs nd.2.length)(hM:bI M)(s:Same (bz M) ((.mk (Fs.map bz) (Gs.map bz):Gm))):zO T (vl C k0) M:=by
 obtain⟨s1,s2,s3,s4⟩:=(bE.same_iff _ _).1 s;obtain⟨f1,f2⟩:=hF;obtain⟨g1,g2⟩:=hG;have el:(vl C k0).l=nd.1.map (vl C):=bE.lI hC.good.wf hd;have er:(vl C k0).r=nd.2.map (vl C):=bE.lH hC.good.wf hd;have key:∀{u:Int} {x y:Gm} {F:dh},F9 T u x F->Same y (bz F)->DJ T u x y:=λh s=>by
  exact⟨bE.lQ (bE.dU s) (mG h),s.eqv.trans (fA.eqv h)⟩
 refine⟨hM,λx hx=>?_,λy hy=>?_,λx hx=>?_,λy hy=>?_⟩
 .rw[el]at hx
  obtain⟨k,hk,rfl⟩:=az.1 hx;obtain⟨j,hj,rfl⟩:=aQ.1 hk;obtain⟨y,hy,e⟩:=s2 (bz (Fs[j]'(by omega))) (aV (ai _));exact⟨y,hy,key (f2 j (by omega) hj).2.2.1 e⟩
 .obtain⟨z,hz,e⟩:=s1 y hy
  obtain⟨F,hF,rfl⟩:=az.1 hz;obtain⟨j,hj,rfl⟩:=aQ.1 hF;exact⟨vl C (nd.1[j]'(by omega)),by rw[el];exact aV (ai _),key (f2 j hj (by omega)).2.2.1 e⟩
 .rw[er]at hx
  obtain⟨k,hk,rfl⟩:=az.1 hx;obtain⟨j,hj,rfl⟩:=aQ.1 hk;obtain⟨y,hy,e⟩:=s4 (bz (Gs[j]'(by omega))) (aV (ai _));exact⟨y,hy,key (g2 j (by omega) hj).2.2.1 e⟩
 .obtain⟨z,hz,e⟩:=s3 y hy
  obtain⟨F,hF,rfl⟩:=az.1 hz;obtain⟨j,hj,rfl⟩:=aQ.1 hF;exact⟨vl C (nd.2[j]'(by omega)),by rw[er];exact aV (ai _),key (g2 j hj (by omega)).2.2.1 e⟩
theorem SB(hC:bI C)(hd:C[k0]?=some nd)(n:¬N0 (vl C k0))(hF:o8 T T C nd.1 Fs nd.1.length)(hG:o8 T (-T) C nd.2 Gs nd.2.length)(h:∀M,bI M->Same (bz M) ((.mk (Fs.map bz) (Gs.map bz):Gm))->dm M=false):¬rQ T (vl C k0):=by
 intro k;rcases pq.1 k with k|⟨_,_,M,hM,fM⟩
 .exact n k
 .obtain⟨f1,f2⟩:=hF
  obtain⟨g1,g2⟩:=hG;have el:(vl C k0).l=nd.1.map (vl C):=bE.lI hC.good.wf hd;have er:(vl C k0).r=nd.2.map (vl C):=bE.lH hC.good.wf hd;obtain⟨iM,m1,m2,m3,m4⟩:=hM;have key:∀{u:Int} {x y:Gm} {F:dh},F9 T u x F->DJ T u x y->Same y (bz F):=λh k=>bE.fT k.1 (mG h) (k.2.trans (fA.eqv h).symm)
  have s:Same (bz M) ((.mk (Fs.map bz) (Gs.map bz):Gm)):=by
   rw[bE.same_iff];refine⟨λy hy=>?_,λz hz=>?_,λy hy=>?_,λz hz=>?_⟩
   .obtain⟨x,hx,k⟩:=m2 y hy
    rw[el]at hx;obtain⟨o,ho,rfl⟩:=az.1 hx;obtain⟨j,hj,rfl⟩:=aQ.1 ho;exact⟨bz (Fs[j]'(by omega)),aV (ai _),key (f2 j (by omega) hj).2.2.1 k⟩
   .obtain⟨F,hF,rfl⟩:=az.1 hz
    obtain⟨j,hj,rfl⟩:=aQ.1 hF;obtain⟨y,hy,k⟩:=m1 (vl C (nd.1[j]'(by omega))) (by rw[el];exact aV (ai _));exact⟨y,hy,key (f2 j hj (by omega)).2.2.1 k⟩
   .obtain⟨x,hx,k⟩:=m4 y hy
    rw[er]at hx;obtain⟨o,ho,rfl⟩:=az.1 hx;obtain⟨j,hj,rfl⟩:=aQ.1 ho;exact⟨bz (Gs[j]'(by omega)),aV (ai _),key (g2 j (by omega) hj).2.2.1 k⟩
   .obtain⟨F,hF,rfl⟩:=az.1 hz
    obtain⟨j,hj,rfl⟩:=aQ.1 hF;obtain⟨y,hy,k⟩:=m3 (vl C (nd.2[j]'(by omega))) (by rw[er];exact aV (ai _));exact⟨y,hy,key (g2 j hj (by omega)).2.2.1 k⟩
  rw[h M iM s]at fM;cases fM
theorem Bg(hC:bI C)(hd:C[k0]?=some nd)(n:¬N0 (vl C k0)){o:Nat}(ho:(o∈nd.1/\¬(rQ T (vl C o)/\nG T T (vl C o)))\/(o∈nd.2/\¬(rQ T (vl C o)/\nG T (-T) (vl C o)))):¬rQ T (vl C k0):=by
 intro k;rcases pq.1 k with k|⟨k1,k2,_⟩
 .exact n k
 .rcases ho with⟨h1,h2⟩|⟨h1,h2⟩
  .exact h2 (k1 _ (by rw[show(vl C k0).l=nd.1.map (vl C) from bE.lI hC.good.wf hd];exact aV h1))
  .exact h2 (k2 _ (by rw[show(vl C k0).r=nd.2.map (vl C) from bE.lH hC.good.wf hd];exact aV h1))
theorem ac2(hC:bI C)(hd:C[k0]?=some nd)(hF:o8 T T C nd.1 Fs nd.1.length)(hG:o8 T (-T) C nd.2 Gs nd.2.length)(hM:zO T (vl C k0) M)(fM:dm M=true):rQ T (vl C k0):=by
 rw[pq];refine .inr ⟨λx hx=>?_,λx hx=>?_,M,hM,fM⟩
 .rw[show(vl C k0).l=nd.1.map (vl C) from bE.lI hC.good.wf hd]at hx
  obtain⟨o,ho,rfl⟩:=az.1 hx;obtain⟨j,hj,rfl⟩:=aQ.1 ho;have k:=hF.2 j (by have:=hF.1;omega) hj;exact⟨k.1,k.2.1⟩
 .rw[show(vl C k0).r=nd.2.map (vl C) from bE.lH hC.good.wf hd]at hx
  obtain⟨o,ho,rfl⟩:=az.1 hx;obtain⟨j,hj,rfl⟩:=aQ.1 ho;have k:=hG.2 j (by have:=hG.1;omega) hj;exact⟨k.1,k.2.1⟩
theorem Z0(hT:0<=T)(hC:bI C)(cC:∀i,i<C.length->Canon (vl C i))(hk:k0<C.length)(hd:C[k0]?=some nd)(n:¬N0 (vl C k0))(hF:yH T T C nd.1 Fs nd.1.length)(hG:yH T (-T) C nd.2 Gs nd.2.length)
 (h:¬(MOk Fs Gs/\∃M,bI M/\Same (bz M) (.mk (Fs.map bz) (Gs.map bz))/\dm M=true)):¬rQ T (vl C k0):=by
 by_cases fF:∀F,F∈Fs->dm F=true
 .by_cases fG:∀F,F∈Gs->dm F=true
  .have oF:=hF.opt fF
   have oG:=hG.opt fG;intro ok;by_cases hM:∃M,bI M/\Same (bz M) (.mk (Fs.map bz) (Gs.map bz))/\dm M=true
   .obtain⟨M,iM,sM,fM⟩:=hM
    have hm:=QM hC hd oF oG iM sM;obtain⟨pl,pr⟩:=qK hC.good hk;have hl:=EW hT (cC _ hk) pl pr hm;have hq:=(CG iM fM).2 _ (Ch iM);have e:vl M (M.length-1)=bz M:=rfl;rw[e]at hq;have ol:=Bc hC.good hk;rw[af hk]at hd;injection hd with hd;rw[hd]at ol;exact h ⟨⟨⟨by have:=hF.1;omega,fF⟩,⟨by have:=hG.1;omega,fG⟩⟩,M,iM,sM,fM⟩
   .exact SB hC hd n oF oG (λM iM sM=>iT.2 λfM=>hM ⟨M,iM,sM,fM⟩) ok
  .obtain⟨o,ho,k⟩:=hG.bad fG
   exact Bg hC hd n (.inr ⟨ho,λq=>k q.2⟩)
 .obtain⟨o,ho,k⟩:=hF.bad fF
  exact Bg hC hd n (.inl ⟨ho,λq=>k q.2⟩)
theorem VU{K:dh}(hT:0<=T)(hC:bI C)(cC:∀i,i<C.length->Canon (vl C i))(hk:k0<C.length)(hd:C[k0]?=some nd)(n:¬N0 (vl C k0))(hF:yH T T C nd.1 Fs nd.1.length)(hG:yH T (-T) C nd.2 Gs nd.2.length)
 (hm:MOk Fs Gs) (iM:bI M) (sM:Same (bz M) (.mk (Fs.map bz) (Gs.map bz))) (fM:dm M=true) (hK:fA K (bz M)):rQ T (vl C k0)/\Ga T (vl C k0) K/\dm K=true:=by
 have oF:=hF.opt hm.1.2;have oG:=hG.opt hm.2.2;have hM:=QM hC hd oF oG iM sM;have hot:=LZ n hM hK;obtain⟨pl,pr⟩:=qK hC.good hk;exact⟨ac2 hC hd oF oG hM fM,hot,L6 hT (cC _ hk) n pl pr hM fM hot⟩
end
section
open Go.RowKit
open bE (dh Nd Gm vl bI bz Same Canon jc)
def Ui(Ls Rs:List dh)(w:World)(e:Ending)(w':World):Prop:=
 ∃(a:Option Addr) (n c:Nat) (ok:Bool),e=.returned (.tuple #[.agg #[.slice a n c],.bool ok])/\(ok=true->∃M K,n=K.length/\MOk Ls Rs/\bI M/\Same (bz M) (.mk (Ls.map bz) (Rs.map bz))/\dm M=true/\fA K (bz M)/\dI w' w.heap.size (.slice a n c) K)/\
  (ok=false->¬(MOk Ls Rs/\∃M,bI M/\Same (bz M) (.mk (Ls.map bz) (Rs.map bz))/\dm M=true)/\n=0)/\Ext w w'
theorem SC(va vb:Value)(Ls Rs:List dh)(w:World)(ha:Forms w va Ls)(hb:Forms w vb Rs)(gL:∀F,F∈Ls->bI F/\F.length<=1000)(gR:∀F,F∈Rs->bI F/\F.length<=1000):
 Calls prog 160 #[va,vb] w (Ui Ls Rs w):=by
 obtain⟨a,ca,rfl,-,-,-⟩:=id ha;obtain⟨b,cb,rfl,-,-,-⟩:=id hb;obtain⟨W,hW,hx,b0,hz⟩:=Ce w (.cells #[.slice none 0 0] 30);have HM:=aW (SA _ _ Ls Rs W (ha.ext hx) (hb.ext hx) gL gR);have HX:=nY hx b0 hz;clear ha hb b0 hx hz gL gR;go_enter Tryz.func160,Tryz.ntmps160
 go_upto_region 1 with fail
 rw[<-hW];clear hW;go_upto_region 2 with(go_at_call 198;refine HM.out.mono ?_;rintro e w1 ⟨aM,nM,cM,okM,rfl,hM1,hM2,hx1⟩)
 obtain⟨V,hV,hxa,bM,OA⟩:=Ce w1 (.cells #[.slice aM nM cM] 30);rw[<-hV];have hq:=ah hx1 hxa;have hr2:=ik hq HX.out.2.1;clear hV;cases okM with
 |false=>
  have HN:=aW (hM2 rfl);have z1:=bQ _ w.heap.size 0 _ _ _ hr2;have z2:=gQ _ w.heap.size 0 _ _ hr2;have HR:=jm hr2 hq;clear hM1 hM2 hr2 hq bM OA hxa hx1;go_wp2
  refine mg w.heap.size 30 _ (gK _ w.heap.size 0 _ _ (.slice none 0 0) HR.out.1) underlying30 ?_;exact⟨none,0,0,false,rfl,(λh=>by cases h),(λ_=>⟨λk=>HN.out k,rfl⟩),(ah HX.out.1 HR.out.2).setCell (p:=⟨w.heap.size,0,none⟩) (aJ _) _⟩
 |true=>
  obtain⟨M,rfl,hMO,iM,sM,fM,hNM⟩:=hM1 rfl;have x0:=bQ V w1.heap.size 0 _ _ _ bM;simp only[gE]at x0;have lM:M.length<=120:=(of_decide_eq_true fM).2.1;have HC:=aW (uC _ M V ((hNM.weaken (aU _)).ext hxa) iM.good (fV.2 iM.ne) (by omega));have Cf:=Ap hMO iM sM fM;have HQ:=jm hr2 hq;clear hM1 hM2 hr2 hq bM OA hxa hx1 hMO iM sM fM hNM lM
  go_wp2_with (go_at_call 30;refine HC.out.mono ?_;rintro e w3 ⟨vK,K,g,rfl,hNK,iK,sK,cK,eK,lK,hx3⟩
               obtain⟨aK,cpK,rfl⟩:=hNK.slice;have hr3:=ik hx3 HQ.out.1;have z1:=bQ _ w.heap.size 0 _ _ _ hr3;have z2:=gQ _ w.heap.size 0 _ _ hr3;have HR:=nY hr3 hx3 hNK;have HK:=Ap iK sK cK eK;clear hr3 hx3 hNK iK sK cK eK lK)
  refine mg w.heap.size 30 _ (gK _ w.heap.size 0 _ _ (.slice aK (List.length K) cpK) HR.out.1) underlying30 ?_;obtain⟨hr3,hx3,hNK⟩:=HR.out;obtain⟨iK,sK,cK,eK⟩:=HK.out;obtain⟨hMO,iM,sM,fM⟩:=Cf.out;have hz0:=HX.out.2.2;have hz1:=HQ.out.2.size;refine⟨aK,K.length,cpK,true,rfl,λ_=>⟨M,K,rfl,hMO,iM,sM,fM,⟨iK,g,sK,cK,eK⟩,(hNK.set (p:=⟨w.heap.size,0,none⟩) (by show w.heap.size<V.heap.size;omega) _).weaken (by omega)⟩,(λh=>by cases h),(ah (ah HX.out.1 HQ.out.2) hx3).setCell (p:=⟨w.heap.size,0,none⟩) (aJ _) _⟩
end
