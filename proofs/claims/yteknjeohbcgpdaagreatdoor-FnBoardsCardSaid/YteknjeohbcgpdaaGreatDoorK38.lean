/-
  Contract of the reference's l3Make.
-/
import Derived.Test.YteknjeohbcgpdaaGreatDoorK13
set_option maxRecDepth 100000
namespace Go.Proofs.YteknjeohbcgpdaaGreatDoor
open Tryz
open Go.RowKit
open bO (dH Nd vl Same)
variable {D:dH} {Fs:List dH} {ls:List Nat}
def Xa(Ls Rs:List dH)(w:World)(e:Ending)(w':World):Prop:=
 ∃vN F',e=.returned (.agg #[vN])/\fu w' w.heap.size vN F'/\bO.fC F'/\Same (bO.dZ F') (.mk (Ls.map bO.dZ) (Rs.map bO.dZ))/\F'.length<=sizes Ls+sizes Rs+1/\Ext w w'
def Ir(D:dH)(Fs:List dH)(ls:List Nat):Prop:=∀j (h:j<ls.length),ls[j]<D.length/\Same (vl D ls[j]) (bO.dZ (Fs.getD j []))
theorem Ir.more{D':dH}(h:Ir D Fs ls)(g:bO.WF D)(g':bO.WF D')(hm:∃E,D'=D++E):Ir D' Fs ls:=by
 obtain⟨E,rfl⟩:=hm;intro j hj;obtain⟨a,b⟩:=h j hj;exact⟨by simp;omega,by rw[bO.ik g g' _ a];exact b⟩
theorem Ir.snoc{i:Nat}(h:Ir D Fs ls)(hi:i<D.length)(hs:Same (vl D i) (bO.dZ (Fs.getD ls.length []))):Ir D Fs (ls++[i]):=
 uV (P:=λa j=>a<D.length/\Same (vl D a) (bO.dZ (Fs.getD j []))) h ⟨hi,hs⟩
set_option maxHeartbeats 4000000 in
theorem MK(va vb:Value)(Ls Rs:List dH)(w:World)(ha:Forms w va Ls)(hb:Forms w vb Rs)(gL:∀F,F∈Ls->bO.Good F/\0<F.length)(gR:∀F,F∈Rs->bO.Good F/\0<F.length)(XM:Ls.length<=1000000)(hlR:Rs.length<=1000000)(hroom:sizes Ls+sizes Rs+1<=1000000):
 Calls prog 130 #[va,vb] w (Xa Ls Rs w):=by
 obtain⟨i0,hi0,hz0,hz1,hz2⟩:=info_parts iw;obtain⟨aA,Ic,rfl,-⟩:=id ha;obtain⟨aB,KT,rfl,-⟩:=id hb;go_enter Tryz.func130,Tryz.ntmps130
 go_wp2
 obtain⟨we,DJ⟩:∃we,we=(w.alloc (.cells #[.slice none 0 0] 28)).alloc (.cells #[.slice none 0 0,.slice none 0 0] 157):=⟨_,rfl⟩;have MP:we.heap.size=w.heap.size+2:=by rw[DJ];simp
 have hb0:we.heap[w.heap.size]?=some (.cells #[.slice none 0 0] 28 (0,0)):=by
  rw[DJ,Below.heap_alloc _ _ _ (by simp)];exact heap_alloc_new _ _
 have hb1:we.heap[w.heap.size+1]?=some (.cells #[.slice none 0 0,.slice none 0 0] 157 (0,0)):=by
  rw[DJ];have h:=heap_alloc_new (w.alloc (.cells #[.slice none 0 0] 28)) (.cells #[.slice none 0 0,.slice none 0 0] 157);rw[eQ]at h;exact h
 have hxe:Ext w we:=by rw[DJ];go_grown
 have Ce:=uq hb1;have hB:qI w we (w.heap.size+1) (.slice none 0 0) (.slice none 0 0) []:=⟨Ce,λb hb=>by
  rcases hb with h|h|h
  .omega
  .simp[Value.ownBlock]at h
  .simp[Value.ownBlock]at h,hxe⟩
 have hsd:∀b,b<w.heap.size+1->Beside we (w.heap.size+1) (.slice none 0 0) (.slice none 0 0) [] b:=λb hb=>⟨λk=>by
  rcases k with h|h|h
  .omega
  .simp[Value.ownBlock]at h
  .simp[Value.ownBlock]at h,λ⟨i,g,cap,v,hi,_⟩=>by simp at hi⟩
 rw[<-DJ];have UI:w.heap.size+1+1=we.heap.size:=by omega
 rw[UI];have hxa:Ext we ((we.alloc (.cells #[] 3)).alloc (.cells #[] 3)):=by go_grown
 have hzl:w.heap.size+1<we.heap.size:=by omega
 clear DJ MP UI
 go_loopw [6,8] (λlv ii wr=>∃k vn vb D ls,k<=Ls.length/\ii=.int .i64 ((k:Nat):Int)/\ls.length=k/\wr.ownsRow we.heap.size 3 1 lv k ((dD ls).map (Value.int .i64))/\eH wr (w.heap.size+1) vn vb D/\ig we wr (w.heap.size+1) (.slice none 0 0) (.slice none 0 0) [] vn vb D/\D.length<=sizes (Ls.take k)/\
  (∀b,lv.ownBlock=some b->we.heap.size<=b/\Beside wr (w.heap.size+1) vn vb D b)/\wr.heap[w.heap.size]?=some (.cells #[.slice none 0 0] 28 (0,0))/\Beside wr (w.heap.size+1) vn vb D w.heap.size/\
  wr.ownsRow we.heap.size 3 1 (.slice (some ⟨we.heap.size+1,0,none⟩) 0 0) 0 []/\Beside wr (w.heap.size+1) vn vb D (we.heap.size+1)/\lv.ownBlock≠some (we.heap.size+1)/\Hid (Ir D Ls ls)) (λ_ ii _=>Ls.length-(intOf ii).toNat)
 case atStart=>
  refine⟨0,_,_,[],[],aJ _,rfl,rfl,(fZ we _ (ay _) _).alloc _,Ce.ext hxa,ig.ext Ce hxa,aJ _,λb hb=>?_,?_,(hsd _ (by omega)).IX Ce hxa,lH we _ _ (ay _) _,(Beside.new Ce (by omega)).IX Ce hxa,by simp[Value.ownBlock],λj h=>absurd h (by simp)⟩
  .simp[Value.ownBlock]at hb;subst hb
   exact⟨ay _,(Beside.new Ce (b:=we.heap.size) (ay _)).IX Ce hxa⟩
  .rw[hxa.block _ (by omega)];exact hb0
 case round=>
  obtain⟨k,qb,vb1,D1,ls,hk,rfl,hal,hown,hB1,hG1,hD1,zK,hres,hrb,hr0,hrr,hne,HA⟩:=hrel;have Lx:=hB.go hB1 hG1;by_cases hlt:k<Ls.length
  .have h1:((k:Nat):Int)<(Ls.length:Int):=by omega
   obtain⟨bA,cA,aN,cN,he,hcA,hcell,hN⟩:=ha.at hlt;simp only[Value.slice.injEq]at he;obtain⟨rfl,-,rfl⟩:=he;have cc:=(Lx.ext.cell (lt_of_cell hcell)).trans hcell;obtain⟨g1,g2⟩:=gL _ (ai hlt);obtain⟨aL,cL,rfl,hcL,_⟩:=bH hown;have hrm:D1.length+(Ls[k]).length<=1000000:=(by have:=tF hlt;have:=Jo Ls (k+1);omega);have HT:=aQ (tF hlt)
   go_wp2_with (first
    |(go_at_call 138;refine(CZ _ qb vb1 D1 _ Ls[k] w _ Lx hN g1 g2 hrm).mono ?_;rintro e w3 ⟨Cb,pJ,D2,i2,rfl,hB3,iU,hD3,hi3,tC⟩
      have hown3:=bI hown iU.keep (λb hb=>(zK b hb).2.ins);have hG3:=hG1.trans iU;have XH:=hG3.keep.size;have hx4:Ext w3 (w3.alloc (.cells #[.int .i64 ((i2:Nat):Int)] 3)):=by go_grown)
    |(at_builtin;refine dC rfl (.tmp 20) (.tmp 27) 80 rfl we.heap.size 3 i0 (.int .i64 0) 1 8 underlying80 hi0 hz0 hz1 hz2 rfl (by decide) (.slice aL k cL) k ((dD ls).map (Value.int .i64)) rfl (bY hown3 hx4) _ 1 _ [.int .i64 ((i2:Nat):Int)] rfl rfl (.inr ⟨_,rfl,dJ (dh _ _ _)⟩) one_cell (by unfold maxLen;omega) (by omega) (by rw[eQ];omega) ?_;intro v5 w5 iT hg5 hl5))
   have sM:∀b,Value.ownBlock (.slice aL k cL)=some b->we.heap.size<=b/\Beside w3 (w.heap.size+1) Cb pJ D2 b:=λb hb=>⟨(zK b hb).1,(zK b hb).2.go (hown.lt b hb).2 iU⟩
   obtain⟨VH,AL,vU,hside⟩:=Beside.row hG3 hB3 sM hx4 hg5 hl5;have pM:w3.heap[w.heap.size]?=some (.cells #[.slice none 0 0] 28 (0,0)):=(by rw[iU.keep.block _ (bu hres) hrb.ins];exact hres);have FX:w5.heap[w.heap.size]?=some (.cells #[.slice none 0 0] 28 (0,0)):=by
    rw[hg5.block _ (by rw[eQ];have:=bu pM;omega) (λe=>by have:=(sM _ e.symm).1;omega),hx4.block _ (bu pM)];exact pM
   have QM:=hside _ (hrb.go (bu hres) iU);have ajm:=(hr0.lt (we.heap.size+1) rfl).2;have hr3:=bI hr0 iU.keep (λb hb=>by simp[Value.ownBlock]at hb;subst hb;exact hrr.ins);have am9:=(hr3.lt (we.heap.size+1) rfl).2;have hk5:dX (λb=>Value.ownBlock (.slice aL k cL)=some b) (w3.alloc (.cells #[.int .i64 ((i2:Nat):Int)] 3)) w5:=⟨hg5.os,hg5.tape,hg5.output,hg5.size,λk hk hn=>hg5.block k hk (λe=>hn e.symm)⟩;have Kg:=bI (bY hr3 hx4) hk5 (λb hb e=>by simp[Value.ownBlock]at hb;subst hb;exact hne e);have ajj:=hside _ (hrr.go ajm iU);have hne5:v5.ownBlock≠some (we.heap.size+1):=by
    rcases hl5 with h|⟨g,h,h2⟩
    .rw[h];exact hne
    .rw[h];intro e;injection e with e;rw[eQ]at h2;omega
   have htk:=(HA.out.more hB1.good.wf hB3.good.wf iU.more).snoc hi3 (by rw[hal,aj,aa hlt];exact tC);go_roundw
   case rel=>exact⟨k+1,Cb,pJ,D2,ls++[i2],by omega,by go_num,by rw[aK,hal];rfl,by simpa [dD]using iT,VH,AL,by have:=HT.out;omega,vU,FX,QM,Kg,ajj,hne5,htk⟩
   case measure=>simp[intOf];omega
  .have hke:k=Ls.length:=by omega
   have h1:¬(((k:Nat):Int)<(Ls.length:Int)):=(by omega);obtain⟨aL,cL,rfl,hcL,aq5⟩:=bH hown;rw[hke,bU (ay _)]at hD1;have hsb:∀b,Value.ownBlock (.slice aL k cL)=some b->Value.ownBlock (.slice (some ⟨we.heap.size+1,0,none⟩) 0 0)≠some b:=λb hb e=>hne (by rw[hb,<-e];rfl)
   have DU:∀b,Value.ownBlock (.slice (some ⟨we.heap.size+1,0,none⟩) 0 0)=some b->we.heap.size<=b/\Beside wr (w.heap.size+1) qb vb1 D1 b:=λb hb=>by
    simp[Value.ownBlock]at hb;subst hb;exact⟨by omega,hrr⟩
   have Er:=aQ hke;clear hke Lx;go_wp2_with fail
   obtain⟨wl,rfl⟩:∃wl:World,wl=wr:=⟨_,rfl⟩
   go_loopw [7,9] (λrv ii wr=>∃q vn vb D rs,q<=Rs.length/\ii=.int .i64 ((q:Nat):Int)/\rs.length=q/\wr.ownsRow we.heap.size 3 1 rv q ((dD rs).map (Value.int .i64))/\eH wr (w.heap.size+1) vn vb D/\ig we wr (w.heap.size+1) (.slice none 0 0) (.slice none 0 0) [] vn vb D/\D.length<=sizes Ls+sizes (Rs.take q)/\
    (∀b,rv.ownBlock=some b->we.heap.size<=b/\Beside wr (w.heap.size+1) vn vb D b)/\wr.heap[w.heap.size]?=some (.cells #[.slice none 0 0] 28 (0,0))/\Beside wr (w.heap.size+1) vn vb D w.heap.size/\
    wr.ownsRow we.heap.size 3 1 (.slice aL k cL) k ((dD ls).map (Value.int .i64))/\(∀b,Value.ownBlock (.slice aL k cL)=some b->Beside wr (w.heap.size+1) vn vb D b)/\(∀b,Value.ownBlock (.slice aL k cL)=some b->rv.ownBlock≠some b)/\Hid (Ir D Ls ls)/\Hid (Ir D Rs rs)) (λ_ ii _=>Rs.length-(intOf ii).toNat)
   case atStart=>exact⟨0,_,_,D1,[],aJ _,rfl,rfl,hr0,hB1,hG1,by simpa [sizes]using hD1,DU,hres,hrb,hown,λb hb=>(zK b hb).2,hsb,HA,λj h=>absurd h (by simp)⟩
   case round=>
    clear hB1 hG1 hD1 zK hres hrb hr0 hrr hne HA hown hsb DU;obtain⟨q,qb,vb1,D1,rs,hq,rfl,har,FY,hB1,hG1,hD1,DU,hres,hrb,OX,Vm,hsb,HA,HAr⟩:=hrel;have Lx:=hB.go hB1 hG1;by_cases hlt:q<Rs.length
    .have h2:((q:Nat):Int)<(Rs.length:Int):=by omega
     obtain⟨bA,cA,aN,cN,he,hcA,hcell,hN⟩:=hb.at hlt;simp only[Value.slice.injEq]at he;obtain⟨rfl,-,rfl⟩:=he;have cc:=(Lx.ext.cell (lt_of_cell hcell)).trans hcell;obtain⟨g1,g2⟩:=gR _ (ai hlt);obtain⟨aR,cR,rfl,hcR,_⟩:=bH FY;have hrm:D1.length+(Rs[q]).length<=1000000:=(by have:=tF hlt;have:=Jo Rs (q+1);omega);have HT:=aQ (tF hlt)
     go_wp2_with (first
      |(go_at_call 138;refine(CZ _ qb vb1 D1 _ Rs[q] w _ Lx hN g1 g2 hrm).mono ?_;rintro e w3 ⟨Cb,pJ,D2,i2,rfl,hB3,iU,hD3,hi3,tC⟩
        have hown3:=bI FY iU.keep (λb hb=>(DU b hb).2.ins);have hG3:=hG1.trans iU;have XH:=hG3.keep.size;have hx4:Ext w3 (w3.alloc (.cells #[.int .i64 ((i2:Nat):Int)] 3)):=by go_grown)
      |(at_builtin;refine dC rfl (.tmp 35) (.tmp 42) 80 rfl we.heap.size 3 i0 (.int .i64 0) 1 8 underlying80 hi0 hz0 hz1 hz2 rfl (by decide) (.slice aR q cR) q ((dD rs).map (Value.int .i64)) rfl (bY hown3 hx4) _ 1 _ [.int .i64 ((i2:Nat):Int)] rfl rfl (.inr ⟨_,rfl,dJ (dh _ _ _)⟩) one_cell (by unfold maxLen;omega) (by omega) (by rw[eQ];omega) ?_;intro v5 w5 iT hg5 hl5))
     have sM:∀b,Value.ownBlock (.slice aR q cR)=some b->we.heap.size<=b/\Beside w3 (w.heap.size+1) Cb pJ D2 b:=λb hb=>⟨(DU b hb).1,(DU b hb).2.go (FY.lt b hb).2 iU⟩
     obtain⟨VH,AL,vU,hside⟩:=Beside.row hG3 hB3 sM hx4 hg5 hl5;have pM:w3.heap[w.heap.size]?=some (.cells #[.slice none 0 0] 28 (0,0)):=(by rw[iU.keep.block _ (bu hres) hrb.ins];exact hres);have FX:w5.heap[w.heap.size]?=some (.cells #[.slice none 0 0] 28 (0,0)):=by
      rw[hg5.block _ (by rw[eQ];have:=bu pM;omega) (λe=>by have:=(sM _ e.symm).1;omega),hx4.block _ (bu pM)];exact pM
     have QM:=hside _ (hrb.go (bu hres) iU);have hl3:=bI OX iU.keep (λb hb=>(Vm b hb).ins);have hk5:dX (λb=>Value.ownBlock (.slice aR q cR)=some b) (w3.alloc (.cells #[.int .i64 ((i2:Nat):Int)] 3)) w5:=⟨hg5.os,hg5.tape,hg5.output,hg5.size,λk hk hn=>hg5.block k hk (λe=>hn e.symm)⟩;have ajN:=bI (bY hl3 hx4) hk5 (λb hb e=>hsb b hb e);have acB:∀b,Value.ownBlock (.slice aL k cL)=some b->Beside w5 (w.heap.size+1) Cb pJ D2 b:=λb hb=>hside _ ((Vm b hb).go (OX.lt b hb).2 iU)
     have ajh:∀b,Value.ownBlock (.slice aL k cL)=some b->v5.ownBlock≠some b:=λb hb=>by
      rcases hl5 with h|⟨g,h,h2⟩
      .rw[h];exact hsb b hb
      .rw[h];intro e;injection e with e;rw[eQ]at h2;have:=(hl3.lt b hb).2;omega
     have htl:=HA.out.more hB1.good.wf hB3.good.wf iU.more;have htk:=(HAr.out.more hB1.good.wf hB3.good.wf iU.more).snoc hi3 (by rw[har,aj,aa hlt];exact tC);go_roundw
     case rel=>exact⟨q+1,Cb,pJ,D2,rs++[i2],by omega,by go_num,by rw[aK,har];rfl,by simpa [dD]using iT,VH,AL,by have:=HT.out;omega,vU,FX,QM,ajN,acB,ajh,htl,htk⟩
     case measure=>simp[intOf];omega
    .have hqe:q=Rs.length:=by omega
     have h2:¬(((q:Nat):Int)<(Rs.length:Int)):=(by omega);obtain⟨aR,cR,rfl,hcR,aqY⟩:=bH FY;have hkl:=Er.out;have hIl:=Ints.eD (l:=dD ls) OX (by rw[bJ];omega);have hIr:=Ints.eD (l:=dD rs) FY (by rw[bJ];omega);rw[hqe,bU (ay _)]at hD1;have bl:∀x,x∈ls->x<D1.length:=λx hx=>by obtain⟨j,hj,rfl⟩:=aW.1 hx;exact(HA.out j hj).1
     have br:∀x,x∈rs->x<D1.length:=λx hx=>by obtain⟨j,hj,rfl⟩:=aW.1 hx;exact(HAr.out j hj).1
     have HQE:=aQ hqe;have HIL:=aQ hIl;have N7:=aQ hIr;have HD1:=aQ hD1;have HG1:=aQ hG1;have yj:=aQ (hal.trans hkl);have HAR:=aQ (har.trans hqe);clear hqe hkl hIl hIr OX FY DU Vm hsb hD1
     go_wp2_with (first
      |(go_at_call 134;refine(wQ _ qb vb1 D1 _ _ ls rs _ hB1 HIL.out N7.out bl br (by have:=yj.out;omega) (by have:=HAR.out;omega) (by have:=HD1.out;omega)).mono ?_;rintro e w3 ⟨Cb,pJ,D2,i2,rfl,hB3,hK3,tC,Vv,hP3⟩
        have pM:w3.heap[w.heap.size]?=some (.cells #[.slice none 0 0] 28 (0,0)):=(by rw[hK3.block _ (bu hres) hrb.ins];exact hres);have EO:=hB.go hB3 (HG1.out.trans (ig.Mw hK3 tC Vv hP3)))
      |(go_at_call 133;refine(zP _ Cb pJ D2 i2 _ hB3 hP3.lt).mono ?_;rintro e w7 ⟨vN,F',rfl,hN7,hIF,hS7,hx7⟩
        obtain⟨aN,cN,rfl,-⟩:=id hN7;have vK:w7.heap[w.heap.size]?=some (.cells #[.slice none 0 0] 28 (0,0)):=(by rw[hx7.block _ (bu pM)];exact pM);have cr7:=cell_of_row w7 w.heap.size 0 _ _ _ vK;have fr7:=frozen_of_row w7 w.heap.size 0 _ _ vK;have HH:Hid ((w7.setCell ⟨w.heap.size,0,none⟩ (.slice aN F'.length cN)).heap[w.heap.size]?=some (.cells #[.slice aN F'.length cN] 28 (0,0))):=heap_setCell_same w7 w.heap.size 0 _ _ (.slice aN F'.length cN) vK))
     (try simp only[Exit.inBlock,Exit.then]);refine bodyPost_ret (results_cell_row rfl _ _ w.heap.size 28 #[.slice aN F'.length cN] (0,0) _ rfl HH.out underlying28 rfl (by kernel_rfl)) rfl ?_;have hN8:=(hN7.set (p:=⟨w.heap.size,0,none⟩) (by show w.heap.size<w3.heap.size;exact bu pM) (.slice aN F'.length cN)).weaken (base':=w.heap.size) EO.ext.size;have hsm:=Zt hB3.good hP3.lt hIF hS7;have hgm:=Qk hB1.good.wf hB3.good.wf yj.out HAR.out HA.out HAr.out hP3;exact⟨_,F',rfl,hN8,hIF,bO.gU hS7 hgm,by have:=hP3.len;have:=HD1.out;omega,(ax EO.ext hx7).setCell (p:=⟨w.heap.size,0,none⟩) (ay _) _⟩
end Go.Proofs.YteknjeohbcgpdaaGreatDoor