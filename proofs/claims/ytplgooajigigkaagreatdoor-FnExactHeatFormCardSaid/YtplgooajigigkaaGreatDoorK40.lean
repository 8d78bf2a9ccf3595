/- 40 -/
import Derived.Test.YtplgooajigigkaaGreatDoorK38
import Derived.Test.YtplgooajigigkaaGreatDoorK39
set_option maxRecDepth 100000
set_option maxHeartbeats 4000000
namespace Go.Proofs.YtplgooajigigkaaGreatDoor
open Tryz
section
open Go.RowKit
open bE (dh Nd Gm vl bI bz rk pG Ig CV)
variable {B:List Bool} {i n:Nat}
def Du(B:List Bool)(i n:Nat):List Nat:=(List.range n).map λj=>if j<i/\B.getD j false=true then rk B j else 0
theorem D8(B:List Bool)(i n:Nat):(Du B i n).length=n:=by simp[Du]
theorem VZ(B:List Bool)(n:Nat):dB (Du B 0 n)=List.replicate n 0:=by
 refine rz (by simp[dB,Du]) λi h1 h2=>?_
 simp[dB,Du]
theorem V8{x:Nat}(hx:x<i)(hn:x<n)(hb:B.getD x false=true):∃h:x<(Du B i n).length,(Du B i n)[x]=rk B x:=by
 have hb:B[x]?.getD false=true:=by rw[<-bD];exact hb
 refine⟨by rw[D8];exact hn,?_⟩;simp[Du,hx,hb]
theorem Z4(hb:B.getD i false=true):(Du B i n).set i (rk B i)=Du B (i+1) n:=by
 have hb:B[i]?.getD false=true:=by rw[<-bD];exact hb
 refine rz (by simp[Du]) λj h1 h2=>?_
 rw[List.getElem_set];simp only[Du,kJ,List.getElem_range,bD];by_cases e:i=j
 .subst e;simp[hb]
 .rw[if_neg e]
  by_cases c:j<i
  .simp[c,show j<i+1 by omega]
  .simp[c,show ¬j<i+1 by omega]
theorem V7(hb:B.getD i false=false):Du B (i+1) n=Du B i n:=by
 have hb:B[i]?.getD false=false:=by rw[<-bD];exact hb
 refine dC λj _=>?_
 rw[bD];by_cases e:j=i
 .subst e;simp[hb]
 .by_cases c:j<i
  .simp[c,show j<i+1 by omega]
  .simp[c,show ¬j<i+1 by omega]
structure Nj(w wr:World)(nb:Nat)(nv:Value)(B:List Bool)(F:dh)(c i:Nat)(xs:List Value):Prop where
 names:wr.ownsRow w.heap.size 3 1 (.slice (some ⟨nb,0,none⟩) F.length F.length) F.length ((dB (Du B c F.length)).map (Value.int .i64))
 row:wr.ownsRow w.heap.size 91 2 nv (pG F B i).length xs
 nodes:jE wr xs (pG F B i) w.heap.size (λb=>b=nb\/nv.ownBlock=some b)
 xl:xs.length=(pG F B i).length*2
 ap:nv.ownBlock≠some nb
 ext:Ext w wr
section
variable {w wr w2 wa:World} {nb c i:Nat} {nv VR L R:Value} {B:List Bool} {F:dh} {xs:List Value}
theorem Nj.ext'(m:Nj w wr nb nv B F c i xs)(hx:Ext wr w2):Nj w w2 nb nv B F c i xs:=
 ⟨dD m.names hx,dD m.row hx,m.nodes.ext hx,m.xl,m.ap,ah m.ext hx⟩
theorem Nj.ac8(m:Nj w wr nb nv B F c i xs):w.heap.size<=nb/\nb<wr.heap.size:=m.names.lt nb rfl
theorem Nj.skip(m:Nj w wr nb nv B F i i xs)(hb:B.getD i false=false):Nj w wr nb nv B F (i+1) (i+1) xs:=by
 have e:pG F B (i+1)=pG F B i:=by rw[bE.QC,hb];simp
 obtain⟨h1,h2,h3,h4,h5,h6⟩:=m;exact⟨by rw[V7 hb];exact h1,by rw[e];exact h2,by rw[e];exact h3,by rw[e];exact h4,h5,h6⟩
theorem Nj.name(m:Nj w wr nb nv B F i i xs)(hi:i<F.length)(hb:B.getD i false=true):Nj w (wr.setCell ⟨nb,i,none⟩ (.int .i64 (rk B i:Int))) nb nv B F (i+1) i xs:=by
 have hs:fJ (λb=>b=nb) wr (wr.setCell ⟨nb,i,none⟩ (.int .i64 (rk B i:Int))):=dH (p:=⟨nb,i,none⟩);have hl:=m.ac8;refine⟨?_,bS m.row hs (λb hb e=>m.ap (e ▸ hb)),m.nodes.keep hs (λb e=>.inl e) (λb k=>.inl k),m.xl,m.ap,m.ext.setCell (p:=⟨nb,i,none⟩) hl.1 _⟩;have h:=yT (k:=i) m.names hi (rk B i:Int);have e:(dB (Du B i F.length)).set i (rk B i:Int)=dB (Du B (i+1) F.length):=by rw[<-Z4 hb];simp[dB,tq]
 rw[e]at h;exact h
theorem Nj.add(m:Nj w wr nb nv B F c i xs)(hx:Ext wr wa)(hg:wa.grownBy w2 nv.ownBlock)(ho:w2.ownsRow w.heap.size 91 2 VR ((pG F B i).length+1) (xs++[L,R]))(hl:pX wa nv VR)(hb:B.getD i false=true)
 (hL:Ints wa L (dB (Ig F B i).1)) (hR:Ints wa R (dB (Ig F B i).2)) (bL:∀b,L.ownBlock=some b->wr.heap.size<=b/\b<wa.heap.size) (bR:∀b,R.ownBlock=some b->wr.heap.size<=b/\b<wa.heap.size):Nj w w2 nb VR B F c (i+1) (xs++[L,R]):=by
 have m1:=m.ext' hx;have hk:=fP hg;have hz:=hx.size;have hw:=m.ext.size;have hL':∀b,VR.ownBlock=some b->nv.ownBlock=some b\/wa.heap.size<=b:=λb hb=>by
  rcases hl with e|⟨g,e,k⟩
  .exact .inl (e ▸ hb)
  .rw[e]at hb;injection hb with hb;exact .inr (by omega)
 have hn:=m.ac8;have e:pG F B (i+1)=pG F B i++[Ig F B i]:=by rw[bE.QC,hb];rfl
 have hsz:=hk.size;have far:∀b,wr.heap.size<=b->b<wa.heap.size->¬(b=nb\/VR.ownBlock=some b):=by
  rintro b h1 h2 (h|h)
  .omega
  .rcases hL' b h with h|h
   .have:=(m.row.lt b h).2;omega
   .omega
 have hnr:=(m1.nodes.keep hk (K':=λb=>b=nb\/VR.ownBlock=some b) (λb e=>.inr e) (λb k=>by
  rcases k with k|k
  .exact .inl (.inl k)
  .exact(hL' b k).imp .inr id)).insert m.xl (nd:=Ig F B i) (L:=L) (R:=R) (i:=(pG F B i).length) (aJ _)
   (sN hL hk (λb hb e=>by have:=(bL b hb).1;have:=(m.row.lt b e).2;omega)) (sN hR hk (λb hb e=>by have:=(bR b hb).1;have:=(m.row.lt b e).2;omega))
   (λb hb=>⟨by have:=(bL b hb).1;omega,by have:=(bL b hb).2;omega,far b (bL b hb).1 (bL b hb).2⟩) (λb hb=>⟨by have:=(bR b hb).1;omega,by have:=(bR b hb).2;omega,far b (bR b hb).1 (bR b hb).2⟩)
 have hxl:=m.xl;rw[dJ (by omega),tu (by omega),gN,dJ (aJ _),tu (aJ _)]at hnr;refine⟨bS m1.names hk (λb hb e=>m.ap (by simp only[Value.ownBlock,bU]at hb;rw[hb];exact e)),by rw[e,bu];exact ho,by rw[e];exact hnr,by rw[e];simp;omega,λh=>?_,eU m1.ext hg (λb hb=>(m1.row.lt b hb).1)⟩;rcases hL' nb h with h|h
 .exact m.ap h
 .omega
end
def YF(F:dh)(r:Nat)(w:World)(e:Ending)(w':World):Prop:=
 ∃(a:Option Addr) (c:Nat) (E:dh),e=.returned (.agg #[.slice a E.length c])/\bI E/\bz E=vl F r/\(dm F=true->dm E=true)/\dI w' w.heap.size (.slice a E.length c) E/\Ext w w'
def NB:List Row:=[⟨0,[],40,[7]⟩,⟨1,[],41,[9]⟩,⟨2,[1],42,[40]⟩,⟨3,[],43,[6]⟩,⟨4,[2,3],44,[41,42]⟩,⟨5,[],45,[9]⟩,⟨6,[5],46,[44]⟩,⟨7,[],47,[6]⟩,⟨8,[6,7,4],48,[45,46]⟩,⟨9,[4,8],49,[43,47]⟩,⟨10,[9],50,[48]⟩,⟨11,[0,10,8],51,[39,49]⟩,⟨12,[11,11,0,1,2,3,4,5,6,7,8,9,10,11],8,[50]⟩]
theorem K9(v:Value)(F:dh)(r:Nat)(w:World)(hf:dI w 0 v F)(hF:bI F)(hA:∀x,x∈F->x.1.length<=1000000/\x.2.length<=1000000)(hl:F.length<=1000000)(hr:r<F.length):
 Calls prog 77 #[.agg #[v],.int .i64 (r:Int)] w (YF F r w):=by
 obtain⟨i0,hi0,hz0,hz1,hz2⟩:=info_parts iU;obtain⟨i1,hi1,hy0,hy1,hy2⟩:=info_parts vG;obtain⟨bF0,gH,-,-,-,-,rfl,hcap,-⟩:=id (hf.at hr);have hmk:=λw:World=>run_make (P:=prog) w 41 3 i0 (.int .i64 0) underlying41 hi0 hz0 .i64 .i64 (F.length:Int) (F.length:Int) (by omega) (by omega) (by rw[hz2];omega) (by omega)
 simp only[hz1,kT,jB]at hmk;obtain⟨W0,hW0,hx0,hb0,hb1⟩:∃W,W=(w.alloc (.cells #[.slice (some ⟨bF0,0,none⟩) F.length gH] 30)).alloc (.cells #[.slice none 0 0] 30)/\Ext w W/\W.heap[w.heap.size]?=some (.cells #[.slice (some ⟨bF0,0,none⟩) F.length gH] 30 (0,0))/\W.heap[w.heap.size+1]?=some (.cells #[.slice none 0 0] 30 (0,0)):=by
  refine⟨_,rfl,by go_grown,?_,?_⟩
  .rw[jo _ _ _ (by simp)];exact eu _ _
  .have h:=eu (w.alloc (.cells #[.slice (some ⟨bF0,0,none⟩) F.length gH] 30)) (.cells #[.slice none 0 0] 30);rw[fU]at h;exact h
 have c0:=bQ W0 w.heap.size 0 _ _ _ hb0;simp only[gE]at c0;have HF:=aW hF;have HA:=aW hA;have HU:=aW (KA _ F r W0 (hf.ext hx0) hF.good.wf hl hr);go_enter Tryz.func77,Tryz.ntmps77
 go_upto_region 1 with fail
 rw[<-hW0];clear hW0;go_upto_region 2 with(go_at_call 105;refine HU.out.mono ?_;rintro e w1 ⟨vu,B,rfl,hou,hx1,hBl,hBr⟩)
 have hf1:=hf.ext (ah hx0 hx1);have amg:=ik hx1 hb0;have adQ:=ik hx1 hb1;have c1:=fw hx1 c0;obtain⟨ub,cu,rfl,-,-,hcu⟩:=iy hou (by omega);have HC:Hid (∀j,j<F.length->w1.cell? ⟨ub,j,none⟩=some (.bool (B.getD j false))):=aW λj hj=>by
  rw[hcu j (by omega),ek,bD,af (by omega)];rfl
 clear hcu;have HM:Hid (CV F r B):=aW ⟨hr,hBr⟩;obtain⟨W,hW,hm0⟩:∃W,W=(w1.alloc (.cells (madeCells #[Value.int .i64 0] F.length) 3)).alloc (.cells #[] 91)/\Nj w1 W w1.heap.size (.slice (some ⟨w1.heap.size+1,0,none⟩) 0 0) B F 0 0 []:=by
  refine⟨_,rfl,⟨?_,?_,jE.nil _ _ _,rfl,by simp[Value.ownBlock],by go_grown⟩⟩
  .have h:=yJ w1 F.length hl
   rw[VZ];exact dD h (bY (gz _ _) _)
  .have hs:(w1.alloc (.cells (madeCells #[Value.int .i64 0] F.length) 3)).heap.size=w1.heap.size+1:=fU _ _
   have h:=eu (w1.alloc (.cells (madeCells #[Value.int .i64 0] F.length) 3)) (.cells #[] 91);rw[hs]at h;exact⟨by simp[pG,bE.mk],.inr ⟨w1.heap.size+1,0,#[],rfl,by omega,h,aJ _,aU _,by simp,by simp⟩⟩
 have FC:=ah hx0 hx1;have HZ:=bW adQ;clear HU hou hBl hBr hx0 hx1 hb0 hb1 c0 hf hF hA;go_upto_region 4 with fail
 rw[<-hW];clear hW hmk;have hrw:wrap64 (((r:Nat):Int)+1)=((r+1:Nat):Int):=by unfold wrap64;omega
 have hs1:((r+1:Nat):Int)<=(gH:Int):=by omega
 have cW:=fw hm0.ext c1;go_wp2
 go_loopw [7,8,9,25] (λnv _ _ ii wr=>∃(i:Nat) (xs:List Value),i<=r+1/\ii=.int .i64 ((i:Nat):Int)/\Nj w1 wr w1.heap.size nv B F i i xs) (λ_ _ _ ii _=>r+1-(intOf ii).toNat)
 case atStart=>exact⟨0,[],aU _,rfl,hm0⟩
 case round=>
  clear hm0 cW;obtain⟨i,xs,hi,rfl,hm⟩:=hrel;obtain⟨aN,cN,rfl,-,-⟩:=bT hm.row;by_cases hlt:i<r+1
  .have h1:((i:Nat):Int)<((r+1:Nat):Int):=by omega
   have Q9:i<F.length:=(by omega);obtain⟨bF,cF,aL,cL,aR,cR,he,Nh,cl,cr,vM,vJ⟩:=hf1.at Q9;simp only[il,bU,Addr.mk.injEq,and_true,true_and]at he;obtain⟨rfl,rfl⟩:=he;have cl':=fw hm.ext cl;have MC:=fw hm.ext cr;have dk:F[i]?=some F[i]:=af Q9;obtain⟨Qk,Qj⟩:=HF.out.good.wf i _ dk;obtain⟨Ce,MV⟩:=HA.out _ (ai Q9);have Kc:Ext wr (wr.alloc (.cells #[.slice aL (F[i]).1.length cL,.slice aR (F[i]).2.length cR] 91)):=(by go_grown);have hbW:=eu wr (.cells #[.slice aL (F[i]).1.length cL,.slice aR (F[i]).2.length cR] 91);have hu0:=fw hm.ext (HC.out i Q9);have hu1:=fw Kc hu0;have HI:=jm (vM.ext (ah hm.ext Kc)) (vJ.ext (ah hm.ext Kc));have hnb:wr.heap.size<(wr.alloc (.cells #[.slice aL (F[i]).1.length cL,.slice aR (F[i]).2.length cR] 91)).heap.size:=bW hbW;have hm1:=hm.ext' Kc;have HI0:=jm vM vJ;clear vM vJ cl cr hu0;go_upto_region 7 with fail
   generalize hWW:wr.alloc (.cells #[.slice aL (F[i]).1.length cL,.slice aR (F[i]).2.length cR] 91)=W1 at *;have c0:=bQ W1 wr.heap.size 0 _ _ _ hbW;have c1':=bQ W1 wr.heap.size 1 _ _ _ hbW;simp only[gE]at c0 c1';cases hbi:B.getD i false with
   |false=>
    rw[hbi]at hu1;have hmN:=hm1.skip hbi;clear hbi;go_wp2
    go_roundw
    case rel=>exact⟨i+1,xs,by omega,by go_num,hmN⟩
    case measure=>simp[intOf];omega
   |true=>
    rw[hbi]at hu1;have hrr:=HM.out.get.1 hbi;have hgl:(pG F B i).length=rk B i:=bE.Jh F B i;have hmN:=hm1.name Q9 hbi;have hfr:W1.frozen? ⟨w1.heap.size,i,none⟩=false:=hm1.names.frozenAt i;obtain⟨u,hu⟩:∃u,W1.cell? ⟨w1.heap.size,i,none⟩=some u:=⟨_,(hm1.names.cellAt i (by omega)).trans (af (by simp[dB,D8];omega))⟩;have hnl:=hm.ac8;have alT:((i:Nat):Int)<(F.length:Int):=(by omega);have HBI:=aW hbi;rw[hgl]at hm hm1 hmN;have HHB:=jm hm.row hm;rw[hgl];clear hbi;have hs2:fJ (λb=>b=w1.heap.size) W1 (W1.setCell ⟨w1.heap.size,i,none⟩ (.int .i64 (rk B i:Int))):=dH (p:=⟨w1.heap.size,i,none⟩);have d0:=(mP (hs2.block wr.heap.size hnb (by omega))).trans c0;have d1:=(mP (hs2.block wr.heap.size hnb (by omega))).trans c1';go_upto_region 9 with fail
    clear hu1 hfr hu hm hm1 alT c0 c1';generalize hW2:W1.setCell ⟨w1.heap.size,i,none⟩ (.int .i64 (rk B i:Int))=W2 at *;have asW:wr.heap.size<W2.heap.size:=bg hnb hs2.size;have hE2:=hmN.ext;have HI2:=jm (HI0.out.1.ext hE2) (HI0.out.2.ext hE2);have Q4:∀x,x∈(F[i]).1->∃h:x<(Du B (i+1) F.length).length,(Du B (i+1) F.length)[x]=rk B x:=λx hx=>V8 (by have:=Qk x hx;omega) (by have:=Qk x hx;omega) (HM.out.get.2 (.left hrr dk hx))
    have Q3:∀x,x∈(F[i]).2->∃h:x<(Du B (i+1) F.length).length,(Du B (i+1) F.length)[x]=rk B x:=λx hx=>V8 (by have:=Qj x hx;omega) (by have:=Qj x hx;omega) (HM.out.get.2 (.right hrr dk hx))
    have hns:∀V,Ext W2 V->Ints V (.slice (some ⟨w1.heap.size,0,none⟩) F.length F.length) (dB (Du B (i+1) F.length)):=λV hV=>by
     have h:=dD hmN.names hV;have e:F.length=(dB (Du B (i+1) F.length)).length:=(by rw[bG,D8]);rw[e]at h ⊢;exact Ints.gm h (by rw[bG,D8];omega)
    refine oJ (λV=>V.cell? ⟨wr.heap.size,0,none⟩=some (.slice aL (F[i]).1.length cL)/\V.cell? ⟨wr.heap.size,1,none⟩=some (.slice aR (F[i]).2.length cR)) [12] NB ⟨d0,d1⟩ (λaj ae=>?_);(refine bP 0 aj ae ?_;refine bP 1 aj ae ?_;refine bP 2 aj ae ?_;refine bP 3 aj ae ?_;refine bP 5 aj ae ?_;refine bP 6 aj ae ?_;refine bP 7 aj ae ?_);(refine jv aj (i:=4) λK hK=>?_;go_simp);refine(uy _ _ (F[i]).1 (Du B (i+1) F.length) (rk B) _ (HI2.out.1.ext (dQ ⟨1,rfl⟩)) (hns _ (dQ ⟨1,rfl⟩)) Ce Q4).mono ?_;rintro e w4 ⟨v4,rfl,Dx,hx4⟩;have GD:Ext W2 w4:=ah (dQ ⟨1,rfl⟩) hx4;have e0:w4.cell? ⟨wr.heap.size,0,none⟩=some (.slice aL (F[i]).1.length cL):=fw GD d0;have e1:w4.cell? ⟨wr.heap.size,1,none⟩=some (.slice aR (F[i]).2.length cR):=fw GD d1;(refine hK.out _ _ (λ_=>?_) ?_)
    .exact⟨e0,e1⟩
    clear hK K;(try simp only[nP]);(refine jv aj (i:=8) λK hK=>?_;go_simp);refine(uy _ _ (F[i]).2 (Du B (i+1) F.length) (rk B) _ (HI2.out.2.ext GD) (hns _ GD) MV Q3).mono ?_;rintro e w5 ⟨v5,rfl,lq,hx5⟩;have Jy:=ah GD hx5;have f0:w5.cell? ⟨wr.heap.size,0,none⟩=some (.slice aL (F[i]).1.length cL):=fw hx5 e0;have f1:w5.cell? ⟨wr.heap.size,1,none⟩=some (.slice aR (F[i]).2.length cR):=fw hx5 e1;(refine hK.out _ _ (λ_=>?_) ?_)
    .exact⟨f0,f1⟩
    clear hK K;(try simp only[nP]);have aat:=dD Dx hx5;obtain⟨a4,c4,rfl,-,-⟩:=bT aat;obtain⟨a5,c5,rfl,-,-⟩:=bT lq;have hF5:w5.cell? ⟨wr.heap.size,0,none⟩=some (.slice aL (F[i]).1.length cL)/\w5.cell? ⟨wr.heap.size,1,none⟩=some (.slice aR (F[i]).2.length cR):=⟨f0,f1⟩;clear ae;have ae:=hF5;(refine bP 9 aj ae ?_);(refine jv aj (i:=10) λK hK=>?_;go_simp);(refine hK.out _ _ (λ_=>?_) ?_)
    .exact⟨aI f0 _,aI f1 _⟩
    clear hK K;(try simp only[nP]);have IB:=hmN.ext' Jy;have hw5:=IB.ext.size;refine jv aj (i:=11) λK hK=>?_
    refine jf rfl (.tmp 39) (.tmp 49) 28 rfl w1.heap.size 91 i1 (.agg #[.slice none 0 0,.slice none 0 0]) 2 48 underlying28 hi1 hy0 hy1 hy2 rfl (by decide) (.slice aN (rk B i) cN) (rk B i) xs rfl (by have:=(IB.ext' (bY (gz _ _) (.cells #[.slice a4 (F[i]).1.length c4,.slice a5 (F[i]).2.length c5] 91))).row;rw[hgl]at this;exact this) _ 1 _ [.slice a4 (F[i]).1.length c4,.slice a5 (F[i]).2.length c5] rfl rfl (.inr ⟨_,rfl,DU⟩) xO (by unfold maxLen;have:=bE.ab1 B i;omega) (by have:=bE.ab1 B i;omega) (by rw[fU];omega) ?_;intro v9 w9 Fv Av L8;obtain⟨x9,y9,rfl,-,-⟩:=bT Fv;have hkg:=fP Av;have hxa:Ext w5 (w5.alloc (.cells #[.slice a4 (F[i]).1.length c4,.slice a5 (F[i]).2.length c5] 91)):=bY (gz _ _) _;have hnl:(Value.slice aN (rk B i) cN).ownBlock≠some wr.heap.size:=λhb=>by
     have:=(HHB.out.2.row.lt wr.heap.size hb).2;omega
    have hbig:wr.heap.size<(w5.alloc (.cells #[.slice a4 (F[i]).1.length c4,.slice a5 (F[i]).2.length c5] 91)).heap.size:=by
     have h1:=hxa.size;have h2:=Jy.size;omega
    have g0:=(mP (hkg.block wr.heap.size hbig hnl)).trans (aI f0 _);have g1:=(mP (hkg.block wr.heap.size hbig hnl)).trans (aI f1 _);(refine hK.out _ _ (λ_=>?_) ?_)
    .exact⟨g0,g1⟩
    clear hK K;(try simp only[nP]);refine nQ aj [12] [_] ?_;clear aj ae;go_wp2
    go_roundw
    case rel=>
     rw[bK]at aat lq;have hp:Ig F B i=((F[i]).1.map (rk B),(F[i]).2.map (rk B)):=(by simp[bE.Ig,Q9]);refine⟨i+1,_,by omega,by go_num,hmN.add (L:=.slice a4 (F[i]).1.length c4) (R:=.slice a5 (F[i]).2.length c5) (ah Jy hxa) Av (by rw[hgl];exact Fv) L8 HBI.out ?_ ?_ ?_ ?_⟩
     .rw[hp];exact Ints.gm (dD aat hxa) (by rw[bG,bK];omega)
     .rw[hp];exact Ints.gm (dD lq hxa) (by rw[bG,bK];omega)
     .intro b hb
      have h1:=aat.lt b hb;have h2:=hxa.size;have h3:W2.heap.size<=b:=h1.1;omega
     .intro b hb
      have h1:=lq.lt b hb;have h2:=hxa.size;have h3:=GD.size;omega
    case measure=>simp[intOf];omega
  .have h1:¬(((i:Nat):Int)<((r+1:Nat):Int)):=by omega
   have hie:i=r+1:=(by omega);subst hie;have hbr:=ik hm.ext adQ;have q1:=bQ wr (w.heap.size+1) 0 _ _ _ hbr;have q2:=gQ wr (w.heap.size+1) 0 _ _ hbr;have HB:=nY hbr hm hm.row;have hxz:=FC.size;have HE:=aW FC;clear hbr hm adQ amg FC hf1;go_wp2
   (try simp only[Exit.inBlock,Exit.then]);refine bodyPost_ret (results_cell_row rfl _ _ (w.heap.size+1) 30 _ (0,0) _ rfl (gK _ (w.heap.size+1) 0 _ _ (.slice aN (pG F B (r+1)).length cN) HB.out.1) underlying30 rfl (by kernel_rfl)) rfl ?_;have hform:=HM.out.form HF.out;have hm:=HB.out.2.1;have hnn:=dI.gm hm.row hm.nodes;refine⟨aN,cN,pG F B (r+1),rfl,hform.1,hform.2,λh=>bE.ZZ HM.out h,?_,?_⟩
   .have:=(hnn.set (p:=⟨w.heap.size+1,0,none⟩) (by show w.heap.size+1<w1.heap.size;exact HZ) (.slice aN (pG F B (r+1)).length cN))
    exact this.weaken hxz
   .exact ll (ah HE.out hm.ext) (w.heap.size+1) 0 _
end
section
open Go.RowKit
open bE (dh Nd Gm vl bI bz Same plus Canon jc nf)
variable {F:dh}
theorem G7(x:Gm):Same (plus (bz [([],[])]) x) x:=by
 have e:bz [([],[])]=bE.xL:=rfl;rw[e];exact bE.dn (bE.jV _ _) (bE.pR x)
theorem mG{g:Gm}(h:fA F g):Canon (bz F):=by
 obtain⟨_,c,s,k,_⟩:=h;exact bE.lQ (bE.dU s) k
theorem CF(h:bI F)(c:Canon (bz F)):fA F (bz F):=⟨h,bz F,bE.gT _,c,jc.refl _⟩
theorem af3{t:Int}{p:Nat}(hp:p<=16):nf p t=nf 16 (gP t p):=by
 have h:=bE.lY p (16-p) t;rw[show p+(16-p)=16 by omega]at h;rw[<-h,gP,mX]
theorem Es{MJ:Bool}{E NF E':dh}{u:Int}(hE:bI E)(cE:Canon (bz E))(fE:dm E=true)(hN:fA NF (nf 16 u))(fN:dm NF=true):
 Acc MJ [E,NF] 2 E'↔CS E u/\fA E' (plus (bz E) (nf 16 u))/\(MJ=true->dm E'=true):=by
 have hl:=(of_decide_eq_true fE).2.1;have Tv:=CF hE cE;have cN:=mG hN;have hfN:=CF hN.1 cN;have one:∀{E1:dh},Acc MJ [E,NF] 1 E1->E1=E:=λ{E1} h=>by
  obtain⟨E0,C,S,h0,_,hC,_,_,_,hS,_,h1,_⟩:=h;have h0:E0=[([],[])]:=h0;subst h0;have hC:fA C (bz E):=hC;have q:=hC.unique Tv;subst q;exact(h1.to (hS.eqv.trans (G7 _).eqv)).unique Tv
 constructor
 .rintro⟨E1,C,S,h1,_,hC,fC,hm,iS,sS,fS,hE',hc⟩
  have q:=one h1;subst q;have hC:fA C (bz NF):=hC;have q:=hC.unique hfN;subst q;exact⟨⟨C,S,hN,fC,hm,iS,sS,fS⟩,hE'.to (sS.eqv.trans (bE.o6 (jc.refl _) hN.eqv)),hc⟩
 .rintro⟨⟨NF2,S,h2,f2,hm,iS,sS,fS⟩,hE',hc⟩
  have q:=h2.unique hN;subst q;refine⟨E,NF2,S,⟨[([],[])],E,E,rfl,by decide,Tv,fE,by simp;omega,hE,bE.dU (G7 _),fE,Tv,λ_=>fE⟩,fE,hfN,f2,hm,iS,sS,fS,hE'.to ?_,hc⟩;exact((sS.eqv.trans (bE.o6 (jc.refl _) hN.eqv))).symm
def YE(E:dh)(u:Int)(w:World)(e:Ending)(w':World):Prop:=
 ∃(a:Option Addr) (n c:Nat) (ok:Bool),e=.returned (.tuple #[.agg #[.slice a n c],.bool ok])/\(ok=true->∃E',n=E'.length/\CS E u/\fA E' (plus (bz E) (nf 16 u))/\dm E'=true/\dI w' w.heap.size (.slice a n c) E')/\
  (ok=false->¬(CS E u/\∃E',fA E' (plus (bz E) (nf 16 u))/\dm E'=true))/\Ext w w'
theorem oH.two{w:World}{b:Nat}{v0 v1:Value}{G:dh}{T:TypeId}(hb:w.heap[b]?=some (.cells #[v0,v1] T (0,0)))(h0:dI w 0 v0 F)(h1:dI w 0 v1 G):oH w (.slice (some ⟨b,0,none⟩) 2 2) [F,G]:=by
 refine⟨[v0,v1],⟨some ⟨b,0,none⟩,2,rfl,aJ _,by simp,λ_=>⟨b,0,rfl,λi hi=>?_⟩⟩,rfl,λi a c=>?_⟩
 .have hi:i<2:=hi
  rcases(show i=0\/i=1 by omega)with rfl|rfl
  .exact bQ w b 0 _ _ _ hb
  .exact bQ w b 1 _ _ _ hb
 .have c:i<2:=c
  rcases(show i=0\/i=1 by omega)with rfl|rfl
  .exact h0
  .exact h1
theorem xS(v:Value)(E:dh)(t:Int)(p:Nat)(w:World)(hv:dI w 0 v E)(hE:bI E)(cE:Canon (bz E))(fE:dm E=true)(hg:dS t p=true):
 Calls prog 78 #[.agg #[v],tY t p] w (YE E (gP t p) w):=by
 obtain⟨aE,Zp,rfl,-,-,-⟩:=id hv;have hp:=(fe.1 hg).2.2.2.1;obtain⟨W,hW,hx,hb0,hb1,hb2⟩:∃W,W=((w.alloc (.cells #[.slice aE E.length Zp] 30)).alloc (.cells #[.int .i64 t,.int .i64 (p:Int)] 34)).alloc (.cells #[.slice none 0 0] 30)/\Ext w W/\W.heap[w.heap.size]?=some (.cells #[.slice aE E.length Zp] 30 (0,0))/\oQ W (w.heap.size+1) t p/\W.heap[w.heap.size+1+1]?=some (.cells #[.slice none 0 0] 30 (0,0)):=by
  refine⟨_,rfl,by go_grown,?_,?_,?_⟩
  .rw[jo _ _ _ (by simp;omega),jo _ _ _ (by simp)];exact eu _ _
  .show _=_
   rw[jo _ _ _ (by simp)];have h:=eu (w.alloc (.cells #[.slice aE E.length Zp] 30)) (.cells #[.int .i64 t,.int .i64 (p:Int)] 34);rw[fU]at h;exact h
  .have h:=eu ((w.alloc (.cells #[.slice aE E.length Zp] 30)).alloc (.cells #[.int .i64 t,.int .i64 (p:Int)] 34)) (.cells #[.slice none 0 0] 30);rw[fU,fU]at h;exact h
 have HE:=nY hE cE fE;have HN:=aW (λV=>EP t p V hg);have e16:nf p t=nf 16 (gP t p):=af3 (by omega);have H16:=aW e16;obtain⟨c2,c3⟩:=hb1.cells;have c0:=bQ W w.heap.size 0 _ _ _ hb0;simp only[gE]at c0;have HV:=aW (hv.ext hx);have HX:=aW hx;clear hx e16 hv;rw[gM];go_enter Tryz.func78,Tryz.ntmps78
 go_upto_region 1 with fail
 rw[<-hW];clear hW;go_upto_region 2 with(go_at_call 129;refine(HN.out _).mono ?_;rintro e w1 ⟨aN,nN,cN,ok1,rfl,hN1,Ph,hx1⟩)
 have hxa:Ext w1 (w1.alloc (.cells #[.slice aN nN cN] 30)):=by go_grown
 have hbn:=eu w1 (.cells #[.slice aN nN cN] 30);have hE1:=ah hx1 hxa;have hr0:=ik hE1 hb0;have hr2:=ik hE1 hb2;have HV1:=aW (HV.out.ext hE1);cases ok1 with
 |false=>
  have rq:Hid (¬(CS E (gP t p)/\∃E',fA E' (plus (bz E) (nf 16 (gP t p)))/\dm E'=true)):=aW (by
   rintro⟨⟨NF,S,f1,f2,_⟩,_⟩;have h:=mG f1;rw[Ph rfl NF f1.1 (by rw[H16.out];exact bE.fT h (bE.mE _ _) f1.eqv)]at f2;cases f2)
  generalize w1.alloc (.cells #[.slice aN nN cN] 30)=V1 at *;have q1:=bQ V1 (w.heap.size+1+1) 0 _ _ _ hr2;have q2:=gQ V1 (w.heap.size+1+1) 0 _ _ hr2;have HB:=aW hr2;have HZ:=aW (ah HX.out hE1);clear hN1 Ph hxa hbn hE1 hr0 hr2 hb0 hb1 hb2 hx1 c0 c2 c3;go_wp2
  refine mg (w.heap.size+1+1) 30 _ (gK _ (w.heap.size+1+1) 0 _ _ (.slice none 0 0) HB.out) underlying30 ?_;exact⟨none,0,0,false,rfl,(λh=>by cases h),λ_=>rq.out,ll HZ.out (w.heap.size+1+1) 0 _⟩
 |true=>
  obtain⟨NF,rfl,hNi,hNs,hNf,hNn⟩:=hN1 rfl;have Rf:=(hNn.weaken (aU _)).ext hxa;have J6:Hid (fA NF (nf 16 (gP t p))/\dm NF=true):=aW ⟨⟨hNi,_,hNs,bE.mE _ _,by rw[H16.out];exact jc.refl _⟩,hNf⟩;generalize w1.alloc (.cells #[.slice aN NF.length cN] 30)=V1 at *;generalize w1.heap.size=bN at *;have k0:=bQ V1 w.heap.size 0 _ _ _ hr0;have k1:=bQ V1 bN 0 _ _ _ hbn;simp only[gE]at k0 k1;have hxb:Ext V1 (V1.alloc (.cells #[.slice aE E.length Zp,.slice aN NF.length cN] 30)):=by go_grown
  have hL:=oH.two (eu V1 (.cells #[.slice aE E.length Zp,.slice aN NF.length cN] 30)) (HV1.out.ext hxb) (Rf.ext hxb);have HCS:=aW (GQ _ [E,NF] _ hL (λF hF=>by
   simp only[jk,List.mem_nil_iff,or_false]at hF;rcases hF with rfl|rfl
   .exact⟨HE.out.1,HE.out.2.2⟩
   .exact⟨J6.out.1.1,J6.out.2⟩))
  have HZ:=jm (ah HX.out (ah hE1 hxb)) (ik hxb hr2);clear hN1 Ph hNi hNs hNf hNn Rf hxa hbn hE1 hr0 hr2 hb0 hb1 hb2 hx1 hxb hL c0 c2 c3;go_wp2_with (go_at_call 130;refine HCS.out.mono ?_;rintro e w3 ⟨aS,nS,cS,yU,rfl,hS1,hS2,hx3⟩;have hr3:=ik hx3 HZ.out.2;have q1:=bQ w3 (w.heap.size+1+1) 0 _ _ _ hr3;have q2:=gQ w3 (w.heap.size+1+1) 0 _ _ hr3;have HB:=aW hr3;have HS:=jm hS1 hS2;have RI:=aW hx3;clear hr3 hS1 hS2 hx3)
  refine mg (w.heap.size+1+1) 30 _ (gK _ (w.heap.size+1+1) 0 _ _ (.slice aS nS cS) HB.out) underlying30 ?_;refine⟨aS,nS,cS,yU,rfl,λh=>?_,λh k=>?_,ll (ah HZ.out.1 RI.out) (w.heap.size+1+1) 0 _⟩
  .obtain⟨E',e1,e2,e3,e4,e5⟩:=HS.out.1 h
   have k:=(Es HE.out.1 HE.out.2.1 HE.out.2.2 J6.out.1 J6.out.2).1 e2;have hz:=bW HZ.out.2;exact⟨E',e1,k.1,k.2.1,e4,(e5.set (p:=⟨w.heap.size+1+1,0,none⟩) hz _).weaken (by omega)⟩
  .obtain⟨k1,E',k2,k3⟩:=k
   exact HS.out.2 h (by simp) E' ((Es HE.out.1 HE.out.2.1 HE.out.2.2 J6.out.1 J6.out.2).2 ⟨k1,k2,λ_=>k3⟩)
end
section
open Go.RowKit
open bE (dh Nd Gm vl bI bz Same)
variable {xs:List Value} {Fs:List dh} {v:Value}
def uU(W:World)(xs:List Value)(Fs:List dh):Prop:=xs.length=Fs.length/\∀i (_:i<xs.length) (_:i<Fs.length),dI W 0 xs[i] Fs[i]
theorem uU.add{W:World}(h:uU W xs Fs){F:dh}(hv:dI W 0 v F):uU W (xs++[v]) (Fs++[F]):=by
 obtain⟨h1,h2⟩:=h;refine⟨by simp[h1],λi a b=>?_⟩;by_cases c:i<xs.length
 .rw[dM c,dM (by omega)];exact h2 i c (by omega)
 .have e:i=xs.length:=by simp at a;omega
  subst e;rw[eQ (by omega),eQ (by omega)]
  simpa using hv
theorem oH.gm{w:World}{B e:Nat}{n:Nat}(h:w.ownsRow B e 1 v n xs)(hn:n=xs.length)(hx:uU w xs Fs)(hl:xs.length<=1152921504606846976):oH w v Fs:=by
 subst hn;refine⟨xs,?_,hx.1,hx.2⟩;rcases sV xs.length with h0|h0
 .obtain⟨a,cap,rfl,h1,h2⟩:=bT h
  exact⟨a,cap,rfl,h1,hl,λk=>absurd k (by omega)⟩
 .obtain⟨g,cap,rfl,h1,h2,h3⟩:=iy h h0
  exact⟨_,cap,rfl,h1,hl,λ_=>⟨g,0,rfl,λi hi=>by rw[fI,h3 i (by omega)];exact af hi⟩⟩
structure ShM(w0 w wr:World)(lb:Nat)(lv rv:Value)(xs ys:List Value)(Fs Gs:List dh)(S:Nat->Prop):Prop where
 box:wr.heap[lb]?=some (.cells #[lv,rv] 115 (0,0))
 l:wr.ownsRow w.heap.size 30 1 lv xs.length xs
 r:wr.ownsRow w.heap.size 30 1 rv ys.length ys
 ap:∀b,lv.ownBlock=some b->rv.ownBlock≠some b
 sup:oN S (λW=>uU W xs Fs/\uU W ys Gs) wr
 far:∀b,S b->b≠lb/\lv.ownBlock≠some b/\rv.ownBlock≠some b
 ext:Ext w0 wr
 lb0:w0.heap.size<=lb
 lbw:lb<w.heap.size
 sz:w.heap.size<=wr.heap.size
section
variable {w0 w wr wa w2:World} {lb:Nat} {lv rv De rv' v:Value} {xs ys:List Value} {Fs Gs:List dh} {S T:Nat->Prop} {F:dh}
variable {n b:Nat} {zs:List Value}
theorem ShM.ext'(m:ShM w0 w wr lb lv rv xs ys Fs Gs S)(hx:Ext wr w2):ShM w0 w w2 lb lv rv xs ys Fs Gs S:=
 ⟨(hx.block lb (bW m.box)).trans m.box,dD m.l hx,dD m.r hx,m.ap,m.sup.ext hx,m.far,ah m.ext hx,m.lb0,m.lbw,bZ m.sz hx.size⟩
theorem ShM.acY(m:ShM w0 w wr lb lv rv xs ys Fs Gs S)(hs:oN T (λW=>dI W 0 v F) wr)(hT:∀b,T b->b≠lb/\lv.ownBlock≠some b/\rv.ownBlock≠some b)(hx:Ext wr wa)(hg:wa.grownBy w2 lv.ownBlock)(ho:w2.ownsRow w.heap.size 30 1 De n zs)(hn:n=(xs++[v]).length)(hz:zs=xs++[v])(hl:pX wa lv De):
 ShM w0 w (w2.setCell ⟨lb,0,none⟩ De) lb De rv (xs++[v]) ys (Fs++[F]) Gs (λb=>S b\/T b)/\w2.cell? ⟨lb,0,none⟩=some lv/\w2.frozen? ⟨lb,0,none⟩=false:=by
 subst hn hz;have hk1:=fP hg;have h0:=m.lb0;have h1:=m.lbw;have hlt:=bW m.box;have hxs:=hx.size;have hks:=hk1.size;have hL:∀b,De.ownBlock=some b->lv.ownBlock=some b\/wr.heap.size<=b:=λb hb=>by
  rcases hl with e|⟨c,e,k⟩
  .exact .inl (e ▸ hb)
  .rw[e]at hb;injection hb with hb;exact .inr (by omega)
 have hb2:w2.heap[lb]?=some (.cells #[lv,rv] 115 (0,0)):=(hk1.block lb (by omega) (λhb=>by have:=(m.l.lt lb hb).1;omega)).trans ((hx.block lb hlt).trans m.box);have hs2:fJ (λb=>b=lb) w2 (w2.setCell ⟨lb,0,none⟩ De):=dH (p:=⟨lb,0,none⟩);have hS:oN (λb=>S b\/T b) (λW=>uU W (xs++[v]) (Fs++[F])/\uU W ys Gs) wr:=⟨λb hb=>hb.elim (m.sup.1 b) (hs.1 b),λW hW=>⟨(m.sup.2 W λb hb=>hW b (.inl hb)).1.add (hs.2 W λb hb=>hW b (.inr hb)),(m.sup.2 W λb hb=>hW b (.inl hb)).2⟩⟩;have hF:∀b,S b\/T b->b≠lb/\lv.ownBlock≠some b/\rv.ownBlock≠some b:=λb hb=>hb.elim (m.far b) (hT b)
 refine⟨⟨gK w2 lb 0 _ _ De hb2,bS ho hs2 (λb hb e=>by have:=(ho.lt b hb).1;omega),bS (bS (dD m.r hx) hk1 λb hb e=>m.ap b e hb) hs2 (λb hb e=>by have:=(m.r.lt b hb).1;omega),λb hb e=>?_,((hS.ext hx).keep hk1 λb hb e=>(hF b hb).2.1 e).keep hs2 λb hb e=>(hF b hb).1 e,λb hb=>⟨(hF b hb).1,λe=>?_,(hF b hb).2.2⟩,?_,h0,h1,by have:=m.sz;have:=hs2.size;omega⟩,bQ w2 lb 0 _ _ _ hb2,gQ w2 lb 0 _ _ hb2⟩
 .rcases hL b hb with c|c
  .exact m.ap b c e
  .have:=(m.r.lt b e).2;omega
 .rcases hL b e with c|c
  .exact(hF b hb).2.1 c
  .have:=hS.1 b hb;omega
 .exact(ko (ah m.ext hx) hk1 (λb hb=>by have:=(m.l.lt b hb).1;omega)).setCell (p:=⟨lb,0,none⟩) h0 _
theorem ShM.acX(m:ShM w0 w wr lb lv rv xs ys Fs Gs S)(hs:oN T (λW=>dI W 0 v F) wr)(hT:∀b,T b->b≠lb/\lv.ownBlock≠some b/\rv.ownBlock≠some b)(hx:Ext wr wa)(hg:wa.grownBy w2 rv.ownBlock)(ho:w2.ownsRow w.heap.size 30 1 rv' n zs)(hn:n=(ys++[v]).length)(hz:zs=ys++[v])(hl:pX wa rv rv'):
 ShM w0 w (w2.setCell ⟨lb,1,none⟩ rv') lb lv rv' xs (ys++[v]) Fs (Gs++[F]) (λb=>S b\/T b)/\w2.cell? ⟨lb,1,none⟩=some rv/\w2.frozen? ⟨lb,1,none⟩=false:=by
 subst hn hz;have hk1:=fP hg;have h0:=m.lb0;have h1:=m.lbw;have hlt:=bW m.box;have hxs:=hx.size;have hks:=hk1.size;have hL:∀b,rv'.ownBlock=some b->rv.ownBlock=some b\/wr.heap.size<=b:=λb hb=>by
  rcases hl with e|⟨c,e,k⟩
  .exact .inl (e ▸ hb)
  .rw[e]at hb;injection hb with hb;exact .inr (by omega)
 have hb2:w2.heap[lb]?=some (.cells #[lv,rv] 115 (0,0)):=(hk1.block lb (by omega) (λhb=>by have:=(m.r.lt lb hb).1;omega)).trans ((hx.block lb hlt).trans m.box);have hs2:fJ (λb=>b=lb) w2 (w2.setCell ⟨lb,1,none⟩ rv'):=dH (p:=⟨lb,1,none⟩);have hS:oN (λb=>S b\/T b) (λW=>uU W xs Fs/\uU W (ys++[v]) (Gs++[F])) wr:=⟨λb hb=>hb.elim (m.sup.1 b) (hs.1 b),λW hW=>⟨(m.sup.2 W λb hb=>hW b (.inl hb)).1,(m.sup.2 W λb hb=>hW b (.inl hb)).2.add (hs.2 W λb hb=>hW b (.inr hb))⟩⟩;have hF:∀b,S b\/T b->b≠lb/\lv.ownBlock≠some b/\rv.ownBlock≠some b:=λb hb=>hb.elim (m.far b) (hT b)
 refine⟨⟨gK w2 lb 1 _ _ rv' hb2,bS (bS (dD m.l hx) hk1 λb hb e=>m.ap b hb e) hs2 (λb hb e=>by have:=(m.l.lt b hb).1;omega),bS ho hs2 (λb hb e=>by have:=(ho.lt b hb).1;omega),λb hb e=>?_,((hS.ext hx).keep hk1 λb hb e=>(hF b hb).2.2 e).keep hs2 λb hb e=>(hF b hb).1 e,λb hb=>⟨(hF b hb).1,(hF b hb).2.1,λe=>?_⟩,?_,h0,h1,by have:=m.sz;have:=hs2.size;omega⟩,bQ w2 lb 1 _ _ _ hb2,gQ w2 lb 1 _ _ hb2⟩
 .rcases hL b e with c|c
  .exact m.ap b hb c
  .have:=(m.l.lt b hb).2;omega
 .rcases hL b e with c|c
  .exact(hF b hb).2.2 c
  .have:=hS.1 b hb;omega
 .exact(ko (ah m.ext hx) hk1 (λb hb=>by have:=(m.r.lt b hb).1;omega)).setCell (p:=⟨lb,1,none⟩) h0 _
theorem ShM.fresh(m:ShM w0 w wr lb lv rv xs ys Fs Gs S)(hb:wr.heap.size<=b):b≠lb/\lv.ownBlock≠some b/\rv.ownBlock≠some b:=
 ⟨λe=>by have:=bW m.box;omega,λe=>by have:=(m.l.lt b e).2;omega,λe=>by have:=(m.r.lt b e).2;omega⟩
theorem Qv{o:Option Nat}(hx:Ext wr wa)(hg:wa.grownBy w2 o){k:Nat}{u:Value}(hb:b<wr.heap.size)(h1:o≠some b)(h2:b≠lb):(w2.setCell ⟨lb,k,none⟩ u).heap[b]?=wr.heap[b]?:=by
 have hs2:fJ (λb=>b=lb) w2 (w2.setCell ⟨lb,k,none⟩ u):=dH (p:=⟨lb,k,none⟩);have hk1:=fP hg;have hxs:=hx.size;have hks:=hk1.size;rw[hs2.block b (by omega) h2,hk1.block b (by omega) h1,hx.block b hb]
theorem ShM.more(m:ShM w0 w wr lb lv rv xs ys Fs Gs S){b0:Nat}(hb:b0<wr.heap.size)(h1:b0≠lb)(h2:lv.ownBlock≠some b0)(h3:rv.ownBlock≠some b0):ShM w0 w wr lb lv rv xs ys Fs Gs (λb=>S b\/b=b0):=
 ⟨m.box,m.l,m.r,m.ap,m.sup.mono (λ_ h=>.inl h) (λb h=>h.elim (m.sup.1 b) (λe=>e ▸ hb)) λ_ h=>h,λb h=>h.elim (m.far b) (λe=>by subst e;exact⟨h1,h2,h3⟩),m.ext,m.lb0,m.lbw,m.sz⟩
end
end
