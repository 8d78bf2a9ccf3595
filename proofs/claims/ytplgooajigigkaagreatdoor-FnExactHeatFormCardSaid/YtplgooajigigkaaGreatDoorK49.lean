/- 49 -/
import Derived.Test.YtplgooajigigkaaGreatDoorK34
import Derived.Test.YtplgooajigigkaaGreatDoorK48
set_option maxRecDepth 100000
set_option maxHeartbeats 4000000
namespace Go.Proofs.YtplgooajigigkaaGreatDoor
open Tryz
section
open Go.RowKit
open bE (dh Nd Gm vl Same N0 Val gd dO dP Canon bI bz)
variable {w V:World} {B k:Nat} {v vv va:Value} {VL:List (Int × Nat)} {AL:List Bool} {C:dh}
theorem Tc:(prog.info? 34).map (λi=>(i.zero,i.size,i.bytes))=some (some (.agg #[.int .i64 0,.int .i64 0]),2,16):=by kernel_rfl
theorem Ij{w':World}{o:Option Nat}{e size n:Nat}{xs:List Value}(h:w.ownsRow B e size v n xs)(hg:w.grownBy w' o)(hn:∀b,v.ownBlock=some b->o≠some b):w'.ownsRow B e size v n xs:=
 bS (G:=λb=>o=some b) h ⟨hg.os,hg.tape,hg.output,hg.size,λk hk hn=>hg.block k hk (λe=>hn e.symm)⟩ (λb hb e=>hn b hb e)
theorem ZE{a b:Int}:∀u∈([Value.int .i64 a,Value.int .i64 b]:List Value),u.oneCell'=true:=by
 intro u h;simp at h;rcases h with rfl|rfl <;> rfl
theorem Sl{x:Bool}:∀u∈([Value.bool x]:List Value),u.oneCell'=true:=by
 intro u hu;simp at hu;subst hu;rfl
theorem zX(w:World)(B:Nat)(hB:B<=w.heap.size)(e:TypeId)(size:Nat):(w.alloc (.cells #[] e)).ownsRow B e size (.slice (some ⟨w.heap.size,0,none⟩) 0 0) 0 []:=
 World.ownsRow_made w #[] 0 hB (by decide) (by simp)
def uF(VL:List (Int × Nat)):List Value:=VL.flatMap λx=>[.int .i64 x.1,.int .i64 (x.2:Int)]
theorem tZ:∀{VL:List (Int × Nat)} {j:Nat} (h:j<VL.length),(uF VL)[j*2]?=some (.int .i64 (VL[j]).1)/\(uF VL)[j*2+1]?=some (.int .i64 ((VL[j]).2:Int))
 |x :: VL,0,_=>⟨rfl,rfl⟩
 |x :: VL,j+1,h=>by
  have:=tZ (VL:=VL) (j:=j) (by simpa using h);have e:uF (x :: VL)=Value.int .i64 x.1 :: Value.int .i64 (x.2:Int):: uF VL:=rfl;rw[e,show(j+1)*2=j*2+1+1 by omega,ry,ry,ry,ry]
  simpa using this
theorem JM(VL:List (Int × Nat))(x:Int × Nat):uF (VL++[x])=uF VL++[.int .i64 x.1,.int .i64 (x.2:Int)]:=by simp[uF]
structure F4(V:World)(B:Nat)(vv va:Value)(VL:List (Int × Nat))(AL:List Bool):Prop where
 num:V.ownsRow B 34 2 vv VL.length (uF VL)
 are:V.ownsRow B 4 1 va AL.length (AL.map Value.bool)
 ap:∀b,vv.ownBlock=some b->va.ownBlock≠some b
theorem F4.row(h:F4 V B vv va VL AL)(h1:VL.length<=1000000)(h2:AL.length<=1000000):YJ V vv va VL AL:=by
 obtain⟨a,c,e,-,-⟩:=bT h.num;obtain⟨a2,c2,e2,-,-⟩:=bT h.are;refine⟨⟨a,c,e⟩,⟨a2,c2,e2⟩,h1,h2,λj hj=>?_,λj hj=>?_⟩
 .obtain⟨g,cap,e,_,_,hc⟩:=iy h.num (by omega)
  exact⟨g,cap,e,(hc _ (by omega)).trans (tZ hj).1,(hc _ (by omega)).trans (tZ hj).2⟩
 .obtain⟨g,cap,e,_,_,hc⟩:=iy h.are (by omega)
  exact⟨g,cap,e,(hc _ (by omega)).trans (by rw[ek,af hj];rfl)⟩
theorem F4.ext{V':World}(h:F4 V B vv va VL AL)(hx:Ext V V'):F4 V' B vv va VL AL:=⟨dD h.num hx,dD h.are hx,h.ap⟩
theorem Told.nil(C:dh):Told C [] [] 0:=⟨rfl,rfl,λj h=>absurd h (by omega)⟩
theorem Told.next(h:Told C VL AL k){t:Int}{p:Nat}{ok:Bool}(h1:ok=true->∃a,Val (vl C k) a/\t=dO 16 a/\p=dP 16 a)(h2:ok=false->¬N0 (vl C k)):Told C (VL++[(t,p)]) (AL++[ok]) (k+1):=by
 obtain⟨e1,e2,h⟩:=h;refine⟨by simp[e1],by simp[e2],λj hj=>?_⟩;by_cases c:j<k
 .rw[dN (by omega),dN (by omega)];exact h j c
 .have:j=k:=by omega
  subst this;rw[dX (by omega),dX (by omega),e1,e2];simp only[qx,List.getElem?_cons_zero,bU];exact⟨λe=>by obtain⟨a,k1,k2,k3⟩:=h1 e;exact⟨a,k1,by rw[k2,k3]⟩,h2⟩
theorem Told.last(h:Told C VL AL (k+1))(h1:k<VL.length)(h2:k<AL.length):(AL[k]=true->∃a,Val (vl C k) a/\(VL[k]).1=dO 16 a/\(VL[k]).2=dP 16 a)/\(AL[k]=false->¬N0 (vl C k)):=by
 obtain⟨a1,a2⟩:=h.2.2 k (by omega);refine⟨λe=>?_,λe=>a2 (by rw[af h2,e])⟩;obtain⟨a,k1,k2⟩:=a1 (by rw[af h2,e]);rw[af h1]at k2;injection k2 with k2;exact⟨a,k1,by rw[k2],by rw[k2]⟩
theorem CL{b c i j:Nat}{x u:Value}(h:b≠c)(hx:w.cell? ⟨b,k,none⟩=some x):((w.setCell ⟨c,i,none⟩ u).setCell ⟨c,j,none⟩ v).cell? ⟨b,k,none⟩=some x:=by
 rw[mP (w:=w.setCell ⟨c,i,none⟩ u) (tQ _ _ _ _ (by show b≠c;exact h)),mP (w:=w) (tQ _ _ _ _ (by show b≠c;exact h))];exact hx
def ZQ:List Row:=[⟨0,[],38,[4]⟩,⟨1,[],39,[4]⟩,⟨2,[1],40,[38]⟩,⟨3,[2],41,[39]⟩,⟨4,[0,3],42,[37,40]⟩,⟨5,[4],43,[41]⟩,⟨6,[],44,[5]⟩,⟨7,[],45,[5]⟩,⟨8,[7],46,[44]⟩,⟨9,[8],47,[45]⟩,⟨10,[6,9],48,[43,46]⟩,⟨11,[10],49,[47]⟩,⟨12,[5,0,1,2,3,4,5],0,[2,42]⟩,⟨13,[11,12,0,1,2,3,4,5,6,7,8,9,10,11,12],4,[48]⟩]
theorem Wp(vf:Value)(C:dh)(w:World)(hf:dI w 0 vf C)(hC:bI C)(cC:∀i,i<C.length->Canon (vl C i))(hl:C.length<=1000000):
 Calls prog 155 #[.agg #[vf]] w (IW (bz C) w):=by
 obtain⟨i0,hi0,hz0,hz1,hz2⟩:=info_parts Tc;obtain⟨i1,hi1,hy0,hy1,hy2⟩:=info_parts Fp;obtain⟨aC,Ej,rfl,hcp,zz,-⟩:=id hf;have h0:=fV.2 hC.ne;obtain⟨W,hW,hx,b0,b1,hz⟩:=MV w (.cells #[.slice aC C.length Ej] 30) (.cells #[.int .i64 0,.int .i64 0] 34);obtain⟨W2,hW2,hx2,-,-,akM⟩:=MV W (.cells #[] 34) (.cells #[] 4);have r0:F4 W2 (w.heap.size+2) (.slice (some ⟨W.heap.size,0,none⟩) 0 0) (.slice (some ⟨W.heap.size+1,0,none⟩) 0 0) [] []:=by
  rw[hW2];refine⟨(zX W _ (by omega) _ 2).alloc _,?_,λb hb=>?_⟩
  .have h:=zX (W.alloc (.cells #[] 34)) (w.heap.size+2) (by rw[fU];omega) 4 1
   rw[fU]at h;exact h
  .simp[Value.ownBlock]at hb ⊢;omega
 have HB:=jm b0 b1;have HX:=aW hx;have HC:=jm hC cC;have HF:=aW hf;have HZW:Hid (W.heap.size=w.heap.size+2):=aW (by omega);clear b0 b1 hx hC cC hf akM hz;go_enter Tryz.func155,Tryz.ntmps155
 go_upto_region 1 with fail
 rw[<-hW];clear hW;go_upto_region 2 with fail
 rw[<-hW2];clear hW2;go_wp2
 go_loopw [4,5,6] (λvv va kk wr=>∃(k:Nat) (VL:List (Int × Nat)) (AL:List Bool),k<=C.length/\kk=.int .i64 ((k:Nat):Int)/\Ext W wr/\F4 wr (w.heap.size+2) vv va VL AL/\Hid (VL.length=k/\AL.length=k)/\Hid (Told C VL AL k)) (λ_ _ kk _=>C.length-(intOf kk).toNat)
 case atStart=>exact⟨0,[],[],aU _,by go_num,hx2,r0,aW ⟨rfl,rfl⟩,aW (Told.nil C)⟩
 case round=>
  clear r0 hx2;obtain⟨k,VL,AL,hk,rfl,hE,hR,HL,HT⟩:=hrel;have FC:=ah HX.out hE;have hbc:=ik hE HB.out.1;have c0:=bQ wr w.heap.size 0 _ _ _ hbc;simp only[gE]at c0;by_cases hlt:k<C.length
  .have g1:((k:Nat):Int)<((C.length:Nat):Int):=by omega
   obtain⟨bC,cC2,aL,cL,aR,cR,he,Nh,cl,cr,vM,vJ⟩:=(HF.out.ext FC).at hlt;simp only[il]at he;obtain⟨rfl,-,rfl⟩:=he;have HRR:=aW (hR.row (by have:=HL.out.1;omega) (by have:=HL.out.2;omega));obtain⟨av,cv,rfl,-,-⟩:=bT hR.num;obtain⟨aa,ca,rfl,-,-⟩:=bT hR.are;obtain⟨nL,UA⟩:=fu ((C[k]).1);obtain⟨nR,hnR⟩:=fu ((C[k]).2);have HS:=aW (Od C k (C[k]).1 (C[k]).2 _ _ _ _ VL AL wr HC.out.1.good (af hlt) (HC.out.2 k hlt) HT.out vM vJ HRR.out);rw[<-UA]at cl vM HS;rw[<-hnR]at cr vJ HS;have HR:=aW hR;have kg:=aW hlt;have hlv:=HL.out.1;have hla:=HL.out.2;have HLV:=jm hlv hla;have hv1:VL.length<=1000000:=(by omega);have ha1:AL.length<=1000000:=(by omega);clear vM vJ UA hnR hR HRR hlv hla;go_upto_region 6 with(go_at_call 193;refine HS.out.mono ?_;rintro e w1 ⟨t1,p1,ok1,rfl,h1,h2,hx1⟩;simp only[gM])
   have Dm:=aW (HT.out.next h1 h2);obtain⟨V1,hV1,WL,dV1,asA⟩:=uI w1 t1 p1;rw[<-hV1];obtain⟨u0,u1⟩:=dV1.cells;have hE1:=ah hE (ah hx1 WL);have UH:=HR.out.ext (ah hx1 WL);clear hV1 dV1 h1 h2 c0 cl cr HS hE FC hbc
   go_wp2_with (first
    |(at_builtin;refine eO rfl (.tmp 33) (.tmp 35) 149 rfl (w.heap.size+2) 4 i1 (.bool false) 1 1 underlying149 hi1 hy0 hy1 hy2 rfl (by decide) (.slice aa AL.length ca) AL.length _ rfl (hA5.alloc _) _ 1 _ [.bool ok1] rfl rfl (.inr ⟨_,rfl,fD (dW _ _ _)⟩) Sl (by unfold maxLen;omega) (by omega) (by rw[fU];omega) ?_;intro v7 w7 Tm Rb hl7)
    |(at_builtin;refine eO rfl (.tmp 29) (.tmp 31) 85 rfl (w.heap.size+2) 34 i0 (.agg #[.int .i64 0,.int .i64 0]) 2 16 underlying85 hi0 hz0 hz1 hz2 rfl (by decide) (.slice av VL.length cv) VL.length _ rfl (UH.num.alloc _) _ 1 _ [.int .i64 t1,.int .i64 (p1:Int)] rfl rfl (.inr ⟨_,rfl,DU (w:=V1)⟩) ZE (by unfold maxLen;omega) (by omega) (by rw[fU];have:=hE1.size;have:=HZW.out;omega) ?_;intro v5 w5 lq hg5 hl5
      have hA5:w5.ownsRow (w.heap.size+2) 4 1 (.slice aa AL.length ca) AL.length (AL.map Value.bool):=Ij (UH.are.alloc _) hg5 (λb hb e=>UH.ap b e hb);have Tf:w.heap.size+2<=w5.heap.size:=by have h1:=hE1.size;have h2:=hg5.size;rw[fU]at h2;have:=HZW.out;omega))
   go_roundw
   case rel=>
    have uj:Ext W w5:=eU (bY hE1 _) hg5 (λb hb=>by have:=(UH.num.lt b hb).1;have:=HZW.out;omega);have Ef:Ext W w7:=eU (bY uj _) Rb (λb hb=>by have:=(UH.are.lt b hb).1;have:=HZW.out;omega);refine⟨k+1,VL++[(t1,p1)],AL++[ok1],by have:=kg.out;omega,by go_num,Ef,⟨?_,by simpa using Tm,?_⟩,aW ⟨by simp[HLV.out.1],by simp[HLV.out.2]⟩,Dm⟩
    .rw[JM,bu]
     refine Ij (lq.alloc _) Rb (λb hb e=>?_);rcases hl5 with h|⟨q,h,h2⟩
     .rw[h]at hb;exact UH.ap b hb e
     .rw[h]at hb;injection hb with hb;subst hb
      have h3:=(UH.are.lt _ e).2;rw[fU]at h2;omega
    .intro b hb hb2
     have h5:b<w5.heap.size:=(lq.lt b hb).2;rcases hl7 with h|⟨q,h,h2⟩
     .rw[h]at hb2
      rcases hl5 with h'|⟨q',h',h2'⟩
      .rw[h']at hb;exact UH.ap b hb hb2
      .rw[h']at hb;injection hb with hb;subst hb
       have h3:=(UH.are.lt _ hb2).2;rw[fU]at h2';omega
     .rw[h]at hb2;injection hb2 with hb2;subst hb2
      rw[fU]at h2;omega
   case measure=>have:=kg.out;simp[intOf];omega
  .have g1:¬(((k:Nat):Int)<((C.length:Nat):Int)):=by omega
   have hke:k=C.length:=(by omega);obtain⟨n,hn⟩:∃n,C.length=n+1:=⟨C.length-1,by omega⟩;have e1:VL.length=n+1:=(by have:=HL.out.1;omega);have e2:AL.length=n+1:=(by have:=HL.out.2;omega);have HT2:Hid (Told C VL AL (n+1)):=aW (by have:=HT.out;rwa [hke,hn]at this);have M9:=aW (HT2.out.last (by omega) (by omega));obtain⟨gv,cv,ev,hcv,-,hcell⟩:=iy hR.num (by omega);obtain⟨ga,ca,ea,Xy,-,Xw⟩:=iy hR.are (by omega);subst ev;subst ea;have k1:=(hcell (n*2) (by omega)).trans (tZ (j:=n) (by omega)).1;have k2:=(hcell (n*2+1) (by omega)).trans (tZ (j:=n) (by omega)).2;have k3:=(Xw n (by omega)).trans (show(AL.map Value.bool)[n]?=some (.bool (AL[n]'(by omega))) by rw[ek,af (by omega)];rfl);have hgv:w.heap.size+2<=gv/\w.heap.size+2<=ga:=⟨(hR.num.lt gv rfl).1,(hR.are.lt ga rfl).1⟩;obtain⟨tt,htt⟩:=fu ((VL[n]'(by omega)).1);obtain⟨tp,htp⟩:=fu ((VL[n]'(by omega)).2);obtain⟨tb,htb⟩:=fu (AL[n]'(by omega));rw[<-htt]at k1 M9;rw[<-htp]at k2 M9;rw[<-htb]at k3 M9;have abG:Hid (bz C=vl C n):=aW (by show vl C (C.length-1)=_;rw[hn];rfl);have hb2:wr.drew.heap[w.heap.size+1]?=some (.cells #[.int .i64 0,.int .i64 0] 34 (0,0)):=(ik hE HB.out.2:);have hxd:=ah FC (eX wr);obtain⟨Wd,hWd⟩:=fu wr.drew;rw[<-hWd]at hb2 hxd;obtain⟨q0,q1,q2,q3⟩:=eZ hb2;have q4:=(q2 (.int .i64 tt)).1;have q5:=(q2 (.int .i64 tt)).2;have HQ:=aW (q3 (.int .i64 tt) (.int .i64 (tp:Int)));have HEE:=aW hxd
   have HKS:Hid ((Wd.cell? ⟨gv,n*2,none⟩=some (.int .i64 tt)/\Wd.cell? ⟨gv,n*2+1,none⟩=some (.int .i64 (tp:Int)))/\Wd.cell? ⟨ga,n,none⟩=some (.bool tb)->(((Wd.setCell ⟨w.heap.size+1,0,none⟩ (.int .i64 tt)).setCell ⟨w.heap.size+1,1,none⟩ (.int .i64 (tp:Int))).cell? ⟨gv,n*2,none⟩=some (.int .i64 tt)/\((Wd.setCell ⟨w.heap.size+1,0,none⟩ (.int .i64 tt)).setCell ⟨w.heap.size+1,1,none⟩ (.int .i64 (tp:Int))).cell? ⟨gv,n*2+1,none⟩=some (.int .i64 (tp:Int)))/\((Wd.setCell ⟨w.heap.size+1,0,none⟩ (.int .i64 tt)).setCell ⟨w.heap.size+1,1,none⟩ (.int .i64 (tp:Int))).cell? ⟨ga,n,none⟩=some (.bool tb)):=aW λk=>
    ⟨⟨CL (by omega) k.1.1,CL (by omega) k.1.2⟩,CL (by omega) k.2⟩
   clear hgv;have hnn:((n:Nat):Int)<((n:Nat):Int)+1:=(by omega);have hwn:wrap64 ((n:Nat):Int)=((n:Nat):Int):=(by unfold wrap64;omega);have hwn2:IntKind.i64.wrap ((n:Nat):Int)=((n:Nat):Int):=(l9 _).trans hwn;rw[e1,e2];clear q2 q3 hb2 hcell Xw hR HL HT HT2 htt htp htb hE FC hbc hke hk hxd;clear e1 e2 hn hlt HC HF hi0 hz0 hz1 hz2 hi1 hy0 hy1 hy2 h0 hl hcp zz;go_upto_region 8 with fail
   clear g1;refine oJ (λV=>(V.cell? ⟨gv,n*2,none⟩=some (.int .i64 tt)/\V.cell? ⟨gv,n*2+1,none⟩=some (.int .i64 (tp:Int)))/\V.cell? ⟨ga,n,none⟩=some (.bool tb)) [13] ZQ ⟨⟨k1,k2⟩,k3⟩ (λaj ae=>?_);rw[<-hWd]at ae ⊢;clear hWd;(refine bP 0 aj ae ?_;refine bP 1 aj ae ?_;refine bP 2 aj ae ?_;refine bP 3 aj ae ?_;refine bP 4 aj ae ?_;refine bP 5 aj ae ?_;refine bP 6 aj ae ?_;refine bP 7 aj ae ?_;refine bP 8 aj ae ?_;refine bP 9 aj ae ?_;refine bP 10 aj ae ?_;refine bP 11 aj ae ?_);(refine jv aj (i:=12) λK hK=>?_;go_simp);have ae:=HKS.out ae;refine hK.out _ _ (λ_=>ae) ?_;clear hK K;(try simp only[nP]);refine nQ aj [13] [_] ?_;clear aj ae k1 k2 k3 c0 q0 q1 q4 q5;go_wp2
   refine mg (w.heap.size+1) 34 #[.int .i64 tt,.int .i64 (tp:Int)] HQ.out underlying34 ?_;refine⟨tt,tp,tb,rfl,λh=>?_,λh=>?_,(ll (ll HEE.out (w.heap.size+1) 0 _) (w.heap.size+1) 1 _)⟩
   .rw[abG.out];exact M9.out.1 h
   .rw[abG.out];exact M9.out.2 h
end
section
open Go.RowKit
open bE (dh Nd Gm vl Same bI bz Canon)
variable {S:Nat->Prop} {V V' U w:World} {k n c b i e:Nat} {q:Int} {a:Option Addr} {v:Value} {xs:List Value}
structure WD where
 W0:World
 W:World
 wb:Nat
 db:Nat
 mb:Nat
 aC:Option Addr
 cC:Nat
 C:dh
 t:Int
 p:Nat
def DM(d:WD)(b:Nat):Prop:=b=d.db\/b=d.mb
abbrev TW(d:WD):Int:=gP d.t d.p
structure WC(d:WD):Prop where
 blk:d.W.heap[d.wb]?=some (.cells #[.slice d.aC d.C.length d.cC,.int .i64 d.t,.int .i64 (d.p:Int),.bool false,.slice (some ⟨d.db,0,none⟩) d.C.length d.C.length,.slice (some ⟨d.mb,0,none⟩) d.C.length d.C.length] 105 (0,0))
 lt:d.db<d.W.heap.size/\d.mb<d.W.heap.size/\d.db≠d.mb/\d.wb≠d.db/\d.wb≠d.mb
 old:d.W0.heap.size<=d.db/\d.W0.heap.size<=d.mb
 ext:Ext d.W0 d.W
 nodes:dI d.W0 0 (.slice d.aC d.C.length d.cC) d.C
 form:bI d.C
 canon:∀i,i<d.C.length->Canon (vl d.C i)
 len:d.C.length<=120
 good:dS d.t d.p=true
 pos:0<=d.t
def IV(d:WD)(S:Nat->Prop)(V:World)(k:Nat)(q:Int)(a:Option Addr)(n c:Nat):Prop:=
 q=0\/(q=1/\rQ (TW d) (vl d.C k)/\∃E,n=E.length/\Ga (TW d) (vl d.C k) E/\dm E=true/\oN S (λV=>dI V 0 (.slice a n c) E) V)\/(q=2/\¬rQ (TW d) (vl d.C k)/\n=0)
structure M0(d:WD)(V:World)(DL:List Int)(ML:List Value):Prop where
 done:V.ownsRow 0 3 1 (.slice (some ⟨d.db,0,none⟩) d.C.length d.C.length) d.C.length (DL.map (Value.int .i64))
 made:V.ownsRow 0 30 1 (.slice (some ⟨d.mb,0,none⟩) d.C.length d.C.length) d.C.length ML
structure WK(d:WD)(S:Nat->Prop)(V:World):Prop where
 keep:fJ (DM d) d.W V
 low:∀b,S b->d.W.heap.size<=b/\b<V.heap.size
 rows:∃DL ML,M0 d V DL ML/\∀k,k<d.C.length->∃q a n c,DL[k]?=some q/\ML[k]?=some (.slice a n c)/\IV d S V k q a n c
def SN(S:Nat->Prop)(V V':World)(b:Nat):Prop:=S b\/(V.heap.size<=b/\b<V'.heap.size)
theorem IV.oP{d:WD}{G:Nat->Prop}(h:IV d S V k q a n c)(hk:fJ G V V')(hG:∀b,S b->¬G b):IV d S V' k q a n c:=by
 rcases h with h|⟨h1,h2,E,h3,h4,h5,h6⟩|h
 .exact .inl h
 .exact .inr (.inl ⟨h1,h2,E,h3,h4,h5,h6.keep hk hG⟩)
 .exact .inr (.inr h)
theorem IV.mono{d:WD}{S T:Nat->Prop}{V:World}{k:Nat}{q:Int}{a:Option Addr}{n c:Nat}(h:IV d S V k q a n c)(hS:∀b,S b->T b)(hT:∀b,T b->b<V.heap.size):IV d T V k q a n c:=by
 rcases h with h|⟨h1,h2,E,h3,h4,h5,h6⟩|h
 .exact .inl h
 .exact .inr (.inl ⟨h1,h2,E,h3,h4,h5,h6.mono hS hT (λ_ h=>h)⟩)
 .exact .inr (.inr h)
theorem IV.set{d:WD}(hc:WC d)(hS:∀b,S b->d.W.heap.size<=b)(h:IV d S V k q a n c)(hb:DM d b)(v:Value):IV d S (V.setCell ⟨b,i,none⟩ v) k q a n c:=
 h.oP (dH (p:=⟨b,i,none⟩)) λx hx e=>by
  have e:x=b:=e;have:=hS x hx;have:=hc.lt;rcases hb with rfl|rfl <;> omega
theorem l7{d:WD}(hx:Ext V V'):fJ (DM d) V V':=jR hx
theorem yw{d:WD}(hb:DM d b):fJ (DM d) U (U.setCell ⟨b,i,none⟩ v):=
 ⟨rfl,rfl,rfl,(dH (w:=U) (p:=⟨b,i,none⟩) (v:=v)).size,λk hk hn=>tQ _ _ _ _ (λe=>hn (by rw[e];exact hb))⟩
theorem gY{d:WD}(h:fJ (DM d) U V)(k:fJ (DM d) V V'):fJ (DM d) U V':=h.trans k λ_ _ h=>h
theorem WK.oP{d:WD}{S G:Nat->Prop}{V V':World}(hc:WC d)(h:WK d S V)(hk:fJ G V V')(hG:∀b,G b->¬S b/\d.W.heap.size<=b):WK d S V':=by
 obtain⟨DL,ML,r,st⟩:=h.rows;have hlt:=hc.lt;refine⟨h.keep.trans hk (λx hx g=>by have:=(hG x g).2;omega),λb hb=>⟨(h.low b hb).1,bg (h.low b hb).2 hk.size⟩,DL,ML,⟨bS r.done hk (λb hb g=>?_),bS r.made hk (λb hb g=>?_)⟩,λk hk'=>?_⟩
 .simp[Value.ownBlock]at hb;subst hb;have:=(hG _ g).2;omega
 .simp[Value.ownBlock]at hb;subst hb;have:=(hG _ g).2;omega
 .obtain⟨q,a,n,c,e1,e2,s⟩:=st k hk'
  exact⟨q,a,n,c,e1,e2,s.oP hk (λb hb g=>(hG b g).1 hb)⟩
theorem WK.ext{d:WD}(hc:WC d)(h:WK d S V)(hx:Ext V V'):WK d S V':=h.oP hc (jR (F:=λ_=>False) hx) (λ_ h=>h.elim)
theorem WK.mono{d:WD}{S T:Nat->Prop}{V:World}(h:WK d S V)(hS:∀b,S b->T b)(hT:∀b,T b->d.W.heap.size<=b/\b<V.heap.size):WK d T V:=by
 obtain⟨DL,ML,r,st⟩:=h.rows;refine⟨h.keep,hT,DL,ML,r,λk hk=>?_⟩;obtain⟨q,a,n,c,e1,e2,s⟩:=st k hk;exact⟨q,a,n,c,e1,e2,s.mono hS (λb hb=>(hT b hb).2)⟩
theorem WK.size{d:WD}{S:Nat->Prop}{V:World}(h:WK d S V):d.W.heap.size<=V.heap.size:=h.keep.size
theorem WK.blk{d:WD}(hc:WC d){S:Nat->Prop}{V:World}(h:WK d S V):V.heap[d.wb]?=some (.cells #[.slice d.aC d.C.length d.cC,.int .i64 d.t,.int .i64 (d.p:Int),.bool false,.slice (some ⟨d.db,0,none⟩) d.C.length d.C.length,.slice (some ⟨d.mb,0,none⟩) d.C.length d.C.length] 105 (0,0)):=
 (h.keep.block _ (bW hc.blk) (λk=>by have:=hc.lt;rcases k with k|k <;> omega)).trans hc.blk
theorem WK.cells{d:WD}(hc:WC d)(h:WK d S V):V.cell? ⟨d.wb,0,none⟩=some (.slice d.aC d.C.length d.cC)/\V.cell? ⟨d.wb,1,none⟩=some (.int .i64 d.t)/\V.cell? ⟨d.wb,2,none⟩=some (.int .i64 (d.p:Int))/\V.cell? ⟨d.wb,3,none⟩=some (.bool false)/\V.cell? ⟨d.wb,4,none⟩=some (.slice (some ⟨d.db,0,none⟩) d.C.length d.C.length)/\V.cell? ⟨d.wb,5,none⟩=some (.slice (some ⟨d.mb,0,none⟩) d.C.length d.C.length):=
 ⟨bQ V d.wb 0 _ _ _ (h.blk hc),bQ V d.wb 1 _ _ _ (h.blk hc),bQ V d.wb 2 _ _ _ (h.blk hc),bQ V d.wb 3 _ _ _ (h.blk hc),bQ V d.wb 4 _ _ _ (h.blk hc),bQ V d.wb 5 _ _ _ (h.blk hc)⟩
theorem WK.old{d:WD}(hc:WC d){S:Nat->Prop}{V:World}(h:WK d S V):Ext d.W0 V:=
 ⟨h.keep.os.trans hc.ext.os,h.keep.tape.trans hc.ext.tape,h.keep.output.trans hc.ext.output,bZ hc.ext.size h.keep.size,λx hx=>(h.keep.block x (bg hx hc.ext.size) (λk=>by have:=hc.old;rcases k with k|k <;> omega)).trans (hc.ext.block x hx)⟩
theorem WK.at{d:WD}{S:Nat->Prop}{V:World}(h:WK d S V){k:Nat}(hk:k<d.C.length):∃q a n c,V.cell? ⟨d.db,k,none⟩=some (.int .i64 q)/\V.cell? ⟨d.mb,k,none⟩=some (.slice a n c)/\IV d S V k q a n c/\V.frozen? ⟨d.db,k,none⟩=false/\V.frozen? ⟨d.mb,k,none⟩=false:=by
 obtain⟨DL,ML,r,st⟩:=h.rows;obtain⟨q,a,n,c,e1,e2,s⟩:=st k hk;obtain⟨g,cp,e,_,_,h1⟩:=iy r.done (by omega);simp only[il,bU,Addr.mk.injEq,and_true,true_and]at e;obtain⟨rfl,-⟩:=e;obtain⟨g2,cp2,e,_,_,h2⟩:=iy r.made (by omega);simp only[il,bU,Addr.mk.injEq,and_true,true_and]at e;obtain⟨rfl,-⟩:=e;exact⟨q,a,n,c,(h1 k (by omega)).trans (by rw[ek,e1];rfl),(h2 k (by omega)).trans e2,s,r.done.frozenAt k,r.made.frozenAt k⟩
theorem Ii{B size:Nat}(h:w.ownsRow B e size v n xs)(hb:v.ownBlock≠some b)(x:Value):(w.setCell ⟨b,i,none⟩ x).ownsRow B e size v n xs:=
 bS h (dH (p:=⟨b,i,none⟩)) (λc hc e=>hb (by rw[hc];exact congrArg some e))
theorem Jd{d:WD}{DL:List Int}{ML:List Value}(r:M0 d U DL ML)(hk:k<d.C.length):U.cell? ⟨d.db,k,none⟩=(DL.map (Value.int .i64))[k]?/\U.cell? ⟨d.mb,k,none⟩=ML[k]?:=by
 obtain⟨g,cp,e,_,_,h1⟩:=iy r.done (by omega);simp only[il,bU,Addr.mk.injEq,and_true,true_and]at e;obtain⟨rfl,-⟩:=e;obtain⟨g2,cp2,e,_,_,h2⟩:=iy r.made (by omega);simp only[il,bU,Addr.mk.injEq,and_true,true_and]at e;obtain⟨rfl,-⟩:=e;exact⟨h1 k (by omega),h2 k (by omega)⟩
def aeo(d:WD)(S:Nat->Prop)(V:World)(k:Nat)(q:Int)(a:Option Addr)(n c:Nat):Prop:=WK d S V/\V.cell? ⟨d.db,k,none⟩=some (.int .i64 q)/\V.cell? ⟨d.mb,k,none⟩=some (.slice a n c)
theorem WK.put{d:WD}(hc:WC d)(h:WK d S V)(hk:k<d.C.length)(hs:IV d S V k q a n c)(q0:Int):
 aeo d S (((V.setCell ⟨d.mb,k,none⟩ (.slice a n c)).setCell ⟨d.db,k,none⟩ (.int .i64 q0)).setCell ⟨d.db,k,none⟩ (.int .i64 q)) k q a n c/\aeo d S ((V.setCell ⟨d.mb,k,none⟩ (.slice a n c)).setCell ⟨d.db,k,none⟩ (.int .i64 q)) k q a n c/\
  (V.frozen? ⟨d.mb,k,none⟩=false/\∃x,V.cell? ⟨d.mb,k,none⟩=some x)/\((V.setCell ⟨d.mb,k,none⟩ (.slice a n c)).frozen? ⟨d.db,k,none⟩=false/\∃x,(V.setCell ⟨d.mb,k,none⟩ (.slice a n c)).cell? ⟨d.db,k,none⟩=some x)/\((V.setCell ⟨d.mb,k,none⟩ (.slice a n c)).setCell ⟨d.db,k,none⟩ (.int .i64 q0)).frozen? ⟨d.db,k,none⟩=false/\∃x,((V.setCell ⟨d.mb,k,none⟩ (.slice a n c)).setCell ⟨d.db,k,none⟩ (.int .i64 q0)).cell? ⟨d.db,k,none⟩=some x:=by
 obtain⟨DL,ML,r,st⟩:=h.rows;have hlt:=hc.lt;have ld:DL.length=d.C.length:=by have:=r.done.1;simpa using this
 have lm:ML.length=d.C.length:=by have:=r.made.1;omega
 have nd:Value.ownBlock (.slice (some ⟨d.db,0,none⟩) d.C.length d.C.length)≠some d.mb:=λe=>by simp[Value.ownBlock]at e;omega
 have nm:Value.ownBlock (.slice (some ⟨d.mb,0,none⟩) d.C.length d.C.length)≠some d.db:=λe=>by simp[Value.ownBlock]at e;omega
 have ZI:∀{U:World} {DL:List Int} {ML:List Value} (z:Int),M0 d U DL ML->M0 d (U.setCell ⟨d.db,k,none⟩ (.int .i64 z)) (DL.set k z) ML:=λ{U DL ML} z r=>
  ⟨by rw[tq];exact xU r.done _,Ii r.made nm _⟩
 have akn:∀{U:World} {DL:List Int} {ML:List Value} (z:Value),M0 d U DL ML->M0 d (U.setCell ⟨d.mb,k,none⟩ z) DL (ML.set k z):=λ{U DL ML} z r=>
  ⟨Ii r.done nd _,xU r.made _⟩
 have fin:∀{U:World} {DL':List Int} {ML':List Value},M0 d U DL' ML'->fJ (DM d) d.W U->DL'[k]?=some q->ML'[k]?=some (.slice a n c)->(∀j,j≠k->DL'[j]?=DL[j]?/\ML'[j]?=ML[j]?)->(∀j z a n c,IV d S V j z a n c->IV d S U j z a n c)->V.heap.size<=U.heap.size->aeo d S U k q a n c:=λ{U DL' ML'} r' kp e1 e2 ot su hz=>by
  obtain⟨cd,cm⟩:=Jd r' hk;refine⟨⟨kp,λb hb=>⟨(h.low b hb).1,bg (h.low b hb).2 hz⟩,DL',ML',r',λj hj=>?_⟩,cd.trans (by rw[ek,e1];rfl),cm.trans e2⟩;by_cases e:j=k
  .subst e;exact⟨q,a,n,c,e1,e2,su _ _ _ _ _ hs⟩
  .obtain⟨z,a',n',c',f1,f2,s⟩:=st j hj
   exact⟨z,a',n',c',by rw[(ot j e).1];exact f1,by rw[(ot j e).2];exact f2,su _ _ _ _ _ s⟩
 have acC:∀{U:World} {DL:List Int} {ML:List Value},M0 d U DL ML->DL.length=d.C.length->U.frozen? ⟨d.db,k,none⟩=false/\∃x,U.cell? ⟨d.db,k,none⟩=some x:=λ{U DL ML} r hl=>
  ⟨r.done.frozenAt k,_,(Jd r hk).1.trans (by rw[ek,af (by omega)];rfl)⟩
 have sl:∀b,S b->d.W.heap.size<=b:=λb hb=>(h.low b hb).1
 have z:∀{U:World} {b i:Nat} {v:Value},U.heap.size<=(U.setCell ⟨b,i,none⟩ v).heap.size:=λ{U b i v}=>(dH (w:=U) (p:=⟨b,i,none⟩) (v:=v)).size
 have rM:=akn (.slice a n c) r;have kM:=gY h.keep (yw (i:=k) (v:=.slice a n c) (show DM d d.mb from .inr rfl));refine⟨?_,?_,⟨r.made.frozenAt k,_,(Jd r hk).2.trans (af (by omega))⟩,acC rM ld,acC (ZI q0 rM) (by simpa using ld)⟩
 .refine fin (ZI q (ZI q0 rM)) (gY (gY kM (yw (.inl rfl))) (yw (.inl rfl))) ?_ ?_ (λj hj=>?_) (λj z a n c s=>IV.set hc sl (IV.set hc sl (IV.set hc sl s (.inr rfl) _) (.inl rfl) _) (.inl rfl) _) (bZ z (bZ z z))
  .rw[kK (by simp;omega)]
  .rw[kK (by omega)]
  .rw[ic (by omega),ic (by omega),ic (by omega)];exact⟨rfl,rfl⟩
 .refine fin (ZI q rM) (gY kM (yw (.inl rfl))) ?_ ?_ (λj hj=>?_) (λj z a n c s=>IV.set hc sl (IV.set hc sl s (.inr rfl) _) (.inl rfl) _) (bZ z z)
  .rw[kK (by omega)]
  .rw[kK (by omega)]
  .rw[ic (by omega),ic (by omega)];exact⟨rfl,rfl⟩
def Qf(d:WD)(S:Nat->Prop)(k:Nat)(V:World)(e:Ending)(V':World):Prop:=
 ∃(a:Option Addr) (n c:Nat) (ok:Bool),e=.returned (.tuple #[.agg #[.slice a n c],.bool ok])/\WK d (SN S V V') V'/\fJ (DM d) V V'/\(ok=true->rQ (TW d) (vl d.C k)/\∃E,n=E.length/\Ga (TW d) (vl d.C k) E/\dm E=true/\oN (SN S V V') (λV=>dI V 0 (.slice a n c) E) V')/\(ok=false->¬rQ (TW d) (vl d.C k)/\n=0)
def abU(d:WD)(m:Nat):Prop:=∀(S:Nat->Prop) (k:Nat) (V:World),k<m->k<d.C.length->WK d S V->Calls prog 67 #[.pointer (some ⟨d.wb,0,none⟩),.int .i64 (k:Int)] V (Qf d S k V)
def Y6(d:WD)(S:Nat->Prop)(u:Int)(O:List Nat)(V:World)(e:Ending)(V':World):Prop:=
 ∃(vv:Value) (ok:Bool),e=.returned (.tuple #[vv,.bool ok])/\(∃T,WK d T V'/\(∀b,T b->SN S V V' b)/\(ok=true->∃Fs,yH (TW d) u d.C O Fs O.length/\(∀F,F∈Fs->F.length<=120)/\Rows Nb 1 (λb=>V.heap.size<=b/\b<V'.heap.size) V' vv Fs))/\fJ (DM d) V V'/\(ok=false->∃o,o∈O/\¬(rQ (TW d) (vl d.C o)/\nG (TW d) u (vl d.C o)))
theorem Items.afS{α:Type}{size:Nat}{R:World->List Value->α->Prop}{wr w1 w5:World}{v5:Value}{base:Nat}{ys zs:List Value}{Ts:List α}{t:α}{X:Obj}(hit:Items R (KS w wr v) size xs Ts wr)(z0:w.heap.size<=wr.heap.size)(hx:Ext wr w1)(ho:wr.ownsRow base e size v n zs)(hy:ys.length=size)
 (hn:oN (λb=>wr.heap.size<=b/\b<w1.heap.size) (λW=>R W ys t) w1) (hg:(w1.alloc X).grownBy w5 v.ownBlock) (hl:pX (w1.alloc X) v v5):Items R (KS w w5 v5) size (xs++ys) (Ts++[t]) w5:=by
 have z1:=hx.size;have z5:=hg.size;rw[fU]at z5;have key:∀b,KS w w1 v b->KS w w5 v5 b:=λb hb=>⟨hb.1,by have:=hb.2.1;omega,λe=>by
  rcases hl with h|⟨q,h,h2⟩
  .exact hb.2.2 (by rw[<-h];exact e)
  .rw[h]at e;injection e with e;rw[fU]at h2;have:=hb.2.1;omega⟩
 have h1:Items R (KS w w1 v) size (xs++ys) (Ts++[t]) w1:=
  Items.snoc ((hit.ext hx).mono (λb hb=>⟨hb.1,by have:=hb.2.1;omega,hb.2.2⟩) (λb hb=>hb.2.1)) hy (hn.mono (λb hb=>⟨by omega,hb.2,λe=>by have:=(ho.lt b e).2;omega⟩) (λb hb=>hb.2.1) (λ_ h=>h))
 exact((h1.ext (bY (gz _ _) X)).keep (G:=λb=>v.ownBlock=some b) ⟨hg.os,hg.tape,hg.output,hg.size,λk hk hn=>hg.block k hk (λe=>hn e.symm)⟩ (λb hb=>hb.2.2)).mono key (λb hb=>hb.2.1)
end
section
open Go.RowKit
open bE (dh Nd Gm vl Same bI bz Canon)
theorem Fj:(prog.info? 30).map (λi=>(i.zero,i.size,i.bytes))=some (some (.agg #[.slice none 0 0]),1,24):=by kernel_rfl
theorem ac0{a:Option Addr}{n c:Nat}:∀u∈([Value.slice a n c]:List Value),u.oneCell'=true:=by
 intro u hu;simp at hu;subst hu;rfl
theorem Mx(d:WD)(hc:WC d)(S:Nat->Prop)(m:Nat)(ih:abU d m)(vl_:Value)(O:List Nat)(tt:Int)(V:World)(hK:WK d S V)(hO:Ints d.W0 vl_ (dB O))(hm:∀o,o∈O->o<m/\o<d.C.length)(hOl:O.length<=1000)(hg:dS tt d.p=true):
 Calls prog 159 #[.pointer (some ⟨d.wb,0,none⟩),vl_,tY tt d.p] V (Y6 d S (gP tt d.p) O V):=by
 obtain⟨iF,Q9,zF0,zF1,zF2⟩:=info_parts Fj;obtain⟨aO,cO,rfl,hlO,hcO,hcell⟩:=id hO;rw[bG]at hlO hcO hcell hO ⊢;obtain⟨V1,hV1,hx1,b0,b1,hz1⟩:=MV V (.cells #[.int .i64 tt,.int .i64 (d.p:Int)] 34) (.cells #[] 30);have d0:oQ V1 V.heap.size tt d.p:=b0;have TB:=hK.size;have afV:V1.ownsRow d.W.heap.size 30 1 (.slice (some ⟨V.heap.size+1,0,none⟩) 0 0) 0 []:=by
  rw[hV1];have h:=zX (V.alloc (.cells #[.int .i64 tt,.int .i64 (d.p:Int)] 34)) d.W.heap.size (by rw[fU];omega) 30 1;rw[fU]at h;exact h
 have it0:Items Nb (KS V V1 (.slice (some ⟨V.heap.size+1,0,none⟩) 0 0)) 1 [] ([]:List dh) V1:=Items.nil λb hb=>hb.2.1
 have HX:=nY hx1 d0 TB;have ahQ:=hK.ext hc hx1;have hS0:∀b,S b->SN S V V1 b:=λb h=>.inl h
 have hS1:∀b,Value.ownBlock (.slice (some ⟨V.heap.size+1,0,none⟩) 0 0)=some b->¬S b:=λb hb h=>by simp[Value.ownBlock]at hb;have:=(hK.low b h).2;omega
 have ahT:fJ (DM d) V V1:=l7 hx1;have HC:=aW hc;have HO:=nY hO hm hg;have IH:=aW ih;have HOL:=aW hOl;have hwf:∀b:Nat,V.heap.size<=b->¬DM d b:=λb h k=>by have:=hc.lt;rcases k with k|k <;> omega
 have zP:=aW hwf;clear b0 b1 d0 hx1 hK hc hO hm hg ih hcell hwf hlO hcO hOl;rw[gM];go_enter Tryz.func159,Tryz.ntmps159
 go_upto_region 2 with fail
 rw[<-hV1];clear hV1;go_wp2
 go_loopw [8,9] (λov ii wr=>∃(i:Nat) (xs:List Value) (Fs:List dh) (T:Nat->Prop),i<=O.length/\ii=.int .i64 ((i:Nat):Int)/\WK d T wr/\Hid ((∀b,T b->SN S V wr b)/\∀b,ov.ownBlock=some b->¬T b)/\fJ (DM d) V wr/\wr.ownsRow d.W.heap.size 30 1 ov Fs.length xs/\Hid (oQ wr V.heap.size tt d.p)/\Hid (Items Nb (KS V wr ov) 1 xs Fs wr/\(∀b,ov.ownBlock=some b->V.heap.size<b))/\Hid (yH (TW d) (gP tt d.p) d.C O Fs i/\∀F,F∈Fs->F.length<=120)) (λ_ ii _=>O.length-(intOf ii).toNat)
 case atStart=>exact⟨0,[],[],S,aU _,by go_num,ahQ,aW ⟨hS0,hS1⟩,ahT,afV,aW HX.out.2.1,aW ⟨it0,λb hb=>by simp[Value.ownBlock]at hb;omega⟩,aW ⟨yH.nil _ _ _ _,λF h=>by simp at h⟩⟩
 case round=>
  clear ahQ ahT afV it0 hz1 TB hS0 hS1;obtain⟨i,xs,Fs,T,hi,rfl,hK,HTT,hKe,hrow,HD,HIT,HOP⟩:=hrel;by_cases hlt:i<O.length
  .have g1:((i:Nat):Int)<((O.length:Nat):Int):=by omega
   obtain⟨b,off,rfl,hcell⟩:=xV HO.out.1 hlt;have hck:=fw (hK.old HC.out) hcell;have hoX:=HO.out.2.1 _ (ai hlt);have kg:=aW hlt;obtain⟨o,ho⟩:=fu (O[i]'(kg.out));rw[<-ho]at hck hoX;have HOE:=aW ho;have hwk:wrap64 ((i:Int)+1)=(i:Int)+1:=(by have:=HOL.out;unfold wrap64;omega);have HAT:=aW (IH.out T o wr hoX.1 hoX.2 hK);have HRW:=jm hrow hKe;have HHX:=aW hoX;obtain⟨ao,co,rfl,-,-⟩:=bT hrow;have HZR:=aW hKe.size;clear hcell ho hlt hoX hrow hK hKe;go_upto_region 6 with(go_at_call 67;refine HAT.out.mono ?_;rintro e w1 ⟨a1,n1,c1,ok1,rfl,hK1,Mq,hy1,hn1⟩)
   obtain⟨V2,hV2,hx2,bx,hz2⟩:=Ce w1 (.cells #[.slice a1 n1 c1] 30);rw[<-hV2];have hK2:=hK1.ext HC.out hx2;have TG:fJ (DM d) V V2:=gY (gY HRW.out.2 Mq) (l7 hx2);have hKr:fJ (DM d) wr V2:=gY Mq (l7 hx2);have hD2:oQ V2 V.heap.size tt d.p:=(hKr.block _ (bW HD.out) (zP.out _ (aJ _))).trans HD.out;have hrow2:V2.ownsRow d.W.heap.size 30 1 (.slice ao Fs.length co) Fs.length xs:=bS HRW.out.1 hKr (λb hb=>zP.out _ (Nat.le_of_lt (HIT.out.2 b hb)));have hit2:Items Nb (KS V V2 (.slice ao Fs.length co)) 1 xs Fs V2:=(HIT.out.1.keep hKr (λb hb=>zP.out _ hb.1)).mono (λb hb=>⟨hb.1,bg hb.2.1 hKr.size,hb.2.2⟩) (λb hb=>hb.2.1);have Us:=Ap hK2 TG hrow2 hit2;have hzx:V.heap.size<=w1.heap.size:=bZ HZR.out Mq.size;have hz2':w1.heap.size<=V2.heap.size:=hx2.size;have HSN:Hid (∀b,SN T wr w1 b->SN S V V2 b):=aW λb h=>by
    have:=HZR.out;rcases h with h|h
    .rcases HTT.out.1 b h with k|k
     .exact .inl k
     .have:=Mq.size;exact .inr ⟨k.1,by omega⟩
    .exact .inr ⟨by omega,by omega⟩
   have aiX:Hid (∀b,Value.ownBlock (.slice ao Fs.length co)=some b->¬SN T wr w1 b):=aW λb hb h=>by
    rcases h with h|h
    .exact HTT.out.2 b hb h
    .have:=(HRW.out.1.lt b hb).2;omega
   clear hz2';have x0:=bQ V2 w1.heap.size 0 _ _ _ bx;simp only[gE]at x0;clear hV2 hK1 Mq hK2 TG hrow2 hit2 hz2 hKr bx hck;cases ok1 with
   |false=>
    have rq:Hid (∃o,o∈O/\¬(rQ (TW d) (vl d.C o)/\nG (TW d) (gP tt d.p) (vl d.C o))):=aW ⟨o,by rw[HOE.out];exact ai _,λk=>(hn1 rfl).1 k.1⟩;clear hy1 hn1 hx2 hD2;go_wp2
    go_ret2
    exact⟨.slice none 0 0,false,rfl,⟨_,Us.out.1,HSN.out,λh=>by cases h⟩,Us.out.2.1,λ_=>rq.out⟩
   |true=>
    obtain⟨Mh,EH,rfl,yo,fH,XP⟩:=hy1 rfl;obtain⟨y0,y1⟩:=hD2.cells;have hpn:=Sj (.slice a1 EH.length c1) EH tt d.p V2 (XP.out.ext hx2) yo.1 (mG yo) fH HO.out.2.2;rw[gM]at hpn;have HPN:=aW hpn;have RH:=nY Mh yo fH;clear hy1 hn1 Mh yo fH XP hx2 hpn;go_upto_region 9 with(go_at_call 197;refine HPN.out.mono ?_;rintro e w3 ⟨a3,n3,c3,ok3,rfl,hy3,hn3,hx3⟩)
    obtain⟨V4,hV4,hx4,by4,Tg⟩:=Ce w3 (.cells #[.slice a3 n3 c3] 30);rw[<-hV4];have hx24:=ah hx3 hx4;have hK4:=Us.out.1.ext HC.out hx24;have Pj:fJ (DM d) V V4:=gY Us.out.2.1 (l7 hx24);have x4:=bQ V4 w3.heap.size 0 _ _ _ by4;simp only[gE]at x4;have hD4:=hD2.ext hx24;have aiI:Hid (∀b,SN T wr w1 b->SN S V V4 b):=aW λb h=>by
     have:=hx24.size;rcases HSN.out b h with k|k
     .exact .inl k
     .exact .inr ⟨k.1,by omega⟩
    clear hV4 by4 Tg x0 y0 y1 hD2;cases ok3 with
    |false=>
     have rq:Hid (∃o,o∈O/\¬(rQ (TW d) (vl d.C o)/\nG (TW d) (gP tt d.p) (vl d.C o))):=aW ⟨o,by rw[HOE.out];exact ai _,λk=>Vf RH.out.2.1 (hn3 rfl) k.2⟩;have HKK:=jm hK4 Pj;clear hy3 hn3 hx3 hx4 hx24 hK4 Pj hD4;go_wp2
     go_ret2
     exact⟨.slice none 0 0,false,rfl,⟨_,HKK.out.1,aiI.out,λh=>by cases h⟩,HKK.out.2,λ_=>rq.out⟩
    |true=>
     obtain⟨E',rfl,hPN,hF',hl',hN'⟩:=hy3 rfl;have Dm:=aW (HOP.out.1.next kg.out (by rw[<-HOE.out];exact RH.out.1) (by rw[<-HOE.out];exact RH.out.2.1) RH.out.2.2 hPN hF');have hrow4:=dD Us.out.2.2.1 hx24;have api:V.heap.size<=V2.heap.size:=Us.out.2.1.size;have HN4:=aW (hN'.sup (S:=λb=>V2.heap.size<=b/\b<w3.heap.size) (λb hb=>hb.2) (λb h1 h2=>⟨h1,h2⟩));have HX4:=Aw hK4 Pj hx24 hx3 (And.intro hx4 hD4);have HL':=aW hl';have Pm:Fs.length<=1000:=(by have:=HOP.out.1.1;have:=HOL.out;omega);have HSZ:Hid (d.W.heap.size<=V4.heap.size):=aW hK4.size;clear hy3 hn3 hPN hF' hl' hN' hK4 Pj hx24 hx3 hx4 hD4;go_wp2_with (at_builtin;refine eO rfl (.tmp 40) (.tmp 42) 80 rfl d.W.heap.size 30 iF (.agg #[.slice none 0 0]) 1 24 underlying80 Q9 zF0 zF1 zF2 rfl (by decide) (.slice ao Fs.length co) Fs.length xs rfl (hrow4.alloc _) _ 1 _ [.slice a3 E'.length c3] rfl rfl (.inr ⟨_,rfl,fD (dW _ _ _)⟩) ac0 (by unfold maxLen;omega) (by omega) (by rw[fU];have:=HSZ.out;omega) ?_;intro v5 w5 lq hg5 hl5)
     go_roundw
     case rel=>
      obtain⟨hK4,Pj,hx24,hx3,hx4,hD4⟩:=HX4.out;have hlt:=kg.out;have hgk:fJ (λb=>Value.ownBlock (.slice ao Fs.length co)=some b) (V4.alloc (.cells #[.slice a3 E'.length c3] 30)) w5:=⟨hg5.os,hg5.tape,hg5.output,hg5.size,λk hk hn=>hg5.block k hk (λe=>hn e.symm)⟩;have hown:∀b,Value.ownBlock (.slice ao Fs.length co)=some b->V.heap.size<b:=HIT.out.2;have hVd:d.W.heap.size<=V.heap.size:=HX.out.2.2;have hK5:=(hK4.ext HC.out (bY (gz _ _) (.cells #[.slice a3 E'.length c3] 30))).oP HC.out hgk (λb hb=>⟨aiX.out b hb,by have:=hown b hb;omega⟩);have TF:fJ (DM d) V w5:=(gY Pj (l7 (bY (gz _ _) (.cells #[.slice a3 E'.length c3] 30)))).trans hgk (λx hx hb=>by have:=hown x hb;omega);have hsz5:V4.heap.size<=w5.heap.size:=(by have:=hg5.size;rw[fU]at this;omega);have hD5:oQ w5 V.heap.size tt d.p:=by
       have h4:=hD4.ext (bY (gz _ _) (.cells #[.slice a3 E'.length c3] 30));exact(hgk.block _ (bW h4) (λe=>by have:=hown _ e;omega)).trans h4
      have alQ:=Items.afS (X:=.cells #[.slice a3 E'.length c3] 30) (w:=V) Us.out.2.2.2 Us.out.2.1.size (ah hx3 hx4) Us.out.2.2.1 rfl (t:=E') (ys:=[.slice a3 E'.length c3])
       (oN.mono (HN4.out.ext hx4) (T:=λb=>V2.heap.size<=b/\b<V4.heap.size) (λb hb=>⟨hb.1,by have:=hb.2;have:=hx4.size;omega⟩) (λb hb=>hb.2) (λU hU=>⟨a3,c3,rfl,hU⟩)) hg5 hl5
      refine⟨i+1,xs++[.slice a3 E'.length c3],Fs++[E'],SN T wr w1,hlt,by rw[hwk];rfl,hK5,aW ⟨λb h=>?_,λb hb h=>?_⟩,TF,by rw[bu];exact lq,aW hD5,aW ⟨alQ,λb hb=>?_⟩,aW ⟨Dm.out,λF hF=>?_⟩⟩
      .rcases aiI.out b h with k|k
       .exact .inl k
       .exact .inr ⟨k.1,by omega⟩
      .rcases hl5 with e|⟨q,e,h2⟩
       .rw[e]at hb;exact aiX.out b hb h
       .rw[e]at hb;injection hb with hb;subst hb
        have:=(hK4.low _ h).2;rw[fU]at h2;omega
      .rcases hl5 with e|⟨q,e,h2⟩
       .rw[e]at hb;exact hown b hb
       .rw[e]at hb;injection hb with hb;subst hb
        have:=Pj.size;have:=HZR.out;have:=bW HD.out;have:=hx24.size;have:=hzx;rw[fU]at h2;omega
      .rcases bq.1 hF with h|h
       .exact HOP.out.2 F h
       .rw[eT]at h;rw[h];exact HL'.out
     case measure=>
      have:=kg.out;rw[hwk];simp[intOf];omega
  .have g1:¬(((i:Nat):Int)<((O.length:Nat):Int)):=by omega
   have hie:i=O.length:=(by omega);have aiT:Hid (yH (TW d) (gP tt d.p) d.C O Fs O.length/\∀F,F∈Fs->F.length<=120):=aW (by have:=HOP.out;rwa [hie]at this);have HRW:=nY hrow hK hKe;obtain⟨ao,co,rfl,-,-⟩:=bT hrow;clear hie hrow hK hKe HOP;go_wp2
   go_ret2
   exact⟨.slice ao Fs.length co,true,rfl,⟨T,HRW.out.2.1,HTT.out.1,λ_=>⟨Fs,aiT.out.1,aiT.out.2,Rows.gm HRW.out.1 rfl HIT.out.1 (λb hb=>⟨hb.1,hb.2.1⟩) (λb hb=>⟨Nat.le_of_lt (HIT.out.2 b hb),(HRW.out.1.lt b hb).2⟩) (λb hb=>hb.2)⟩⟩,HRW.out.2.2,λh=>by cases h⟩
end
