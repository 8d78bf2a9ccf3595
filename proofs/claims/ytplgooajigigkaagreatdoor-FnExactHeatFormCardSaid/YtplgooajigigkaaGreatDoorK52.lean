/- 52 -/
import Derived.Test.YtplgooajigigkaaGreatDoorK51
import Derived.Deep.SlicePairs
import Derived.Lay
import Derived.Test.YtplgooajigigkaaGreatDoorTie
set_option maxRecDepth 100000
set_option maxHeartbeats 4000000
namespace Go.Proofs.YtplgooajigigkaaGreatDoor
section
open Go.RowKit
open bE (dh Nd Gm vl)
def ZT:List Row:=[⟨0,[],23,[2]⟩,⟨1,[0],24,[22]⟩,⟨2,[],25,[3]⟩,⟨3,[2,1],26,[24]⟩,⟨4,[1,3,3],27,[23,25]⟩,⟨5,[4],22,[26]⟩,⟨6,[5],28,[21]⟩,⟨7,[5],29,[21]⟩,⟨8,[],7,[]⟩,⟨9,[8,6,4,0,1,2,3,4,5,6,8],0,[6,27]⟩,⟨10,[7,9,0,1,2,3,4,5,6,7,8,9],8,[28]⟩]
def ZR:List Row:=[⟨0,[],33,[8]⟩,⟨1,[],34,[3]⟩,⟨2,[1],35,[33]⟩,⟨3,[0,2,2],36,[32,34]⟩,⟨4,[3],32,[35]⟩,⟨5,[4],37,[31]⟩,⟨6,[4],38,[31]⟩,⟨7,[],10,[]⟩,⟨8,[7,5,3,0,1,2,3,4,5,7],0,[9,36]⟩,⟨9,[6,8,0,1,2,3,4,5,6,7,8],11,[37]⟩]
def Vt:List Row:=[⟨0,[],48,[8]⟩,⟨1,[],49,[2]⟩,⟨2,[1],50,[48]⟩,⟨3,[0,2,2],51,[47,49]⟩,⟨4,[3],52,[50]⟩]
def Vs:List Row:=[⟨0,[],81,[2]⟩,⟨1,[0],82,[80]⟩,⟨2,[],83,[3]⟩,⟨3,[2,1],84,[82]⟩,⟨4,[1,3,3],85,[81,83]⟩,⟨5,[4],80,[84]⟩,⟨6,[5],86,[79]⟩,⟨7,[5],87,[79]⟩,⟨8,[],15,[]⟩,⟨9,[8,6,4,0,1,2,3,4,5,6,8],0,[14,85]⟩,⟨10,[7,9,0,1,2,3,4,5,6,7,8,9],16,[86]⟩]
theorem SI(v:Value)(F:List ru)(t p:Int)(w:World)(hv:oW w v F):
 Calls Tryz.prog 3 #[.agg #[v],.agg #[.int .i64 t,.int .i64 p]] w λe w'=>e=.returned (.bool true)/\Ext w w':=by
 obtain⟨a,cap,rfl⟩:=hv.slice;obtain⟨W0,hW0,hx0,b0,d0,-⟩:=MV w (.cells #[.slice a F.length cap] 24) (.cells #[.int .i64 t,.int .i64 p] 26);have c0:=bQ W0 w.heap.size 0 _ _ _ b0;simp only[gE]at c0;have HVW:Hid (∀V,Ext w V->oW V (.slice a F.length cap) F):=aW λV hV=>hv.ext hV
 have HB0:=nY hx0 b0 d0;have HSZ:=aW (Nw _ F 1048576 W0 (HVW.out _ hx0) (by omega) (by omega));clear hv b0 d0 hx0;go_enter Tryz.func3,Tryz.ntmps3
 go_upto_region 2 with fail
 rw[<-hW0];clear hW0;go_upto_region 3 with(go_at_call 5;refine HSZ.out.mono ?_;rintro e W1 ⟨r,rfl,hr,hx1⟩)
 have HR1:=aW hr;by_cases hz:r<0
 .have HX1:=aW (ah HB0.out.1 hx1)
  clear hr hx1 c0;go_wp2
  go_ret
  exact⟨rfl,HX1.out⟩
 have hU0:=HR1.out (by omega);have HTZ:=aW hU0;have HU:Hid (F.length<=1048576/\∀nd,nd∈F->nd.1.length<=1048576/\nd.2.length<=1048576):=aW ⟨by omega,λnd h=>by have:=ZF nd h;omega⟩;have hE1:=ah HB0.out.1 hx1;have b1:=ik hx1 HB0.out.2.1;have d1:=ik hx1 HB0.out.2.2;have HB1:=nY hE1 b1 d1;clear hr hx1 c0 hU0 hE1 b1 d1;go_upto_region 5 with fail
 go_cut [6,7] (λx y wc=>∃(pb:Nat) (aS:Option Addr) (cS:Nat) (E:dh) (yU:Bool),x=.pointer (some ⟨pb,0,none⟩)/\y=.bool yU/\Ext W1 wc/\wc.heap[pb]?=some (.cells #[.slice aS E.length cS] 30 (0,0))/\Hid (GX F t p E yU)/\Hid (∃lo hi,W1.heap.size<=pb/\(pb<lo\/hi<=pb)/\W1.heap.size<=lo/\oN (λb=>lo<=b/\b<hi) (λV=>dI V 0 (.slice aS E.length cS) E) wc))
 case first=>
  have mI:Hid (∀V,Ext W1 V->V.cell? ⟨w.heap.size,0,none⟩=some (.slice a F.length cap)/\V.cell? ⟨w.heap.size+1,0,none⟩=some (.int .i64 t)/\V.cell? ⟨w.heap.size+1,1,none⟩=some (.int .i64 p)):=aW λV hV=>
   ⟨bQ V w.heap.size 0 _ _ _ (ik hV HB1.out.2.1),bQ V (w.heap.size+1) 0 _ _ _ (ik hV HB1.out.2.2),bQ V (w.heap.size+1) 1 _ _ _ (ik hV HB1.out.2.2)⟩
  have HVN:Hid (∀V,Ext W1 V->oW V (.slice a F.length cap) F):=aW λV hV=>HVW.out V (ah HB1.out.1 hV)
  have ae:=mI.out _ (eX W1);refine oJ (λV:World=>V.cell? ⟨w.heap.size,0,none⟩=some (.slice a F.length cap)/\V.cell? ⟨w.heap.size+1,0,none⟩=some (.int .i64 t)/\V.cell? ⟨w.heap.size+1,1,none⟩=some (.int .i64 p)) [10] ZT ae (λaj ae=>?_);have hq:=eX W1;obtain⟨W,hWd⟩:=fu W1.drew;rw[<-hWd]at hq ae ⊢;clear hWd;(refine bP 0 aj ae ?_;refine bP 2 aj ae ?_);have tV:=True.intro;refine gX aj (i:=1) (j:=8) (by kernel_rfl) ?fa1 ?fb1
  case' fb1=>
   (refine ui (i:=8) λK hK=>?_;go_simp);have ma:Ext W (W.alloc (.cells #[.slice none 0 0] 30)):=(by go_grown);have hA:=eu W (.cells #[.slice none 0 0] 30);have GN:=hq.size;replace hq:=ah hq ma;(try replace zB:=zB.ext ma);(try have hpb:W.heap.size<lo\/hi<=W.heap.size:=.inr (by rw[hhi];exact aJ _));(try replace hS:=hS.ext ma);have ae:=mI.out _ hq;clear ma;generalize W.alloc (.cells #[.slice none 0 0] 30)=Wn at *;generalize W.heap.size=pb at *;obtain⟨W,rfl⟩:=fu Wn;refine hK.out _ _ (λ_=>ae) ?_;clear hK K;(try simp only[nP]);clear tV
  case' fa1=>(refine ui (i:=1) λK hK=>?_;go_simp)
  all_goals
   first
    |(have hNP:=tV;clear hNP)
    |(refine jv aj (i:=1) λK hK=>?_;go_simp)
   refine(wC _ F W (HVN.out _ hq) HU.out.1 HU.out.2).mono ?_;rintro e w5 ⟨aT,cT,slT,rfl,hFT,hx5⟩;replace hq:=ah hq hx5;have zB:=hFT.ES HU.out.2 HU.out.1;(try replace hA:=ik hx5 hA);clear hFT hx5;have ae:=mI.out _ hq;obtain⟨W,rfl⟩:=fu w5;refine hK.out _ _ (λ_=>ae) ?_;clear hK K;(try simp only[nP])
  refine gX aj (i:=3) (j:=8) (by kernel_rfl) ?fa2 ?fb2
  case' fb2=>
   (refine ui (i:=8) λK hK=>?_;go_simp);have ma:Ext W (W.alloc (.cells #[.slice none 0 0] 30)):=(by go_grown);have hA:=eu W (.cells #[.slice none 0 0] 30);have GN:=hq.size;replace hq:=ah hq ma;(try replace zB:=zB.ext ma);(try have hpb:W.heap.size<lo\/hi<=W.heap.size:=.inr (by rw[hhi];exact aJ _));(try replace hS:=hS.ext ma);have ae:=mI.out _ hq;clear ma;generalize W.alloc (.cells #[.slice none 0 0] 30)=Wn at *;generalize W.heap.size=pb at *;obtain⟨W,rfl⟩:=fu Wn;refine hK.out _ _ (λ_=>ae) ?_;clear hK K;(try simp only[nP]);clear tV
  case' fa2=>(refine ui (i:=3) λK hK=>?_;go_simp)
  all_goals
   first
    |(have hNP:=tV;clear hNP)
    |(refine jv aj (i:=3) λK hK=>?_;go_simp)
   refine(wD t p W).mono ?_;rintro e w5 ⟨rfl,hx5⟩;replace hq:=ah hq hx5;(try replace zB:=zB.ext hx5);(try replace hA:=ik hx5 hA);clear hx5;have ae:=mI.out _ hq;obtain⟨W,rfl⟩:=fu w5;refine hK.out _ _ (λ_=>ae) ?_;clear hK K;(try simp only[nP])
  refine gX aj (i:=4) (j:=8) (by kernel_rfl) ?fa3 ?fb3
  case' fb3=>
   (refine ui (i:=8) λK hK=>?_;go_simp);have ma:Ext W (W.alloc (.cells #[.slice none 0 0] 30)):=(by go_grown);have hA:=eu W (.cells #[.slice none 0 0] 30);have GN:=hq.size;replace hq:=ah hq ma;(try replace zB:=zB.ext ma);(try have hpb:W.heap.size<lo\/hi<=W.heap.size:=.inr (by rw[hhi];exact aJ _));(try replace hS:=hS.ext ma);have ae:=mI.out _ hq;clear ma;generalize W.alloc (.cells #[.slice none 0 0] 30)=Wn at *;generalize W.heap.size=pb at *;obtain⟨W,rfl⟩:=fu Wn;refine hK.out _ _ (λ_=>ae) ?_;clear hK K;(try simp only[nP]);clear tV
  case' fa3=>(refine ui (i:=4) λK hK=>?_;go_simp)
  all_goals
   first
    |(have hNP:=tV;clear hNP)
    |(refine jv aj (i:=4) λK hK=>?_;go_simp)
   refine(RU _ F t p W zB).mono ?_;rintro e w6 ⟨aS,cS,E,yU,rfl,hR,hS,hx6⟩;obtain⟨lo,hlo⟩:=fu W.heap.size;obtain⟨hi,hhi⟩:=fu w6.heap.size;(try have hpb:pb<lo\/hi<=pb:=.inl (by rw[hlo];exact bW hA));have hlo1:=hq.size;rw[<-hlo]at hlo1 hS;rw[<-hhi]at hS;replace hq:=ah hq hx6;have HR:=aW hR;(try replace hA:=ik hx6 hA);clear hR zB hx6 hlo;have ae:=mI.out _ hq;obtain⟨W,rfl⟩:=fu w6;refine hK.out _ _ (λ_=>ae) ?_;clear hK K;(try simp only[nP])
  all_goals
   (refine bP 5 aj ae ?_;refine bP 6 aj ae ?_;refine bP 7 aj ae ?_)
  (refine jv aj (i:=8) λK hK=>?_;go_simp);have ma:Ext W (W.alloc (.cells #[.slice none 0 0] 30)):=by go_grown
  have hA:=eu W (.cells #[.slice none 0 0] 30);have GN:=hq.size;replace hq:=ah hq ma;(try replace zB:=zB.ext ma);(try have hpb:W.heap.size<lo\/hi<=W.heap.size:=.inr (by rw[hhi];exact aJ _));(try replace hS:=hS.ext ma);have ae:=mI.out _ hq;clear ma;generalize W.alloc (.cells #[.slice none 0 0] 30)=Wn at *;generalize W.heap.size=pb at *;obtain⟨W,rfl⟩:=fu Wn;refine hK.out _ _ (λ_=>ae) ?_;clear hK K;(try simp only[nP])
  all_goals
   have z1:=bQ W pb 0 _ _ _ hA;have z2:=gQ W pb 0 _ _ hA;simp only[gE]at z1;have Aq:=aW (gK W pb 0 _ _ (.slice aS E.length cS) hA);have hSS:=hS.keep (dH (p:=⟨pb,0,none⟩) (v:=.slice aS E.length cS)) (λb hb e=>by have h1:=hb.1;have h2:=hb.2;have h3:b=pb:=e;omega);have HQ:=Aw hq GN hpb hlo1 hSS;clear hq hA hpb GN hS hlo1 hSS;(refine jv aj (i:=9) λK hK=>?_;go_simp);have ae:=mI.out _ (HQ.out.1.setCell (p:=⟨pb,0,none⟩) HQ.out.2.1 (.slice aS E.length cS));refine hK.out _ _ (λ_=>ae) ?_;clear hK K;(try simp only[nP]);refine nQ aj [10] [_] ?_;clear aj ae z1 z2;go_wp2
   go_meet
   exact⟨pb,aS,cS,E,yU,rfl,rfl,HQ.out.1.setCell (p:=⟨pb,0,none⟩) HQ.out.2.1 _,Aq.out,HR,aW ⟨lo,hi,HQ.out.2.1,HQ.out.2.2.1,HQ.out.2.2.2.1,HQ.out.2.2.2.2⟩⟩
 case rest=>
  obtain⟨wa,rfl⟩:=fu wc;obtain⟨p4,aS,cS,E,yU,rfl,rfl,Cx,p4b,HRS,Et⟩:=hcut;obtain⟨loS,hiS,ali,alh,aly,hS0⟩:=Et.out;have ahH:=hS0.mono (T:=λb=>b<wa.heap.size) (λb hb=>hS0.1 b hb) (λb hb=>hb) (λ_ h=>h);obtain⟨hlen,hlists⟩:=HRS.out.small;have M8:=jm hlen hlists;have bc:=ik Cx HB1.out.2.1;have dc:=ik Cx HB1.out.2.2;have hEc:=ah HB1.out.1 Cx;have e0:=bQ wa w.heap.size 0 _ _ _ bc;simp only[gE]at e0;have HC:=Aw hEc bc dc p4b ahH;have Uz:w.heap.size<=wa.heap.size:=hEc.size;have HZW:=jm Uz (bW p4b);clear Cx ali alh aly hS0 hlen hlists bc dc hEc ahH p4b Uz Et;go_upto_region 7 with(go_at_call 7;refine(wC _ F _ (HVW.out _ HC.out.1) HU.out.1 HU.out.2).mono ?_;rintro e w5 ⟨ax,cx,slx,rfl,hFX,hx5⟩)
  have hx6:Ext w5 (w5.alloc (.cells #[.slice ax F.length cx] 30)):=by go_grown
  have p6b:=eu w5 (.cells #[.slice ax F.length cx] 30);have BB:=ah hx5 hx6;have XH:=λb (hb:Lists F.length slx b)=>hFX.lists hb
  have Tf:=hx5.size;have ahZ:=hFX.ext hx6;clear hFX hx5 hx6 e0;generalize w5.alloc (.cells #[.slice ax F.length cx] 30)=W6 at *;generalize w5.heap.size=p6 at *;have H6:=Aw (ah HC.out.1 BB) (ik BB HC.out.2.1) (ik BB HC.out.2.2.1) (ik BB HC.out.2.2.2.1) (And.intro (HC.out.2.2.2.2.ext BB) (And.intro p6b ahZ));have HXL:=jm XH Tf;clear p6b ahZ BB XH Tf;go_cut [9,10] (λx y wd=>∃(pb:Nat) (aS:Option Addr) (cS:Nat) (E:dh) (yU:Bool) (sl:Nat->Value),x=.pointer (some ⟨pb,0,none⟩)/\y=.bool yU/\Ext W6 wd/\wd.heap[pb]?=some (.cells #[.slice aS E.length cS] 30 (0,0))/\Hid (GX F t p E yU)/\Hid (∃lo hi,W6.heap.size<=pb/\(pb<lo\/hi<=pb)/\W6.heap.size<=lo/\(∀b,Lists E.length sl b->lo<=b/\b<hi)/\oN (λb=>lo<=b/\b<hi) (λV=>FO V lo (.slice aS E.length cS) E.length sl (mV E)) wd))
  case first=>
   have mI:Hid (∀V,Ext W6 V->V.cell? ⟨p6,0,none⟩=some (.slice ax F.length cx)/\V.cell? ⟨w.heap.size+1,0,none⟩=some (.int .i64 t)/\V.cell? ⟨w.heap.size+1,1,none⟩=some (.int .i64 p)):=aW λV hV=>
    ⟨bQ V p6 0 _ _ _ (ik hV H6.out.2.2.2.2.2.1),bQ V (w.heap.size+1) 0 _ _ _ (ik hV H6.out.2.2.1),bQ V (w.heap.size+1) 1 _ _ _ (ik hV H6.out.2.2.1)⟩
   have HXZ:Hid (∀V,Ext W6 V->kH V (.slice ax F.length cx) F):=aW λV hV=>(H6.out.2.2.2.2.2.2.ext hV).ES HU.out.2 HU.out.1
   have ae:=mI.out _ (eX W6);refine oJ (λV:World=>V.cell? ⟨p6,0,none⟩=some (.slice ax F.length cx)/\V.cell? ⟨w.heap.size+1,0,none⟩=some (.int .i64 t)/\V.cell? ⟨w.heap.size+1,1,none⟩=some (.int .i64 p)) [9] ZR ae (λaj ae=>?_);have hq:=eX W6;obtain⟨W,hWd⟩:=fu W6.drew;rw[<-hWd]at hq ae ⊢;clear hWd;obtain⟨E0,hE0⟩:∃X:dh,X=E:=⟨_,rfl⟩;rw[<-hE0]at *;clear hE0 HRS HC M8;(refine bP 0 aj ae ?_;refine bP 1 aj ae ?_);have tV:=True.intro;refine gX aj (i:=2) (j:=7) (by kernel_rfl) ?fa4 ?fb4
   case' fb4=>
    (refine ui (i:=7) λK hK=>?_;go_simp);have ma:Ext W (W.alloc (.cells #[.slice none 0 0] 30)):=(by go_grown);have hA:=eu W (.cells #[.slice none 0 0] 30);have GN:=hq.size;replace hq:=ah hq ma;(try replace zB:=zB.ext ma);(try have hpb:W.heap.size<lo\/hi<=W.heap.size:=.inr (by rw[hhi];exact aJ _));(try replace hS:=hS.ext ma);have ae:=mI.out _ hq;clear ma;generalize W.alloc (.cells #[.slice none 0 0] 30)=Wn at *;generalize W.heap.size=pb at *;obtain⟨W,rfl⟩:=fu Wn;refine hK.out _ _ (λ_=>ae) ?_;clear hK K;(try simp only[nP]);clear tV
   case' fa4=>(refine ui (i:=2) λK hK=>?_;go_simp)
   all_goals
    first
     |(have hNP:=tV;clear hNP)
     |(refine jv aj (i:=2) λK hK=>?_;go_simp)
    refine(wD t p W).mono ?_;rintro e w5 ⟨rfl,hx5⟩;replace hq:=ah hq hx5;(try replace zB:=zB.ext hx5);(try replace hA:=ik hx5 hA);clear hx5;have ae:=mI.out _ hq;obtain⟨W,rfl⟩:=fu w5;refine hK.out _ _ (λ_=>ae) ?_;clear hK K;(try simp only[nP])
   refine gX aj (i:=3) (j:=7) (by kernel_rfl) ?fa5 ?fb5
   case' fb5=>
    (refine ui (i:=7) λK hK=>?_;go_simp);have ma:Ext W (W.alloc (.cells #[.slice none 0 0] 30)):=(by go_grown);have hA:=eu W (.cells #[.slice none 0 0] 30);have GN:=hq.size;replace hq:=ah hq ma;(try replace zB:=zB.ext ma);(try have hpb:W.heap.size<lo\/hi<=W.heap.size:=.inr (by rw[hhi];exact aJ _));(try replace hS:=hS.ext ma);have ae:=mI.out _ hq;clear ma;generalize W.alloc (.cells #[.slice none 0 0] 30)=Wn at *;generalize W.heap.size=pb at *;obtain⟨W,rfl⟩:=fu Wn;refine hK.out _ _ (λ_=>ae) ?_;clear hK K;(try simp only[nP]);clear tV
   case' fa5=>(refine ui (i:=3) λK hK=>?_;go_simp)
   all_goals
    first
     |(have hNP:=tV;clear hNP)
     |(refine jv aj (i:=3) λK hK=>?_;go_simp)
    refine(Iw _ F t p W (HXZ.out _ hq)).mono ?_;rintro e w6 ⟨aS,cS,E,yU,sl,rfl,hR,qG,hx6⟩;have hS:=qG.sup;have Rj:=λb (hb:Lists E.length sl b)=>qG.lists hb
    obtain⟨lo,hlo⟩:=fu W.heap.size;obtain⟨hi,hhi⟩:=fu w6.heap.size;(try have hpb:pb<lo\/hi<=pb:=.inl (by rw[hlo];exact bW hA));have hlo1:=hq.size;rw[<-hlo]at hlo1 hS Rj;rw[<-hhi]at hS Rj;replace hq:=ah hq hx6;have HR:=jm hR Rj;(try replace hA:=ik hx6 hA);clear hR Rj qG hx6 hlo;have ae:=mI.out _ hq;obtain⟨W,rfl⟩:=fu w6;refine hK.out _ _ (λ_=>ae) ?_;clear hK K;(try simp only[nP])
   all_goals
    (refine bP 4 aj ae ?_;refine bP 5 aj ae ?_;refine bP 6 aj ae ?_)
   (refine jv aj (i:=7) λK hK=>?_;go_simp);have ma:Ext W (W.alloc (.cells #[.slice none 0 0] 30)):=(by go_grown);have hA:=eu W (.cells #[.slice none 0 0] 30);have GN:=hq.size;replace hq:=ah hq ma;(try replace zB:=zB.ext ma);(try have hpb:W.heap.size<lo\/hi<=W.heap.size:=.inr (by rw[hhi];exact aJ _));(try replace hS:=hS.ext ma);have ae:=mI.out _ hq;clear ma;generalize W.alloc (.cells #[.slice none 0 0] 30)=Wn at *;generalize W.heap.size=pb at *;obtain⟨W,rfl⟩:=fu Wn;refine hK.out _ _ (λ_=>ae) ?_;clear hK K;(try simp only[nP])
   all_goals
    have z1:=bQ W pb 0 _ _ _ hA;have z2:=gQ W pb 0 _ _ hA;simp only[gE]at z1;have Aq:=aW (gK W pb 0 _ _ (.slice aS E.length cS) hA);have hSS:=hS.keep (dH (p:=⟨pb,0,none⟩) (v:=.slice aS E.length cS)) (λb hb e=>by have h1:=hb.1;have h2:=hb.2;have h3:b=pb:=e;omega);have HQ:=Aw hq GN hpb hlo1 hSS;clear hq hA hpb GN hS hlo1 hSS;(refine jv aj (i:=8) λK hK=>?_;go_simp);have ae:=mI.out _ (HQ.out.1.setCell (p:=⟨pb,0,none⟩) HQ.out.2.1 (.slice aS E.length cS));refine hK.out _ _ (λ_=>ae) ?_;clear hK K;(try simp only[nP]);refine nQ aj [9] [_] ?_;clear aj ae z1 z2;go_wp2
    go_meet
    exact⟨pb,aS,cS,E,yU,sl,rfl,rfl,HQ.out.1.setCell (p:=⟨pb,0,none⟩) HQ.out.2.1 _,Aq.out,aW HR.out.1,aW ⟨lo,hi,HQ.out.2.1,HQ.out.2.2.1,HQ.out.2.2.2.1,HR.out.2,HQ.out.2.2.2.2⟩⟩
  case rest=>
   obtain⟨p7,aG,cG,FG,okG,sl,rfl,rfl,hxd,p7b,HRG,HGG⟩:=hcut;obtain⟨rfl,rfl⟩:=HRG.out.unique HRS.out;obtain⟨loG,hiG,agu,alg,agU,hL0,hS0⟩:=HGG.out;have Ef:=ah H6.out.1 hxd;have HD7:=aW (ik hxd H6.out.2.2.1);have b7:=ik hxd H6.out.2.1;have q7:=ik hxd H6.out.2.2.2.1;have r7:=ik hxd H6.out.2.2.2.2.2.1;have XN:=H6.out.2.2.2.2.1.ext hxd;have XU:=H6.out.2.2.2.2.2.2.ext hxd;have hz6:wa.heap.size<=p6:=HXL.out.2;have hz7:p6<W6.heap.size:=bW H6.out.2.2.2.2.2.1;have Uz:=HZW.out;have hL7:∀b,Lists FG.length sl b->W6.heap.size<=b/\b≠p7/\b<wc.heap.size:=λb hb=>by have h1:=hL0 b hb;have h2:=hS0.1 b h1;omega
   have HZ:=Aw hz6 hz7 Uz agu agU;have TH:FO wc loG (.slice aG FG.length cG) FG.length sl (mV FG):=hS0.out;have HL7:=aW hL7;have d4:=bQ wc p4 0 _ _ _ q7;have d7:=bQ wc p7 0 _ _ _ p7b;have hok:(okG != okG)=false:=(by simp);have ahJ:dI wc 0 (.slice aG (List.length FG) cG) FG:=TH.nodes (λj hj=>by have:=M8.out.2 j hj;omega) (by have:=M8.out.1;simp[maxLen];omega);have HQ7:=Aw Ef b7 q7 r7 (And.intro p7b (And.intro XN (And.intro XU TH)));clear hxd agu alg agU hL0 hS0 Ef b7 q7 r7 p7b XN XU TH HGG hz6 hz7 Uz hL7;simp only[gE]at d4 d7;go_upto_region 10 with(go_at_call 10;refine(uE _ _ (qV FG) _ ahJ.dB (HQ7.out.2.2.2.2.2.1.out).dB).mono ?_;rintro e w9 ⟨rfl,Ti⟩)
   obtain⟨Ef,b7,q7,r7,p7b,XN,XU,TH⟩:=HQ7.out;have Pq:=ah Ef Ti;have HD9:=aW (ik Ti HD7.out);have b9:=ik Ti b7;have q9:=ik Ti q7;have r9:=ik Ti r7;have s9:=ik Ti p7b;have XM:=XN.ext Ti;have XT:=XU.ext Ti;have XV:=TH.ext Ti;clear d4 d7 Ti Ef b7 q7 r7 p7b XN XU TH ahJ HQ7
   have mI:∀W:World,Ext w9 W->W.cell? ⟨p6,0,none⟩=some (.slice ax F.length cx)/\W.cell? ⟨w.heap.size,0,none⟩=some (.slice a F.length cap):=λW hW=>
    ⟨bQ W p6 0 _ _ _ (ik hW r9),bQ W w.heap.size 0 _ _ _ (ik hW b9)⟩
   have hxd:Ext w9 w9.drew:=eX w9;have H9:=Aw Pq b9 q9 r9 (And.intro s9 (And.intro XM (And.intro XT XV)));clear Pq b9 q9 r9 s9 XM XT XV;refine oJ (λW:World=>W.cell? ⟨p6,0,none⟩=some (.slice ax F.length cx)/\W.cell? ⟨w.heap.size,0,none⟩=some (.slice a F.length cap)) [4] Vt (mI _ hxd) (λaj ae=>?_);(refine bP 0 aj ae ?_;refine bP 1 aj ae ?_);(refine jv aj (i:=2) λK hK=>?_;go_simp);refine(wC _ F _ (HVW.out _ (ah H9.out.1 hxd)) HU.out.1 HU.out.2).mono ?_;rintro e w10 ⟨ay,cy,sly,rfl,hFY,WN⟩;have BB:=ah hxd WN;have ae:=mI _ BB;refine hK.out _ _ (λ_=>ae) ?_;clear hK K;(try simp only[nP]);(refine jv aj (i:=3) λK hK=>?_;go_simp);refine(uE _ _ F _ ((H9.out.2.2.2.2.2.2.1.ext BB).ES HU.out.2 HU.out.1) (hFY.ES HU.out.2 HU.out.1)).mono ?_;rintro e w11 ⟨rfl,agk⟩;have yg:=ah BB agk;have ae:=mI _ yg;refine hK.out _ _ (λ_=>ae) ?_;clear hK K;(try simp only[nP]);refine nQ aj [4] [_] ?_;obtain⟨Pq,b9,q9,r9,s9,XM,XT,XV⟩:=H9.out;have GL:=ah Pq yg;have aeK:=aW (ik yg HD9.out);have b11:=ik yg b9;have q11:=ik yg q9;have r11:=ik yg r9;have s11:=ik yg s9;have Ml:=XM.ext yg;have Rk:=XT.ext yg;have Mt:=XV.ext yg;clear yg BB agk WN hFY Pq b9 q9 r9 s9 XM XT XV mI ae aj hxd H9;have c60:=bQ w11 p6 0 _ _ _ r11;have hcz:iJ (Ob F) (2*F.length)<=1000000000:=(by have h1:=ail F (aJ F.length);rw[dJ (aJ _)]at h1;have:=HTZ.out;omega);have HCZ:=aW hcz;have hpz:=pV (Ob F) (2*F.length);have hkk:¬(iJ (Ob F) (2*F.length)<0):=(by omega);have H11:=Aw GL b11 q11 s11 (And.intro Ml (And.intro Rk Mt));clear hcz hpz GL b11 q11 s11 Ml Rk Mt r11;simp only[gE]at c60;generalize hcc:iJ (Ob F) (2*F.length)=kz at *;go_upto_region 14 with(go_at_call 11;refine(Bp _ F.length _ slx (Ob F) _ H11.out.2.2.2.2.2.1 (by have:=HU.out.1;omega) (by rw[hcc];exact HCZ.out)).mono ?_;rintro e w12 ⟨rfl,-,Dy⟩;rw[hcc])
   obtain⟨GL,b11,q11,s11,Ml,Rk,Mt⟩:=H11.out;obtain⟨z1,z2,⟨z3,z4⟩,z5,z6⟩:=HZ.out;have XH:=HXL.out.1;have XX:Ext w w12:=⟨Dy.os.trans GL.os,Dy.tape.trans GL.tape,Dy.output.trans GL.output,bZ GL.size Dy.size,λk hk=>(Dy.block k (bg hk GL.size) (λe=>by have:=(XH k e).1;omega)).trans (GL.block k hk)⟩;have b12:=(Dy.block _ (bW b11) (λe=>by have:=(XH _ e).1;have:=bW HC.out.2.1;omega)).trans b11;have q12:=(Dy.block _ (bW q11) (λe=>by have:=(XH _ e).1;omega)).trans q11;have s12:=(Dy.block _ (bW s11) (λe=>by have:=(XH _ e).2;omega)).trans s11;have ai8:=aW ((Dy.block _ (bW aeK.out) (λe=>by have:=(XH _ e).1;have:=bW HC.out.2.2.1;omega)).trans aeK.out);have Mk:=Ml.keep Dy (λb hb e=>by have:=(XH b e).1;omega);have IC:=Mt.oP Dy (λb e=>by have:=(XH b e).2;omega);have acv:dI w12 0 (.slice aG (List.length FG) cG) FG:=IC.nodes (λj hj=>by have:=M8.out.2 j hj;omega) (by have:=M8.out.1;simp[maxLen];omega);have d4:=bQ w12 p4 0 _ _ _ q12;have d7:=bQ w12 p7 0 _ _ _ s12;have H12:=Aw XX b12 q12 s12 (And.intro Mk IC);clear Dy GL b11 q11 s11 Ml Rk Mt c60 XX b12 q12 s12 Mk IC H11 XH z1 z2 z3 z4 z5 z6;simp only[gE]at d4 d7;go_upto_region 17 with(go_at_call 10;refine(uE _ _ (qV FG) _ acv.dB (H12.out.2.2.2.2.1.out).dB).mono ?_;rintro e w13 ⟨rfl,LU⟩)
   obtain⟨XX,b12,q12,s12,Mk,IC⟩:=H12.out;have CE:=ah XX LU;have aeJ:=aW (ik LU ai8.out);have b13:=ik LU b12;have q13:=ik LU q12;have s13:=ik LU s12;have Mj:=Mk.ext LU;have Rl:=IC.ext LU;have d7b:=bQ w13 p7 0 _ _ _ s13;have hcnt:iJ (mV FG) (2*FG.length)<=1000000000:=(by have:=TN (ls:=mV FG) (n:=2*FG.length) M8.out.2;have:=M8.out.1;omega);have Qe:=aW hcnt;have hcp:=pV (mV FG) (2*FG.length);have hne:(iJ (mV FG) (2*FG.length) != iJ (mV FG) (2*FG.length))=false:=(by simp);have H13:=Aw CE b13 q13 s13 (And.intro Mj Rl);clear d4 d7 LU XX b12 q12 s12 Mk IC acv H12 CE b13 q13 s13 Mj Rl hcnt;simp only[gE]at d7b;generalize hce:iJ (mV FG) (2*FG.length)=ke at *;have hkn:¬(ke<0):=(by omega);clear hkk hcp;go_upto_region 18 with(go_at_call 11;refine(Bp _ FG.length _ sl (mV FG) _ H13.out.2.2.2.2.2 (by have:=M8.out.1;omega) (by rw[hce];exact Qe.out)).mono ?_;rintro e w14 ⟨rfl,Ms,Fw⟩;rw[hce])
   obtain⟨CE,b13,q13,s13,Mj,Rl⟩:=H13.out;obtain⟨z1,z2,⟨z3,z4⟩,z5,z6⟩:=HZ.out;have hL7:=HL7.out;have XW:Ext w w14:=⟨Fw.os.trans CE.os,Fw.tape.trans CE.tape,Fw.output.trans CE.output,bZ CE.size Fw.size,λk hk=>(Fw.block k (bg hk CE.size) (λe=>by have:=(hL7 k e).1;omega)).trans (CE.block k hk)⟩;have b14:=(Fw.block _ (bW b13) (λe=>by have:=(hL7 _ e).1;have:=bW HC.out.2.1;omega)).trans b13;have q14:=(Fw.block _ (bW q13) (λe=>by have:=(hL7 _ e).1;omega)).trans q13;have s14:=(Fw.block _ (bW s13) (λe=>(hL7 _ e).2.1 rfl)).trans s13;have ai7:=aW ((Fw.block _ (bW aeJ.out) (λe=>by have:=(hL7 _ e).1;have:=bW HC.out.2.2.1;omega)).trans aeJ.out);have Mi:=Mj.keep Fw (λb hb e=>by have:=(hL7 b e).1;omega);have d7c:=bQ w14 p7 0 _ _ _ s14;have H14:=Aw XW b14 q14 s14 (And.intro Mi Ms);clear d7b Fw CE b13 q13 s13 Mj Rl H13 XW b14 q14 s14 Mi Ms hL7 z1 z2 z3 z4 z5 z6;simp only[gE]at d7c;go_upto_region 24 with(go_at_call 12;refine(BF _ FG.length _ sl (mV FG) _ H14.out.2.2.2.2.2 (by have:=M8.out.1;omega) (by rw[hce];exact Qe.out)).mono ?_;rintro e w15 ⟨rfl,LQ⟩;rw[hce])
   obtain⟨XW,b14,q14,s14,Mi,Ms⟩:=H14.out;have H15:=Aw (ah XW LQ) (ik LQ b14) (ik LQ q14) (ik LQ s14) (And.intro (Mi.ext LQ) (Ms.ext LQ));have HDT:=aW (ik LQ ai7.out);clear d7c LQ XW b14 q14 s14 Mi Ms H14 HD7 HD9 aeK ai8 aeJ ai7;go_cut [14,15] (λx y wd=>∃(pb:Nat) (aS:Option Addr) (cS:Nat) (E:dh) (yU:Bool) (sl:Nat->Value),x=.pointer (some ⟨pb,0,none⟩)/\y=.bool yU/\Ext w15 wd/\wd.heap[pb]?=some (.cells #[.slice aS E.length cS] 30 (0,0))/\Hid (GX F t p E yU)/\Hid (∃lo hi,w15.heap.size<=pb/\(pb<lo\/hi<=pb)/\w15.heap.size<=lo/\(∀b,Lists E.length sl b->lo<=b/\b<hi)/\oN (λb=>lo<=b/\b<hi) (λV=>FO V lo (.slice aS E.length cS) E.length sl (mV E)) wd))
   case first=>
    have mI:Hid (∀V,Ext w15 V->V.cell? ⟨w.heap.size,0,none⟩=some (.slice a F.length cap)/\V.cell? ⟨w.heap.size+1,0,none⟩=some (.int .i64 t)/\V.cell? ⟨w.heap.size+1,1,none⟩=some (.int .i64 p)):=aW λV hV=>
     ⟨bQ V w.heap.size 0 _ _ _ (ik hV H15.out.2.1),bQ V (w.heap.size+1) 0 _ _ _ (ik hV HDT.out),bQ V (w.heap.size+1) 1 _ _ _ (ik hV HDT.out)⟩
    have HVN:Hid (∀V,Ext w15 V->oW V (.slice a F.length cap) F):=aW λV hV=>HVW.out V (ah H15.out.1 hV)
    have ae:=mI.out _ (eX w15);refine oJ (λV:World=>V.cell? ⟨w.heap.size,0,none⟩=some (.slice a F.length cap)/\V.cell? ⟨w.heap.size+1,0,none⟩=some (.int .i64 t)/\V.cell? ⟨w.heap.size+1,1,none⟩=some (.int .i64 p)) [10] Vs ae (λaj ae=>?_);have hq:=eX w15;obtain⟨W,hWd⟩:=fu w15.drew;rw[<-hWd]at hq ae ⊢;clear hWd;clear HRG HRS HC M8 H15 HDT Qe HCZ hne hkn hce hcc HL7 HZ HXL H6 HB1 HB0;(refine bP 0 aj ae ?_;refine bP 2 aj ae ?_);have tV:=True.intro;refine gX aj (i:=1) (j:=8) (by kernel_rfl) ?fa6 ?fb6
    case' fb6=>
     (refine ui (i:=8) λK hK=>?_;go_simp);have ma:Ext W (W.alloc (.cells #[.slice none 0 0] 30)):=(by go_grown);have hA:=eu W (.cells #[.slice none 0 0] 30);have GN:=hq.size;replace hq:=ah hq ma;(try replace zB:=zB.ext ma);(try have hpb:W.heap.size<lo\/hi<=W.heap.size:=.inr (by rw[hhi];exact aJ _));(try replace hS:=hS.ext ma);have ae:=mI.out _ hq;clear ma;generalize W.alloc (.cells #[.slice none 0 0] 30)=Wn at *;generalize W.heap.size=pb at *;obtain⟨W,rfl⟩:=fu Wn;refine hK.out _ _ (λ_=>ae) ?_;clear hK K;(try simp only[nP]);clear tV
    case' fa6=>(refine ui (i:=1) λK hK=>?_;go_simp)
    all_goals
     first
      |(have hNP:=tV;clear hNP)
      |(refine jv aj (i:=1) λK hK=>?_;go_simp)
     refine(wC _ F W (HVN.out _ hq) HU.out.1 HU.out.2).mono ?_;rintro e w5 ⟨aT,cT,slT,rfl,hFT,hx5⟩;replace hq:=ah hq hx5;have zB:=hFT.ES HU.out.2 HU.out.1;(try replace hA:=ik hx5 hA);clear hFT hx5;have ae:=mI.out _ hq;obtain⟨W,rfl⟩:=fu w5;refine hK.out _ _ (λ_=>ae) ?_;clear hK K;(try simp only[nP])
    refine gX aj (i:=3) (j:=8) (by kernel_rfl) ?fa7 ?fb7
    case' fb7=>
     (refine ui (i:=8) λK hK=>?_;go_simp);have ma:Ext W (W.alloc (.cells #[.slice none 0 0] 30)):=(by go_grown);have hA:=eu W (.cells #[.slice none 0 0] 30);have GN:=hq.size;replace hq:=ah hq ma;(try replace zB:=zB.ext ma);(try have hpb:W.heap.size<lo\/hi<=W.heap.size:=.inr (by rw[hhi];exact aJ _));(try replace hS:=hS.ext ma);have ae:=mI.out _ hq;clear ma;generalize W.alloc (.cells #[.slice none 0 0] 30)=Wn at *;generalize W.heap.size=pb at *;obtain⟨W,rfl⟩:=fu Wn;refine hK.out _ _ (λ_=>ae) ?_;clear hK K;(try simp only[nP]);clear tV
    case' fa7=>(refine ui (i:=3) λK hK=>?_;go_simp)
    all_goals
     first
      |(have hNP:=tV;clear hNP)
      |(refine jv aj (i:=3) λK hK=>?_;go_simp)
     refine(wD t p W).mono ?_;rintro e w5 ⟨rfl,hx5⟩;replace hq:=ah hq hx5;(try replace zB:=zB.ext hx5);(try replace hA:=ik hx5 hA);clear hx5;have ae:=mI.out _ hq;obtain⟨W,rfl⟩:=fu w5;refine hK.out _ _ (λ_=>ae) ?_;clear hK K;(try simp only[nP])
    refine gX aj (i:=4) (j:=8) (by kernel_rfl) ?fa8 ?fb8
    case' fb8=>
     (refine ui (i:=8) λK hK=>?_;go_simp);have ma:Ext W (W.alloc (.cells #[.slice none 0 0] 30)):=(by go_grown);have hA:=eu W (.cells #[.slice none 0 0] 30);have GN:=hq.size;replace hq:=ah hq ma;(try replace zB:=zB.ext ma);(try have hpb:W.heap.size<lo\/hi<=W.heap.size:=.inr (by rw[hhi];exact aJ _));(try replace hS:=hS.ext ma);have ae:=mI.out _ hq;clear ma;generalize W.alloc (.cells #[.slice none 0 0] 30)=Wn at *;generalize W.heap.size=pb at *;obtain⟨W,rfl⟩:=fu Wn;refine hK.out _ _ (λ_=>ae) ?_;clear hK K;(try simp only[nP]);clear tV
    case' fa8=>(refine ui (i:=4) λK hK=>?_;go_simp)
    all_goals
     first
      |(have hNP:=tV;clear hNP)
      |(refine jv aj (i:=4) λK hK=>?_;go_simp)
     have HXZ:Hid (∀V,Ext W V->kH V (.slice aT F.length cT) F):=aW λV hV=>zB.ext hV
     have hqq:Ext W W:=gz _ _;refine(Iw _ F t p W (HXZ.out _ hqq)).mono ?_;rintro e w6 ⟨aS,cS,E,yU,sl,rfl,hR,qG,hx6⟩;have hS:=qG.sup;have Rj:=λb (hb:Lists E.length sl b)=>qG.lists hb
     obtain⟨lo,hlo⟩:=fu W.heap.size;obtain⟨hi,hhi⟩:=fu w6.heap.size;(try have hpb:pb<lo\/hi<=pb:=.inl (by rw[hlo];exact bW hA));have hlo1:=hq.size;rw[<-hlo]at hlo1 hS Rj;rw[<-hhi]at hS Rj;replace hq:=ah hq hx6;have HR:=jm hR Rj;(try replace hA:=ik hx6 hA);clear hR Rj qG hx6 hlo zB HXZ hqq;have ae:=mI.out _ hq;obtain⟨W,rfl⟩:=fu w6;refine hK.out _ _ (λ_=>ae) ?_;clear hK K;(try simp only[nP])
    all_goals
     (refine bP 5 aj ae ?_;refine bP 6 aj ae ?_;refine bP 7 aj ae ?_)
    (refine jv aj (i:=8) λK hK=>?_;go_simp);have ma:Ext W (W.alloc (.cells #[.slice none 0 0] 30)):=(by go_grown);have hA:=eu W (.cells #[.slice none 0 0] 30);have GN:=hq.size;replace hq:=ah hq ma;(try replace zB:=zB.ext ma);(try have hpb:W.heap.size<lo\/hi<=W.heap.size:=.inr (by rw[hhi];exact aJ _));(try replace hS:=hS.ext ma);have ae:=mI.out _ hq;clear ma;generalize W.alloc (.cells #[.slice none 0 0] 30)=Wn at *;generalize W.heap.size=pb at *;obtain⟨W,rfl⟩:=fu Wn;refine hK.out _ _ (λ_=>ae) ?_;clear hK K;(try simp only[nP])
    all_goals
     have z1:=bQ W pb 0 _ _ _ hA;have z2:=gQ W pb 0 _ _ hA;simp only[gE]at z1;have Aq:=aW (gK W pb 0 _ _ (.slice aS E.length cS) hA);have hSS:=hS.keep (dH (p:=⟨pb,0,none⟩) (v:=.slice aS E.length cS)) (λb hb e=>by have h1:=hb.1;have h2:=hb.2;have h3:b=pb:=e;omega);have HQ:=Aw hq GN hpb hlo1 hSS;clear hq hA hpb GN hS hlo1 hSS;(refine jv aj (i:=9) λK hK=>?_;go_simp);have ae:=mI.out _ (HQ.out.1.setCell (p:=⟨pb,0,none⟩) HQ.out.2.1 (.slice aS E.length cS));refine hK.out _ _ (λ_=>ae) ?_;clear hK K;(try simp only[nP]);refine nQ aj [10] [_] ?_;clear aj ae z1 z2;go_wp2
     go_meet
     exact⟨pb,aS,cS,E,yU,sl,rfl,rfl,HQ.out.1.setCell (p:=⟨pb,0,none⟩) HQ.out.2.1 _,Aq.out,aW HR.out.1,aW ⟨lo,hi,HQ.out.2.1,HQ.out.2.2.1,HQ.out.2.2.2.1,HR.out.2,HQ.out.2.2.2.2⟩⟩
   case rest=>
    obtain⟨p8,aH,cH,FH,okH,slH,rfl,rfl,hxe,p8b,HRH,HHH⟩:=hcut;obtain⟨rfl,rfl⟩:=HRG.out.unique HRH.out;obtain⟨loH,hiH,-,-,-,-,hSH⟩:=HHH.out;have hFH:FO wc loH (.slice aH FG.length cH) FG.length slH (mV FG):=hSH.out;have XP:dI wc 0 (.slice aH (List.length FG) cH) FG:=hFH.nodes (λj hj=>by have:=M8.out.2 j hj;omega) (by have:=M8.out.1;simp[maxLen];omega);obtain⟨ah3,b15,q15,s15,acu,acB⟩:=H15.out;have q18:=ik hxe q15;have s18:=ik hxe s15;have acs:=acu.ext hxe;have d4:=bQ wc p4 0 _ _ _ q18;have d8:=bQ wc p8 0 _ _ _ p8b;have hok2:(okG != okG)=false:=(by simp);have H18:=Ap (ah ah3 hxe) s18 acs.out (acB.ext hxe);clear hxe p8b hSH hFH ah3 b15 q15 s15 acu acB q18 s18 acs HHH;simp only[gE]at d4 d8;go_upto_region 28 with(go_at_call 10;refine(uE _ _ (qV FG) _ XP.dB (H18.out.2.2.1).dB).mono ?_;rintro e w19 ⟨rfl,aao⟩)
    have s19:=ik aao H18.out.2.1;have d7:=bQ w19 p7 0 _ _ _ s19;have H19:=jm (ah H18.out.1 aao) (H18.out.2.2.2.ext aao);clear d4 d8 XP aao s19;simp only[gE]at d7;go_wp2_with (go_at_call 12;refine(BF _ FG.length _ sl (mV FG) _ H19.out.2 (by have:=M8.out.1;omega) (by rw[hce];exact Qe.out)).mono ?_;rintro e w20 ⟨rfl,akW⟩;rw[hce])
    go_ret
    exact⟨rfl,ah H19.out.1 akW⟩
end
section
open Go.RowKit Go.ChangeShapes Go.WideShapes Go.ChangeAt Go.Deep
variable {H:Type} {W:World} {V v:Value} {p:List MemPlace} {b0:Nat}
theorem abd:(Tryz.prog).cellsOf 24=1:=by kernel_rfl
theorem abb:(Tryz.prog).cellsOf 22=1:=by kernel_rfl
theorem abe:(Tryz.prog).cellsOf 26=2:=by kernel_rfl
theorem xN{H:Type}{P:Program}{e:TypeId}:∀{l:List (DataW H)} {d:DataW H},d∈l->∀n∈d.weights P e,n∈DataW.weightsAll P e l
 |x :: l,d,h,n,hn=>by
  simp only[DataW.weightsAll,bq];rcases jk.1 h with rfl|h
  .exact Or.inl hn
  .exact Or.inr (xN h n hn)
theorem Iu{enc:TypeId × Value->H}{D:DataW H}{n:Nat}(h:DataW.trod enc Tryz.prog W 0 (λ_=>true) true n 41 [V]=some (D,p)):
 ∃zs,(∀x,x∈DataW.weights Tryz.prog 41 D->x<=reachBytes)->Ints W V zs:=by
 rcases open_ints Tryz.underlying41 Tryz.underlying3 (by kernel_rfl) h with⟨hcs,hx0⟩|⟨a,len,cap,zs,hcs,hb,hl,hm,hz,hx0,hcell,hwf⟩
 .simp only[mf,and_true]at hcs
  subst hcs;exact⟨[],λ_=>Ints.nil _ _ _⟩
 .simp only[mf,and_true]at hcs
  subst hcs;simp only[if_true]at hz;refine⟨zs.take len,λhw=>?_⟩;have hzl:(zs.take len).length=len:=by rw[gV];omega
  have hlen:len*8<=reachBytes:=by
   simp only[Prod.mk.injEq]at hx0;rw[hx0.1]at hw;have h3:(Tryz.prog).bytesOf 3=8:=(by kernel_rfl);have h4:(lits IntKind.i64 (zs.take len):List (DataW H)).length=len:=(by simp[lits];omega);have h5:=hw _ (by simp only[DataW.weights,Tryz.underlying41];exact List.mem_cons_self);rw[h3,h4]at h5;omega
  have hr:reachBytes=140737488351232:=rfl;refine⟨some a,cap,by rw[hzl],by omega,by omega,λh0=>?_⟩;obtain⟨b,off,rfl,hc⟩:=ints_at hcell (by omega);refine⟨b,off,rfl,λi hi=>?_⟩;rw[hc i (by omega)];have h2:i<len:=by omega
  simp[jl,List.getD,h2]
theorem abp{w:World}{a:Addr}(h:w.cell? (a.add (0*2))=some V):∃b off,a=⟨b,off,none⟩:=by
 obtain⟨b,off,spot⟩:=a;have hspot:spot=none:=by simpa [Addr.add]using World.cell?_spot h
 subst hspot;exact⟨b,off,rfl⟩
theorem TL{enc:TypeId × Value->H}{d:DataW H}(hv:Value.okWide Tryz.prog W .any b0 24 v)(h:DataW.Trod enc Tryz.prog W 0 (λ_=>true) true 24 v d p):
 ∃(vs:Value) (F:List ru),v=.agg #[vs]/\((∀x,x∈DataW.weights Tryz.prog 24 d->x<=reachBytes)->oW W vs F):=by
 obtain⟨cs,rfl,hsz⟩:=okWide_struct Tryz.underlying24 hv;rw[abd]at hsz;obtain⟨l⟩:=cs
 match l,hsz with
 |[c0],_=>
 obtain⟨fuel,hf⟩:=h;obtain⟨y0,m,hx,_,hy0⟩:=trod_struct1 Tryz.underlying24 hf;simp only[Prod.mk.injEq]at hx;obtain⟨rfl,rfl⟩:=hx;have hy0':DataW.trod enc Tryz.prog W 0 (λ_=>true) true m 22 [c0]=some y0:=by simpa [Value.cells,abb]using hy0
 rcases open_slice_pairs Tryz.underlying22 Tryz.underlying102 (by kernel_rfl) rfl rfl (by kernel_rfl) (by kernel_rfl) hy0' with⟨hcs,hx0⟩|⟨a,len,cap,m',n,V0,V1,D0,D1,P0,P1,hcs,hb,hl,hm,hmm,hx0,hcell⟩
 .simp only[mf,and_true]at hcs
  subst hcs;exact⟨_,[],rfl,λ_=>⟨none,0,rfl,aJ _,aU _,λh=>absurd h (by simp)⟩⟩
 .simp only[mf,and_true]at hcs
  subst hcs;simp only[if_true]at hmm;have hmm':=hmm.symm;subst hmm';have e0:∀i,i<len->∃zs:List Int × List Int,((∀x,x∈DataW.weights Tryz.prog 41 (D0 i)->x<=reachBytes)->Ints W (V0 i) zs.1)/\((∀x,x∈DataW.weights Tryz.prog 41 (D1 i)->x<=reachBytes)->Ints W (V1 i) zs.2):=λi hi=>by
   obtain⟨_,_,k1,k2⟩:=hcell i (by omega);obtain⟨z1,h1⟩:=Iu k1;obtain⟨z2,h2⟩:=Iu k2;exact⟨(z1,z2),h1,h2⟩
  obtain⟨Z,hZ⟩:=choose_lt e0;refine⟨_,(List.range len).map Z,rfl,λhw=>⟨some a,cap,by simp,by simpa using hl,by simp;omega,λh0=>?_⟩⟩;have hlp:0<len:=by simpa using h0
  obtain⟨b,off,rfl⟩:=abp (hcell 0 (by omega)).1;refine⟨b,off,rfl,λi hi=>?_⟩;have hi':i<len:=by simpa using hi
  obtain⟨k0,k1,_,_⟩:=hcell i (by omega);rw[Go.WideShapes.add_plain]at k0 k1;have hwi:∀x,x∈DataW.weights Tryz.prog 102 (.agg [D0 i,D1 i])->x<=reachBytes:=λx hx=>by
   refine hw x ?_;have e1:DataW.weights Tryz.prog 24 (.agg [y0.1])=DataW.weightsEach Tryz.prog [22] [y0.1]:=(by simp[DataW.weights,Tryz.underlying24]);rw[e1];refine DataW.weights_mem_each (j:=0) rfl rfl x ?_;rw[congrArg Prod.fst hx0];simp only[DataW.weights,Tryz.underlying22];refine qz _ (List.mem_append_left _ (xN (d:=.agg [D0 i,D1 i]) ?_ x hx));exact az.2 ⟨i,dz.2 hi',rfl⟩
  have e2:DataW.weights Tryz.prog 102 (.agg [D0 i,D1 i])=DataW.weightsEach Tryz.prog [41,41] [D0 i,D1 i]:=by simp[DataW.weights,Tryz.underlying102]
  rw[e2]at hwi;obtain⟨q0,q1⟩:=hZ i hi';refine⟨V0 i,V1 i,k0,by simpa [Nat.add_assoc]using k1,?_,?_⟩
  .simpa using q0 λx hx=>hwi x (DataW.weights_mem_each (j:=0) rfl rfl x hx)
  .simpa using q1 λx hx=>hwi x (DataW.weights_mem_each (j:=1) rfl rfl x hx)
theorem aa5{enc:TypeId × Value->H}{d:DataW H}(hv:Value.okWide Tryz.prog W .any b0 26 v)(h:DataW.Trod enc Tryz.prog W 0 (λ_=>true) true 26 v d p):
 ∃t q:Int,v=.agg #[.int .i64 t,.int .i64 q]:=by
 obtain⟨cs,rfl,hsz⟩:=okWide_struct Tryz.underlying26 hv;rw[abe]at hsz;obtain⟨l⟩:=cs
 match l,hsz with
 |[c0,c1],_=>
 obtain⟨fuel,hf⟩:=h;obtain⟨y0,y1,m,hx,_,hy0,hy1⟩:=trod_struct2 Tryz.underlying26 hf;obtain⟨t,e0,_⟩:=DataW.trod_int Tryz.underlying3 hy0;obtain⟨q,e1,_⟩:=DataW.trod_int Tryz.underlying3 hy1;have ci:(Tryz.prog).cellsOf 3=1:=by kernel_rfl
 simp[Value.cells,ci]at e0 e1;exact⟨t,q,by rw[e0,e1]⟩
end
section
open Go.ChangeShapes Go.WideShapes Go.ChangeAt Go.RowKit
theorem aks:ownKnob Tryz.prog.godebug=none:=by kernel_rfl
theorem Yb(os:Os)(args:Array Value):laidMetH Tryz.prog Rows.fnExactHeatFormRow.laid ((World.laidAll Tryz.prog os Rows.fnExactHeatFormRow.laid).forCall (λ_ _=>0) ⟨#[],args,[]⟩).memory:=by
 rw[MakeChecks.laidMetH_plain _ _ _ (by kernel_rfl)];exact laidMet_laidAll args (by kernel_rfl) (by kernel_rfl)
theorem lifted(os:Os)(started:os.Started)(H:Type)(enc:TypeId × Value->H):
 ReturnsInHanded {} Tryz.checked os 3 .any (λw args=>(Rows.fnExactHeatFormSpec.pre enc Tryz.prog Tryz.f3 [] false w args/\laidMetH Tryz.prog Rows.fnExactHeatFormRow.laid w)/\sizedMet enc Tryz.prog Tryz.f3 (OpenSpec.ofChange Rows.fnExactHeatFormSpec) false w args)
  (Rows.fnExactHeatFormSpec.post enc Tryz.prog Tryz.f3 false true false false):=by
 refine Lv (C:=Tryz.checked) (X:=λw _=>laidMetH Tryz.prog Rows.fnExactHeatFormRow.laid w) (λ_ _ _ hh h=>h.of_heap hh) aks started (by kernel_rfl) Tryz.func3
  (ChangeSpec.witness_shaped (enc:=enc) (C:=Tryz.checked) (os:=os) (X:=λw _=>laidMetH Tryz.prog Rows.fnExactHeatFormRow.laid w) false (World.laidAll Tryz.prog os Rows.fnExactHeatFormRow.laid) #[.agg #[.slice none 0 0],.agg #[.int .i64 0,.int .i64 0]] 8 (World.laidAll_os _ _ _) (World.shaped_of_ZipB (by kernel_rfl) (by kernel_rfl)) (by kernel_rfl) (by kernel_rfl) (by kernel_rfl) (Yb os _)) ?_
 intro W base args ds gs before hval0 hW _ hwt hL hS _;have hval:∀(j:Nat) t v,Tryz.f3.params[j]?=some t->args[j]?=some v->Value.okWide Tryz.prog W .any base t v:=hval0;have hW':=hW;obtain⟨p,q,hA0,hV,rfl,hfz,hnd⟩:=hW;have hA:DataW.TrodAll enc Tryz.prog W 0 (λ_=>true) true Tryz.f3.params.toList args.toList ds p:=hA0;rw[Tryz.params3]at hA hval;obtain⟨v0,v1,d0,d1,p0,p1,rfl,rfl,rfl,h0,h1⟩:=trodAll_two hA;obtain⟨rfl,rfl⟩:=trodVars_none hV;obtain⟨vs,F,rfl,hI⟩:=TL (hval 0 24 v0 rfl rfl) h0;obtain⟨t,u,rfl⟩:=aa5 (hval 1 26 v1 rfl rfl) h1;have akX:∀x,x∈DataW.weights Tryz.prog 24 d0->x<=reachBytes:=λx hx=>by
  have h:=hwt;rw[show Tryz.f3.params=_ from Tryz.params3]at h;have h2:=List.all_eq_true.1 h x (DataW.weights_mem_each (j:=0) rfl rfl x hx)
  simpa using h2
 refine(SI vs F t u W (hI akX)).mono λe W' ⟨he,hx⟩=>?_
 subst he;have agR:∀x∈p0,x.block<W.heap.size:=λx hm=>by simpa using hW'.lt x (by simp[hm])
 have hlt1:∀x∈p1,x.block<W.heap.size:=λx hm=>by simpa using hW'.lt x (by simp[hm])
 refine⟨_,rfl,_,_,_,[],p0++p1,[],hW',trodAll_mk1 (shut_bool Tryz.underlying4 _),?_,?_,hx.frame _,λh=>by cases h⟩
 .exact trodAll_mk2 (Below.trod Wo (by kernel_rfl) (of_decide_eq_true (by kernel_rfl)) h0 hx agR) (Below.trod Wo (by kernel_rfl) (of_decide_eq_true (by kernel_rfl)) h1 hx hlt1)
 .exact rfl
end
