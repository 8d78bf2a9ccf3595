/- 46 -/
import Derived.Test.YtplgooajigigkaaGreatDoorK44
import Derived.Test.YtplgooajigigkaaGreatDoorK45
set_option maxRecDepth 100000
set_option maxHeartbeats 4000000
namespace Go.Proofs.YtplgooajigigkaaGreatDoor
open Tryz
section
open Go.RowKit
open bE (dh Nd Gm vl bI bz Same plus)
theorem Oi(va vb:Value)(F G:dh)(w:World)(ha:dI w 0 va F)(hb:dI w 0 vb G)(hF:bI F)(hG:bI G):
 Calls prog 299 #[.agg #[va],.agg #[vb]] w λe w'=>∃b:Bool,e=.returned (.bool b)/\(b=true↔dm F=true/\dm G=true/\F.length*G.length<=1600)/\Ext w w':=by
 obtain⟨a,ca,rfl⟩:=ha.slice;obtain⟨b,cb,rfl⟩:=hb.slice;obtain⟨W,hW,hx,b0,b1,-⟩:=MV w (.cells #[.slice a (List.length F) ca] 30) (.cells #[.slice b (List.length G) cb] 30);have c0:=bQ W w.heap.size 0 _ _ _ b0;have c1:=bQ W (w.heap.size+1) 0 _ _ _ b1;simp only[gE]at c0 c1;have HA:=aW (λV (hV:Ext W V)=>Ah _ F V (ha.ext (ah hx hV)) hF);have HB:=aW (λV (hV:Ext W V)=>Ah _ G V (hb.ext (ah hx hV)) hG);have HX:=aW hx;clear ha hb b0 b1 hx hF hG;cases fF:dm F with
 |false=>
  go_enter Tryz.func299,Tryz.ntmps299
  go_upto_region 1 with fail
  rw[<-hW];clear hW;go_wp2_with (go_at_call 65;refine(HA.out _ (gz _ _)).mono ?_;rintro e w1 ⟨he,hq1⟩;rw[fF]at he;subst he)
  go_ret
  exact⟨false,rfl,by simp,ah HX.out hq1⟩
 |true=>
  cases fG:dm G with
  |false=>
   go_enter Tryz.func299,Tryz.ntmps299
   go_upto_region 1 with fail
   rw[<-hW];clear hW
   go_wp2_with (first
    |(go_at_call 65;refine(HB.out _ hq1).mono ?_;rintro e w2 ⟨he,hx3⟩;rw[fG]at he;subst he;have hq2:=ah hq1 hx3)
    |(go_at_call 65;refine(HA.out _ (gz _ _)).mono ?_;rintro e w1 ⟨he,hq1⟩;rw[fF]at he;subst he;have d0:=fw hq1 c0;have d1:=fw hq1 c1))
   go_ret
   exact⟨false,rfl,by simp,ah HX.out hq2⟩
  |true=>
   have l2:F.length<=120:=(of_decide_eq_true fF).2.1;have m2:G.length<=120:=(of_decide_eq_true fG).2.1;have hnn:F.length*G.length<=120*120:=pE l2 m2;have hmul:wrap64 (((F.length:Nat):Int)*((G.length:Nat):Int))=((F.length*G.length:Nat):Int):=(by rw[<-Int.natCast_mul];unfold wrap64;omega);have hwm:IntKind.i64.wrap (((F.length:Nat):Int)*((G.length:Nat):Int))=((F.length*G.length:Nat):Int):=(l9 _).trans hmul;go_enter Tryz.func299,Tryz.ntmps299
   go_upto_region 1 with fail
   rw[<-hW];clear hW
   go_wp2_with (first
    |(go_at_call 65;refine(HB.out _ hq1).mono ?_;rintro e w2 ⟨he,hx3⟩;rw[fG]at he;subst he;have hq2:=ah hq1 hx3;have e0:=fw hq2 c0;have e1:=fw hq2 c1)
    |(go_at_call 65;refine(HA.out _ (gz _ _)).mono ?_;rintro e w1 ⟨he,hq1⟩;rw[fF]at he;subst he;have d0:=fw hq1 c0;have d1:=fw hq1 c1))
   go_ret
   exact⟨_,rfl,by simp only[decide_eq_true_eq,true_and];omega,ah HX.out hq2⟩
def ROk(F G:dh):Prop:=dm F=true/\dm G=true/\F.length*G.length<=1600/\∃S,bI S/\Same (bz S) (plus (bz F) (bz G))/\dm S=true
def YB(F G:dh)(w:World)(e:Ending)(w':World):Prop:=
 ∃(a:Option Addr) (n c:Nat) (ok:Bool),e=.returned (.tuple #[.agg #[.slice a n c],.bool ok])/\(ok=true->∃S,n=S.length/\(dm F=true/\dm G=true/\F.length*G.length<=1600)/\bI S/\Same (bz S) (plus (bz F) (bz G))/\dm S=true/\dI w' w.heap.size (.slice a n c) S)/\(ok=false->¬ROk F G)/\Ext w w'
theorem Ve(va vb:Value)(F G:dh)(w:World)(ha:dI w 0 va F)(hb:dI w 0 vb G)(hF:bI F)(hG:bI G):
 Calls prog 274 #[.agg #[va],.agg #[vb]] w (YB F G w):=by
 obtain⟨a,ca,rfl⟩:=ha.slice;obtain⟨b,cb,rfl⟩:=hb.slice;obtain⟨W,hW,hx,b0,b1,b2,hz⟩:=Zt w (.cells #[.slice a (List.length F) ca] 30) (.cells #[.slice b (List.length G) cb] 30) (.cells #[.slice none 0 0] 30);have c0:=bQ W w.heap.size 0 _ _ _ b0;have c1:=bQ W (w.heap.size+1) 0 _ _ _ b1;simp only[gE]at c0 c1;have HP:=aW (Oi _ _ F G W (ha.ext hx) (hb.ext hx) hF hG);have HS:=aW (λV (hV:Ext W V) (h:F.length*G.length<=300000)=>SQ _ _ F G V (ha.ext (ah hx hV)) (hb.ext (ah hx hV)) hF.good hG.good (fV.2 hF.ne) (fV.2 hG.ne) h);have HX:=nY hx b2 hz;clear ha hb b0 b1 b2 hx hz hF hG;by_cases hp:dm F=true/\dm G=true/\F.length*G.length<=1600
 .have HH:=aW hp
  clear hp;go_enter Tryz.func274,Tryz.ntmps274
  go_upto_region 1 with fail
  rw[<-hW];clear hW
  go_wp2_with (first
   |(go_at_call 195;refine(Cu _ _ S _ XO).mono ?_;rintro e w3 ⟨aR,nR,cR,okR,rfl,hok,hy,-,hx3⟩
     have hr3:=ik (ah hq2 hx3) HX.out.2.1;have z1:=bQ _ (w.heap.size+1+1) 0 _ _ _ hr3;have z2:=gQ _ (w.heap.size+1+1) 0 _ _ hr3;have HR:=Ap hok hy hr3 hx3;clear hok hy hr3 hx3)
   |(go_at_call 300;refine(HS.out _ hq1 (by have:=HH.out.2.2;omega)).mono ?_;rintro e w2 ⟨vS,S,rfl,XO,hIS,hSS,hlS,hx2⟩
     obtain⟨aS,cS,rfl⟩:=XO.slice;have hq2:=ah hq1 hx2;clear hlS)
   |(go_at_call 299;refine HP.out.mono ?_;rintro e w1 ⟨bb,rfl,hbb,hq1⟩
     obtain rfl:bb=true:=hbb.2 HH.out;clear hbb;have d0:=fw hq1 c0;have d1:=fw hq1 c1))
  refine mg (w.heap.size+1+1) 30 _ (gK _ (w.heap.size+1+1) 0 _ _ (.slice aR nR cR) HR.out.2.2.1) underlying30 ?_;obtain⟨hok,hy,hr3,hx3⟩:=HR.out;have hzz:=HX.out.2.2;have hz1:=hq1.size;refine⟨aR,nR,cR,okR,rfl,λh=>?_,λh k=>?_,ll (ah HX.out.1 (ah hq2 hx3)) (w.heap.size+1+1) 0 _⟩
  .obtain⟨h1,h2⟩:=hy h
   exact⟨S,h1,HH.out,hIS,hSS,by rw[<-hok,h],(h2.set (p:=⟨w.heap.size+1+1,0,none⟩) (by show w.heap.size+1+1<w1.heap.size;omega) _).weaken (by omega)⟩
  .obtain⟨_,_,_,S',k1,k2,k3⟩:=k
   have e:=bE.kQ k1 hIS (bE.dn k2 (bE.dU hSS));rw[e,<-hok,h]at k3;cases k3
 .have HH:=aW hp
  clear hp;go_enter Tryz.func274,Tryz.ntmps274
  go_upto_region 1 with fail
  rw[<-hW];clear hW
  go_wp2_with (go_at_call 299;refine HP.out.mono ?_;rintro e w1 ⟨bb,rfl,hbb,hq1⟩
               obtain rfl:bb=false:=iT.2 (λq=>HH.out (hbb.1 q));have hr3:=ik hq1 HX.out.2.1;have z1:=bQ _ (w.heap.size+1+1) 0 _ _ _ hr3;have z2:=gQ _ (w.heap.size+1+1) 0 _ _ hr3;have HR:=jm hr3 hq1;clear hbb hr3 hq1)
  refine mg (w.heap.size+1+1) 30 _ (gK _ (w.heap.size+1+1) 0 _ _ (.slice none 0 0) HR.out.1) underlying30 ?_;exact⟨none,0,0,false,rfl,(λh=>by cases h),(λ_ k=>HH.out ⟨k.1,k.2.1,k.2.2.1⟩),ll (ah HX.out.1 HR.out.2) (w.heap.size+1+1) 0 _⟩
end
section
open Go.RowKit
open bE (dh Nd Gm vl bI bz Same plus Canon jc)
def Y9(Fs:List dh)(w:World)(e:Ending)(w':World):Prop:=
 ∃(a:Option Addr) (n c:Nat) (ok:Bool),e=.returned (.tuple #[.agg #[.slice a n c],.bool ok])/\(ok=true->∃E,n=E.length/\Acc false Fs Fs.length E/\bI E/\E.length<=120/\dI w' w.heap.size (.slice a n c) E)/\(ok=false->∀E,¬Acc false Fs Fs.length E)/\Ext w w'
theorem abt{Fs:List dh}{i:Nat}{E C E':dh}(a:Acc false Fs i E)(c:fA C (bz (Fs.getD i [])))(n:¬ROk E C):¬Acc false Fs (i+1) E':=by
 rintro⟨E2,C2,S2,a2,f0,c2,f1,l,i2,s2,f2,_⟩;have q1:=BU a a2;subst q1;have q2:=c.unique c2;subst q2;exact n ⟨f0,f1,l,S2,i2,s2,f2⟩
def ZP:List Row:=[⟨0,[],21,[4]⟩,⟨1,[],22,[0]⟩,⟨2,[],23,[5]⟩,⟨3,[1,2],24,[21,22]⟩,⟨4,[3],25,[23]⟩,⟨5,[4],26,[24]⟩,⟨6,[0,5,5],27,[20,25]⟩,⟨7,[6],20,[26]⟩,⟨8,[7],28,[19]⟩,⟨9,[7],29,[19]⟩,⟨10,[],7,[]⟩,⟨11,[10,8,6,0,1,2,3,4,5,6,7,8,10],0,[6,27]⟩,⟨12,[9,11,0,1,2,3,4,5,6,7,8,9,10,11],8,[28]⟩]
theorem PL(v:Value)(Fs:List dh)(w:World)(hv:Forms w v Fs)(hF:∀F,F∈Fs->bI F/\dm F=true)(h12:Fs.length<=12):
 Calls prog 232 #[v] w (Y9 Fs w):=by
 obtain⟨a,cap,rfl,hcap,zz,-⟩:=id hv;obtain⟨W,hW,hx0,hb0,hz0⟩:=Ce w (.cells #[.slice none 0 0] 30);have ai9:=aW (Cv _ Fs 12 W (hv.ext hx0) (λF h=>(hF F h).1) (by omega) (by omega));have HF:=jm hv hF;have HOK:Hid ((Fs.length:Int)<=12/\∀F,F∈Fs->dm F=true):=aW ⟨by omega,λF h=>(hF F h).2⟩;clear hv hF h12 zz hcap;go_enter Tryz.func232,Tryz.ntmps232
 go_upto_region 1 with fail
 rw[<-hW];clear hW
 go_upto_region 4 with(first
  |(go_at_call 273;refine(Oh _).mono ?_;rintro e w2 ⟨vZ,rfl,hZ,hxz⟩;obtain⟨aZ,cZ,rfl⟩:=hZ.slice)
  |(go_at_call 233;refine ai9.out.mono ?_;rintro e w1 ⟨bb,rfl,hbb,hx1⟩;obtain rfl:bb=true:=hbb.2 HOK.out;clear hbb))
 obtain⟨V0,hV0,hxa,hp,OA⟩:=Ce w2 (.cells #[.slice aZ 1 cZ] 30);have QZ:=ah (ah hx1 hxz) hxa;have hb2:=ik QZ hb0;have hx2:=ah hx0 QZ;have hZ2:=hZ.ext hxa;have hp4:w.heap.size<w2.heap.size:=bg (bW hb0) (ah hx1 hxz).size;have hZ3:=hZ2.weaken (base':=w.heap.size+1) (by have:=hx1.size;omega);rw[<-hV0];clear hV0 hZ hZ2 hxz hx1 hxa QZ hb0 hx0 hz0 OA ai9;generalize w2.heap.size=p4 at *;have HP4:Hid (w.heap.size<p4):=aW hp4;go_upto_region 5 with fail
 go_loopw [5] (λii wr=>∃(i:Nat) (E:dh) (aE:Option Addr) (cE:Nat),ii=.int .i64 ((i:Nat):Int)/\i<=Fs.length/\Ext w wr/\wr.heap[w.heap.size]?=some (.cells #[.slice none 0 0] 30 (0,0))/\wr.heap[p4]?=some (.cells #[.slice aE E.length cE] 30 (0,0))/\dI wr (w.heap.size+1) (.slice aE E.length cE) E/\Hid (Acc false Fs i E/\bI E/\E.length<=120)) (λii _=>Fs.length-(intOf ii).toNat)
 case atStart=>exact⟨0,[([],[])],aZ,cZ,by go_num,aU _,hx2,hb2,hp,hZ3,aW ⟨rfl,IE.1,by simp⟩⟩
 case round=>
  clear hx2 hb2 hp hZ3;obtain⟨i,E,aE,cE,rfl,hi,hx,hb,hp,hN,Na⟩:=hrel;by_cases hlt:i<Fs.length
  .have hil:((i:Nat):Int)<((Fs.length:Nat):Int):=by omega
   obtain⟨bb,cap',aG,cG,e',-,hci,hG⟩:=(HF.out.1.ext hx).at hlt;simp only[il,true_and]at e';obtain⟨rfl,rfl⟩:=e';obtain⟨hIG,hfG⟩:=HF.out.2 _ (ai hlt);have kg:=aW hlt;obtain⟨G,eG⟩:=fu (Fs[i]'(kg.out));rw[<-eG]at hci hG hIG hfG;have EG:=aW eG;have k0:=bQ wr p4 0 _ _ _ hp;simp only[gE]at k0;have HG:=nY hG hIG (of_decide_eq_true hfG).2.1;have HN:=aW (hN.weaken (base':=0) (aU _));have mI:Hid (∀V,Ext wr V->V.cell? ⟨p4,0,none⟩=some (.slice aE E.length cE)/\V.cell? ⟨bb,i,none⟩=some (.slice aG G.length cG)):=aW λV hV=>⟨fw hV k0,fw hV hci⟩
   have HX:=nY hx hb hp;clear eG hlt hG hIG hfG hN hb hp hx;go_upto_region 7 with fail
   go_cut [6,7] (λx y wc=>∃(pb:Nat) (aS:Option Addr) (nS cS:Nat) (yU:Bool) (C:dh),x=.pointer (some ⟨pb,0,none⟩)/\y=.bool yU/\Ext wr wc/\wc.heap[pb]?=some (.cells #[.slice aS nS cS] 30 (0,0))/\Hid (fA C (bz G))/\Hid ((yU=true->∃S,nS=S.length/\bI S/\Same (bz S) (plus (bz E) (bz C))/\dm S=true/\(dm E=true/\dm C=true/\E.length*C.length<=1600)/\dI wc 0 (.slice aS nS cS) S)/\(yU=false->¬ROk E C)))
   case first=>
    have ae:=mI.out _ (eX wr);clear k0 hci;refine oJ (λV=>V.cell? ⟨p4,0,none⟩=some (.slice aE E.length cE)/\V.cell? ⟨bb,i,none⟩=some (.slice aG G.length cG)) [12] ZP ae (λaj ae=>?_);have hq:=eX wr;obtain⟨W,hWd⟩:=fu wr.drew;rw[<-hWd]at hq ae ⊢;clear hWd;(refine bP 0 aj ae ?_;refine bP 1 aj ae ?_;refine bP 2 aj ae ?_;refine bP 3 aj ae ?_;refine bP 4 aj ae ?_);have tV:=True.intro;refine gX aj (i:=5) (j:=10) (by kernel_rfl) ?fa1 ?fb1
    case' fb1=>
     (refine ui (i:=10) λK hK=>?_;go_simp);have ma:Ext W (W.alloc (.cells #[.slice none 0 0] 30)):=(by go_grown);have hA:=eu W (.cells #[.slice none 0 0] 30);have GN:wr.heap.size<=W.heap.size:=hq.size;replace hq:=ah hq ma;(try replace Kh:=Kh.ext ma);(try have hpb:pb<lo\/hi<=W.heap.size:=.inr (by rw[hhi];exact aJ _));(try have hpb:W.heap.size<lo\/hi<=W.heap.size:=.inr (by rw[hhi];exact aJ _));(try have HSX:Hid (yU=true->∃S,nS=S.length/\bI S/\Same (bz S) (plus (bz E) (bz C))/\dm S=true/\(dm E=true/\dm C=true/\E.length*C.length<=1600)/\oN (λb=>lo<=b/\b<hi) (λV=>dI V 0 (.slice aS nS cS) S) (W.alloc (.cells #[.slice none 0 0] 30))):=aW (λh=>by obtain⟨S,e1,e2,e3,e4,e5,e6⟩:=HS.out.1 h;exact⟨S,e1,e2,e3,e4,e5,e6.ext ma⟩));have ae:=mI.out _ hq;clear ma;generalize W.alloc (.cells #[.slice none 0 0] 30)=W1 at *;generalize W.heap.size=pb at *;obtain⟨W,rfl⟩:=fu W1;refine hK.out _ _ (λ_=>ae) ?_;clear hK K;(try simp only[nP]);clear tV
    case' fa1=>(refine ui (i:=5) λK hK=>?_;go_simp)
    all_goals
     first
      |(have hNP:=tV;clear hNP)
      |(refine jv aj (i:=5) λK hK=>?_;go_simp)
     refine(uC _ G W (HG.out.1.ext hq) HG.out.2.1.good (fV.2 HG.out.2.1.ne) (by have:=HG.out.2.2;omega)).mono ?_;rintro e w5 ⟨vC,C,gC,rfl,Kh,iC,sC,cC,eC,lC,hx5⟩;obtain⟨aC,Ej,rfl⟩:=Kh.slice;replace hq:=ah hq hx5;have Kh:=Kh.weaken (base':=0) (aU _);have HCF:=aW (show fA C (bz G) from⟨iC,gC,sC,cC,eC⟩);(try replace hA:=ik hx5 hA);clear iC sC cC eC lC hx5;have ae:=mI.out _ hq;obtain⟨W,rfl⟩:=fu w5;refine hK.out _ _ (λ_=>ae) ?_;clear hK K;(try simp only[nP])
    refine gX aj (i:=6) (j:=10) (by kernel_rfl) ?fa2 ?fb2
    case' fb2=>
     (refine ui (i:=10) λK hK=>?_;go_simp);have ma:Ext W (W.alloc (.cells #[.slice none 0 0] 30)):=(by go_grown);have hA:=eu W (.cells #[.slice none 0 0] 30);have GN:wr.heap.size<=W.heap.size:=hq.size;replace hq:=ah hq ma;(try replace Kh:=Kh.ext ma);(try have hpb:pb<lo\/hi<=W.heap.size:=.inr (by rw[hhi];exact aJ _));(try have hpb:W.heap.size<lo\/hi<=W.heap.size:=.inr (by rw[hhi];exact aJ _));(try have HSX:Hid (yU=true->∃S,nS=S.length/\bI S/\Same (bz S) (plus (bz E) (bz C))/\dm S=true/\(dm E=true/\dm C=true/\E.length*C.length<=1600)/\oN (λb=>lo<=b/\b<hi) (λV=>dI V 0 (.slice aS nS cS) S) (W.alloc (.cells #[.slice none 0 0] 30))):=aW (λh=>by obtain⟨S,e1,e2,e3,e4,e5,e6⟩:=HS.out.1 h;exact⟨S,e1,e2,e3,e4,e5,e6.ext ma⟩));have ae:=mI.out _ hq;clear ma;generalize W.alloc (.cells #[.slice none 0 0] 30)=W1 at *;generalize W.heap.size=pb at *;obtain⟨W,rfl⟩:=fu W1;refine hK.out _ _ (λ_=>ae) ?_;clear hK K;(try simp only[nP]);clear tV
    case' fa2=>(refine ui (i:=6) λK hK=>?_;go_simp)
    all_goals
     first
      |(have hNP:=tV;clear hNP)
      |(refine jv aj (i:=6) λK hK=>?_;go_simp)
     refine(Ve _ _ E C W (HN.out.ext hq) Kh Na.out.2.1 HCF.out.1).mono ?_;rintro e w6 ⟨aS,nS,cS,yU,rfl,hS1,hS2,hx6⟩;obtain⟨lo,hlo⟩:=fu W.heap.size;obtain⟨hi,hhi⟩:=fu w6.heap.size;(try have hpb:pb<lo\/hi<=pb:=.inl (by rw[hlo];exact bW hA));replace hq:=ah hq hx6;have CB:yU=true->∃S,nS=S.length/\bI S/\Same (bz S) (plus (bz E) (bz C))/\dm S=true/\(dm E=true/\dm C=true/\E.length*C.length<=1600)/\oN (λb=>lo<=b/\b<hi) (λV=>dI V 0 (.slice aS nS cS) S) w6:=λh=>by
      obtain⟨S,e1,e2,e3,e4,e5,e6⟩:=hS1 h;exact⟨S,e1,e3,e4,e5,e2,e6.sup (λb hb=>by rw[<-hhi];exact hb.2) (λb h1 h2=>⟨by rw[hlo];exact h1,by rw[hhi];exact h2⟩)⟩
     have HS:=jm CB hS2;(try replace hA:=ik hx6 hA);clear hS1 hS2 CB Kh hx6 hlo;have ae:=mI.out _ hq;obtain⟨W,rfl⟩:=fu w6;refine hK.out _ _ (λ_=>ae) ?_;clear hK K;(try simp only[nP])
    all_goals
     (refine bP 7 aj ae ?_;refine bP 8 aj ae ?_;refine bP 9 aj ae ?_)
    (refine jv aj (i:=10) λK hK=>?_;go_simp);have ma:Ext W (W.alloc (.cells #[.slice none 0 0] 30)):=(by go_grown);have hA:=eu W (.cells #[.slice none 0 0] 30);have GN:wr.heap.size<=W.heap.size:=hq.size;replace hq:=ah hq ma;(try replace Kh:=Kh.ext ma);(try have hpb:pb<lo\/hi<=W.heap.size:=.inr (by rw[hhi];exact aJ _));(try have hpb:W.heap.size<lo\/hi<=W.heap.size:=.inr (by rw[hhi];exact aJ _));(try have HSX:Hid (yU=true->∃S,nS=S.length/\bI S/\Same (bz S) (plus (bz E) (bz C))/\dm S=true/\(dm E=true/\dm C=true/\E.length*C.length<=1600)/\oN (λb=>lo<=b/\b<hi) (λV=>dI V 0 (.slice aS nS cS) S) (W.alloc (.cells #[.slice none 0 0] 30))):=aW (λh=>by obtain⟨S,e1,e2,e3,e4,e5,e6⟩:=HS.out.1 h;exact⟨S,e1,e2,e3,e4,e5,e6.ext ma⟩));have ae:=mI.out _ hq;clear ma;generalize W.alloc (.cells #[.slice none 0 0] 30)=W1 at *;generalize W.heap.size=pb at *;obtain⟨W,rfl⟩:=fu W1;refine hK.out _ _ (λ_=>ae) ?_;clear hK K;(try simp only[nP])
    all_goals
     have z1:=bQ W pb 0 _ _ _ hA;have z2:=gQ W pb 0 _ _ hA;simp only[gE]at z1;have Aq:=aW (gK W pb 0 _ _ (.slice aS nS cS) hA);have HQ:=nY hq GN hpb;have hS4:yU=true->∃S,nS=S.length/\bI S/\Same (bz S) (plus (bz E) (bz C))/\dm S=true/\(dm E=true/\dm C=true/\E.length*C.length<=1600)/\dI (W.setCell ⟨pb,0,none⟩ (.slice aS nS cS)) 0 (.slice aS nS cS) S:=by
      first
       |exact λh=>(HSX.out h).imp λS k=>⟨k.1,k.2.1,k.2.2.1,k.2.2.2.1,k.2.2.2.2.1,(k.2.2.2.2.2.keep (dH (p:=⟨pb,0,none⟩) (v:=.slice aS nS cS)) (λb hb e=>by have h1:=hb.1;have h2:=hb.2;have h3:b=pb:=e;omega)).out⟩
       |exact λh=>(HS.out.1 h).imp λS k=>⟨k.1,k.2.1,k.2.2.1,k.2.2.2.1,k.2.2.2.2.1,(k.2.2.2.2.2.keep (dH (p:=⟨pb,0,none⟩) (v:=.slice aS nS cS)) (λb hb e=>by have h1:=hb.1;have h2:=hb.2;have h3:b=pb:=e;omega)).out⟩
     have HS4:=aW hS4;clear hS4 hq hA hpb GN;(refine jv aj (i:=11) λK hK=>?_;go_simp);have ae:=mI.out _ (HQ.out.1.setCell (p:=⟨pb,0,none⟩) HQ.out.2.1 (.slice aS nS cS));refine hK.out _ _ (λ_=>ae) ?_;clear hK K;(try simp only[nP]);refine nQ aj [12] [_] ?_;clear aj ae z1 z2;go_wp2
     go_meet
     exact⟨pb,aS,nS,cS,yU,C,rfl,rfl,HQ.out.1.setCell (p:=⟨pb,0,none⟩) HQ.out.2.1 _,Aq.out,HCF,jm HS4.out HS.out.2⟩
   case rest=>
    obtain⟨pb,aS,nS,cS,yU,C,rfl,rfl,Cx,hpb,HCF,Et⟩:=hcut;have jQ:=ah HX.out.1 Cx;have hb:=ik Cx HX.out.2.1;have hp:=ik Cx HX.out.2.2;obtain⟨hS1,hS2⟩:=Et.out;clear k0 hci Cx;cases yU with
    |false=>
     have rq:Hid (∀E,¬Acc false Fs Fs.length E):=aW (BV kg.out (λE' k=>abt Na.out.1 (by rw[getD_at kg.out,<-EG.out];exact HCF.out) (hS2 rfl) k));have q1:=bQ wc w.heap.size 0 _ _ _ hb;have q2:=gQ wc w.heap.size 0 _ _ hb;have HB:=aW hb;have HE:=aW jQ;clear hb jQ hp hpb hS1 hS2;go_wp2
     refine mg w.heap.size 30 _ (gK _ w.heap.size 0 _ _ (.slice none 0 0) HB.out) underlying30 ?_;exact⟨none,0,0,false,rfl,(λh=>by cases h),(λ_=>rq.out),HE.out.setCell (p:=⟨w.heap.size,0,none⟩) (aJ _) _⟩
    |true=>
     obtain⟨S,rfl,iS,sS,fS,UD,XO⟩:=hS1 rfl;have k1:=bQ wc pb 0 _ _ _ hpb;simp only[gE]at k1;have Qe:=aW (uC _ S wc XO iS.good (fV.2 iS.ne) (by have:=(of_decide_eq_true fS).2.1;omega));have HH:=Ap iS sS fS UD;have HP:=nY hb hp jQ;have hwk:wrap64 ((i:Int)+1)=(i:Int)+1:=(by have:=HOK.out.1;have:=kg.out;unfold wrap64;omega);clear hS1 hS2 iS sS fS UD XO hb hp jQ hpb;go_wp2_with (go_at_call 30;refine Qe.out.mono ?_;rintro e w6 ⟨vD,D,gD,rfl,hND,iD,sD,cD,eD,lD,hx6⟩;obtain⟨aD,cpD,rfl⟩:=hND.slice;have OH:=ik hx6 HP.out.2.1;have z1:=bQ _ p4 0 _ _ _ OH;have z2:=gQ _ p4 0 _ _ OH;have HD:=Aw hND iD sD cD (And.intro eD (And.intro lD (And.intro hx6 OH)));clear hND iD sD cD eD lD hx6 OH)
     go_roundw
     case rel=>
      obtain⟨hND,iD,sD,cD,eD,lD,hx6,OH⟩:=HD.out;obtain⟨iS,sS,fS,UD⟩:=HH.out;have hpz:=bW HP.out.2.1;have hb6:=ik hx6 HP.out.1;refine⟨i+1,D,aD,cpD,by rw[hwk];rfl,kg.out,(ah HP.out.2.2 hx6).setCell (p:=⟨p4,0,none⟩) (by show w.heap.size<=p4;have:=HP4.out;omega) _,?_,gK _ p4 0 _ _ _ OH,(hND.set (p:=⟨p4,0,none⟩) hpz _).weaken (by have:=bW HP.out.1;omega),aW ⟨⟨E,C,S,Na.out.1,UD.1,by rw[getD_at kg.out,<-EG.out];exact HCF.out,UD.2.1,UD.2.2,iS,sS,fS,⟨iD,gD,sD,cD,eD⟩,λh=>by cases h⟩,iD,by have:=(of_decide_eq_true fS).2.1;omega⟩⟩;rw[tQ _ _ _ _ (by show w.heap.size≠p4;have:=HP4.out;omega)];exact hb6
     case measure=>
      have:=kg.out;rw[hwk];simp[intOf];omega
  .have hil:¬(((i:Nat):Int)<((Fs.length:Nat):Int)):=by omega
   have hie:i=Fs.length:=(by omega);subst hie;have k0:=bQ wr p4 0 _ _ _ hp;have q1:=bQ wr w.heap.size 0 _ _ _ hb;have q2:=gQ wr w.heap.size 0 _ _ hb;simp only[gE]at k0 q1;have HB:=aW hb;have HE:=aW hx;have HNN:=aW hN;have hNR:dI (wr.setCell ⟨w.heap.size,0,none⟩ (.slice aE E.length cE)) w.heap.size (.slice aE E.length cE) E:=(hN.set (p:=⟨w.heap.size,0,none⟩) (mO _) _).weaken (Nat.le_succ _);clear hb hx hp hN;go_wp2
   refine mg w.heap.size 30 #[.slice aE E.length cE] (gK _ w.heap.size 0 _ _ (.slice aE E.length cE) HB.out) underlying30 ?_;exact⟨aE,E.length,cE,true,rfl,λ_=>⟨E,rfl,Na.out.1,Na.out.2.1,Na.out.2.2,hNR⟩,λh=>(by cases h),HE.out.setCell (p:=⟨w.heap.size,0,none⟩) (aJ _) _⟩
end
