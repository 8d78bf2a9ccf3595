/-
  The tied card of FnBoards: for every code the law answers true; the tables that it reads are tied to the program's text. (7 texts.)
-/
import Derived.Test.YteknjeohbcgpdaaGreatDoorK52
import Derived.HandedShaped
import Derived.LaidMore
import Derived.Lay
import Derived.Test.YteknjeohbcgpdaaGreatDoorTie
import Derived.Test.YteknjeohbcgpdaaGreatDoorCards
set_option maxRecDepth 100000
namespace Go.Proofs.YteknjeohbcgpdaaGreatDoor
section
open Go.RowKit
open bO (dH Nd fw GB iG fr gB gX fD Cs)
variable {w:World}
theorem St.aar{W W':World}{bs:List (Value × List ByteArray)}{fs:List (Value × dH)}{l:List (Nat × Value × TypeId)}(h:St w W bs fs l)(e:Ext W W')(v:Value)(t:TypeId):St w (W'.alloc (.cells #[v] t)) bs fs ((W'.heap.size,v,t):: l):=by
 have hx:Ext W' (W'.alloc (.cells #[v] t)):=bS (Below.refl _ _) _;have k:=(h.go e).go hx;refine⟨k.ext,λx hx'=>?_,k.Ad,k.Zq⟩;rcases eT.1 hx' with rfl|hx'
 .exact heap_alloc_new _ _
 .exact k.box x hx'
theorem Qi{b:fw}{F:dH}{ok:Bool}(h:ES b F ok):F.length<=1000000/\∀i (hi:i<F.length),(F[i]).1.length<=1000000/\(F[i]).2.length<=1000000:=by
 rcases h with⟨_,_,F',h1,h2,h3⟩|⟨_,_,h3⟩
 .cases ok with
  |false=>simp at h3;subst h3;exact⟨by simp,λi hi=>absurd hi (by simp)⟩
  |true=>simp at h3;subst h3;exact F9 h2.symm
 .subst h3;exact⟨by simp,λi hi=>absurd hi (by simp)⟩
theorem Rows.ac5{S:Nat->Prop}{v:Value}{Fs:List dH}(h:Rows pU 1 S w v Fs)(hb:Fs.length<=1000):rQ w v Fs:=by
 obtain⟨xs,a,cap,rfl,h1,h2,h3,h4⟩:=h;have hl:xs.length=Fs.length:=by have:=h3.1;omega
 refine⟨xs,⟨a,cap,by rw[hl],by omega,by omega,λh0=>?_⟩,hl,λi hi hi'=>?_⟩
 .obtain⟨b,rfl,_,hc⟩:=h4 (by omega)
  exact⟨b,0,rfl,λi hi=>by rw[jf,hc i (by omega),aa hi]⟩
 .obtain⟨aN,cN,e,hN⟩:=h3.2.out i hi'
  have:=CV e;rw[aa hi]at this;injection this with this;rw[this];exact hN
def GA:List Row:=[⟨0,[],118,[19]⟩,⟨1,[0],119,[117]⟩,⟨2,[1],120,[118]⟩,⟨3,[2],121,[12,119]⟩,⟨4,[2],122,[17,119]⟩,⟨5,[3,4,2],123,[120,121,119]⟩,⟨6,[5,2],124,[122,119]⟩,⟨7,[6,2],125,[123,119]⟩,⟨8,[2],126,[14,119]⟩,⟨9,[2],127,[17,119]⟩,⟨10,[8,9,2],128,[125,126,119]⟩,⟨11,[10,2],129,[127,119]⟩,⟨12,[11,2],130,[128,119]⟩,⟨13,[7,12,2,2],131,[124,129,119]⟩,⟨14,[13,2],132,[130,119]⟩,⟨15,[2,14],133,[119,131]⟩]
set_option maxHeartbeats 4000000 in
theorem KX(v:Value)(us:List Nat)(m:Int)(w:World)(hv:lN w v (Ia us))(hs:∀u,u∈us->u<256)(hm:w.cell? ⟨0,0,none⟩=some (.int .i64 m)):
 Calls Tryz.prog 6 #[v] w λe w'=>e=.returned (.bool true)/\Ext w w':=by
 obtain⟨a,cap,rfl,-,-,-⟩:=id hv;by_cases hbig:(65536:Int)<(((Ia us).length:Nat):Int)
 .go_enter Tryz.func6,Tryz.ntmps6
  go_wp2_with (go_at_call 16;refine(Jz _ _ _ _).mono ?_;rintro e w1 ⟨he,hx1⟩;rw[decide_eq_true hbig]at he;subst he)
  go_ret
  exact⟨rfl,hx1⟩
 .go_enter Tryz.func6,Tryz.ntmps6
  go_upto_region 3 with(go_at_call 16;refine(Jz _ _ _ _).mono ?_;rintro e w1 ⟨he,hx1⟩;rw[decide_eq_false hbig]at he;subst he)
  go_upto_region 4 with(go_at_call 26;refine(DZ _ us _ (hv.ext hx1) hs).mono ?_;rintro e w2 ⟨vb,ss,rfl,hb,hl9,aeZ,hx2⟩;obtain⟨ab,cb,rfl,-,-⟩:=hb.open)
  have H:St w (w2.alloc (.cells #[.slice ab ss.length cb] 31)) [(.slice ab ss.length cb,ss)] [] [(w2.heap.size,.slice ab ss.length cb,31)]:=St.pushB ⟨hx1,λx hx=>absurd hx (by simp),λx hx=>absurd hx (by simp),λx hx=>absurd hx (by simp)⟩ hx2 (λ_=>hb) _;have ahl:=aQ (And.intro hm hv);have HL:Hid (ss.length<=1048576/\∀s,s∈ss->s.size<=1048576):=aQ ⟨by omega,λs hs=>by have:=aeZ s hs;omega⟩;have RB:Hid (ss.length<=1000000):=aQ (by omega);clear hbig hx1 hx2 hb aeZ hs hm hv;generalize w2.alloc (.cells #[.slice ab ss.length cb] 31)=W2 at *;generalize w2.heap.size=pb at *;have c0:=H.cell (mX ..);have HC:∀W',Ext w W'->W'.cell? ⟨0,0,none⟩=some (.int .i64 m):=λW' hx=>(hx.cell (lt_of_cell ahl.out.1)).trans ahl.out.1
  cases hg:iG (bd ss)with
  |false=>
   go_upto_region 5 with(go_at_call 32;refine(uZ _ ss _ (H.Ad _ (mX ..) RB.out) HL.out.1 HL.out.2).mono ?_;rintro e w3 ⟨so,he,-,hso,hx3⟩;rw[hg]at he;subst he;have hso:=hso hg;subst hso)
   have H:=H.go hx3;clear c0 hx3;go_upto_region 6 with(go_at_call 33;refine(uY _ m _ (.inl rfl) (HC _ H.ext)).mono ?_;rintro e w4 ⟨aR,nR,cR,okR,rfl,-,hx4⟩)
   have H:=H.aar hx4 (.slice aR nR cR) 31;clear hx4;generalize w4.alloc (.cells #[.slice aR nR cR] 31)=W4 at *;generalize w4.heap.size=pR at *;have c0:=H.cell (p:=pb) (v:=.slice ab ss.length cb) (t:=31) (by simp);go_upto_region 7 with(go_at_call 10;refine(qA _ ss m _ (H.Ad (.slice ab ss.length cb,ss) (by simp) RB.out) HL.out.1 HL.out.2 (HC _ H.ext)).mono ?_;rintro e w5 ⟨vF,F,ok,sF,rfl,hRF,hOF,hx5⟩;obtain⟨aF,cF,rfl⟩:=hOF.top;obtain⟨rfl,rfl⟩:=GI hRF (.inl hg))
   have H:=H.Ow hx5 (Kw hRF hOF) 28;clear c0 hx5 hOF hRF;generalize w5.alloc (.cells #[.slice aF (List.length (α:=Nd) []) cF] 28)=W5 at *;generalize w5.heap.size=pf at *;have c0:=H.cell (p:=pb) (v:=.slice ab ss.length cb) (t:=31) (by simp);go_upto_region 8 with(go_at_call 8;refine(uU _ ss _ (H.Ad (.slice ab ss.length cb,ss) (by simp) RB.out) HL.out.1 HL.out.2).mono ?_;rintro e w6 ⟨vG,G,okG,rfl,XT,hRG,hx6⟩;obtain⟨aG,cG,rfl⟩:=XT.slice;obtain⟨rfl,rfl⟩:=GI hRG (.inl hg))
   have H:=H.Ow hx6 XT 28;clear c0 hx6 XT hRG;generalize w6.alloc (.cells #[.slice aG (List.length (α:=Nd) []) cG] 28)=W6 at *;generalize w6.heap.size=pg at *;have c0:=H.cell (p:=pb) (v:=.slice ab ss.length cb) (t:=31) (by simp)
   go_wp2_with (first
    |(go_at_call 22;refine(yw (.slice aF (List.length (α:=Nd) []) cF) (.slice aG (List.length (α:=Nd) []) cG) [] w7 (H7.Zq (.slice aF (List.length (α:=Nd) []) cF,[]) (by simp)) (H7.Zq (.slice aG (List.length (α:=Nd) []) cG,[]) (by simp)) (by simp) (λi hi=>absurd hi (by simp))).mono ?_;rintro e w8 ⟨rfl,UD⟩)
    |(go_at_call 30;refine(jG _ ss _ (H.Ad (.slice ab ss.length cb,ss) (by simp) RB.out) HL.out.1 HL.out.2).mono ?_;rintro e w7 ⟨he,hx7⟩;rw[hg]at he;subst he;have H7:=H.go hx7;have f0:=H7.cell (p:=pf) (v:=.slice aF (List.length (α:=Nd) []) cF) (t:=28) (by simp);have g0:=H7.cell (p:=pg) (v:=.slice aG (List.length (α:=Nd) []) cG) (t:=28) (by simp)))
   go_ret
   exact⟨rfl,ax H7.ext UD⟩
  |true=>
   obtain⟨hh,ww,g⟩:=bO.nK.1 hg;go_upto_region 5 with(go_at_call 32;refine(uZ _ ss _ (H.Ad _ (mX ..) RB.out) HL.out.1 HL.out.2).mono ?_;rintro e w3 ⟨so,he,hso,-,hx3⟩;rw[hg]at he;subst he;have hso:=hso hg)
   have H:=H.go hx3;clear c0 hx3;go_upto_region 6 with(go_at_call 33;refine(uY _ m _ (.inr ⟨_,hh,ww,g,hso⟩) (HC _ H.ext)).mono ?_;rintro e w4 ⟨aR,nR,cR,okR,rfl,hRB,hx4⟩;obtain⟨rfl,sR,rfl,hsR,hRS⟩:=hRB _ hh ww g hso;obtain rfl:=NJ hsR)
   have H:=H.pushB hx4 (λ_=>hRS) 31;clear hx4 hRS hRB hso hsR;generalize w4.alloc (.cells #[.slice aR sR.length cR] 31)=W4 at *;generalize w4.heap.size=pR at *;have c0:=H.cell (p:=pb) (v:=.slice ab sR.length cb) (t:=31) (by simp);go_upto_region 7 with(go_at_call 10;refine(qA _ sR m _ (H.Ad (.slice ab sR.length cb,sR) (by simp) RB.out) HL.out.1 HL.out.2 (HC _ H.ext)).mono ?_;rintro e w5 ⟨vF,F,ok,sF,rfl,hRF,hOF,hx5⟩;obtain⟨aF,cF,rfl⟩:=hOF.top)
   have H:=H.Ow hx5 (Kw hRF hOF) 28;clear c0 hx5 hOF;generalize w5.alloc (.cells #[.slice aF F.length cF] 28)=W5 at *;generalize w5.heap.size=pf at *;have c0:=H.cell (p:=pb) (v:=.slice ab sR.length cb) (t:=31) (by simp);go_upto_region 8 with(go_at_call 8;refine(uU _ sR _ (H.Ad (.slice ab sR.length cb,sR) (by simp) RB.out) HL.out.1 HL.out.2).mono ?_;rintro e w6 ⟨vG,G,okG,rfl,XT,hRG,hx6⟩;obtain⟨aG,cG,rfl⟩:=XT.slice;obtain⟨rfl,rfl⟩:=hRF.unique hRG)
   have H:=H.Ow hx6 XT 28;have HRF:=aQ hRF;clear c0 hx6 XT hRG hRF;generalize w6.alloc (.cells #[.slice aG F.length cG] 28)=W6 at *;generalize w6.heap.size=pg at *;have hres:=Qi HRF.out;have hr1:∀V,Ext W6 V->Calls Tryz.prog 30 #[.agg #[.slice ab sR.length cb]] V λe w'=>e=.returned (.bool true)/\Ext V w':=λV hV=>by
    have k:=jG (.slice ab sR.length cb) sR V ((H.go hV).Ad (.slice ab sR.length cb,sR) (by simp) RB.out) HL.out.1 HL.out.2;rw[hg]at k;exact k
   have hr2:∀V,Ext W6 V->Calls Tryz.prog 24 #[.slice aR sR.length cR,.slice ab sR.length cb] V λe w'=>e=.returned (.bool true)/\Ext V w':=λV hV=>Bu _ _ sR V ((H.go hV).Ad (.slice aR sR.length cR,sR) (by simp) RB.out) ((H.go hV).Ad (.slice ab sR.length cb,sR) (by simp) RB.out) RB.out
   have hr3:∀V,Ext W6 V->Calls Tryz.prog 22 #[.agg #[.slice aF F.length cF],.agg #[.slice aG F.length cG]] V λe w'=>e=.returned (.bool true)/\Ext V w':=λV hV=>yw _ _ F V ((H.go hV).Zq (.slice aF F.length cF,F) (by simp)) ((H.go hV).Zq (.slice aG F.length cG,F) (by simp)) hres.1 hres.2
   have hcs:∀V,Ext W6 V->V.cell? ⟨pb,0,none⟩=some (.slice ab sR.length cb)/\V.cell? ⟨pR,0,none⟩=some (.slice aR sR.length cR)/\V.cell? ⟨pf,0,none⟩=some (.slice aF F.length cF)/\V.cell? ⟨pg,0,none⟩=some (.slice aG F.length cG):=λV hV=>⟨(H.go hV).cell (p:=pb) (v:=.slice ab sR.length cb) (t:=31) (by simp),(H.go hV).cell (p:=pR) (v:=.slice aR sR.length cR) (t:=31) (by simp),(H.go hV).cell (p:=pf) (v:=.slice aF F.length cF) (t:=28) (by simp),(H.go hV).cell (p:=pg) (v:=.slice aG F.length cG) (t:=28) (by simp)⟩
   have hq0:Ext W6 W6:=Below.refl _ _;obtain⟨d1,d2,d3,d4⟩:=hcs _ hq0;have HR:=aQ (And.intro hr1 (And.intro hr2 (And.intro hr3 hcs)));have HH:=aQ H;have hgd:(ok != ok)=false:=(by simp);clear hr1 hr2 hr3 hcs hres H
   go_upto_region 10 with(first
    |(go_at_call 22;refine(HR.out.2.2.1 _ hq2).mono ?_;rintro e w9 ⟨rfl,UC⟩;have hq3:=ax hq2 UC)
    |(go_at_call 24;refine(HR.out.2.1 _ hq1).mono ?_;rintro e w8 ⟨rfl,UD⟩;have hq2:=ax hq1 UD;obtain⟨f1,f2,f3,f4⟩:=HR.out.2.2.2 _ hq2)
    |(go_at_call 30;refine(HR.out.1 _ hq0).mono ?_;rintro e w7 ⟨rfl,hx7⟩;have hq1:=ax hq0 hx7;obtain⟨e1,e2,e3,e4⟩:=HR.out.2.2.2 _ hq1))
   by_cases h9:gX (bd sR)<=9
   .obtain⟨rfl,hFF,hfF⟩:=Jv HRF.out g h9
    have HFF:=aQ (And.intro hFF hfF);have H:=HH.out.go hq3;clear hFF hfF d1 d2 d3 d4 hq0 hgd;have c0:=H.cell (p:=pb) (v:=.slice ab sR.length cb) (t:=31) (by simp);go_upto_region 13 with(go_at_call 34;refine(Mr _ sR hh ww _ (H.Ad (.slice ab sR.length cb,sR) (by simp) RB.out) HL.out.1 HL.out.2 g).mono ?_;rintro e w12 ⟨vP,ks,ys,rfl,hRP,Kq,xE⟩;obtain⟨xsP,aP,cP,rfl,-⟩:=id hRP)
    have H:=H.go xE;clear c0 xE;have c0:=H.cell (p:=pb) (v:=.slice ab sR.length cb) (t:=31) (by simp);go_upto_region 14 with(go_at_call 35;refine(ED _ sR hh ww _ (H.Ad (.slice ab sR.length cb,sR) (by simp) RB.out) HL.out.1 HL.out.2 g).mono ?_;rintro e w13 ⟨vM,PL,h2,w2',ks2,rfl,hRM,hPT,agx,aga,abW⟩;obtain⟨xsM,aM,cM,rfl,-⟩:=id hRM)
    have H:=H.go abW;have hRP:=hRP.ext abW;obtain⟨rfl,rfl⟩:=agJ g agx;have hys:=(Kq.unique aga).symm;rw[hys]at hRM;have hyl:PL.length=ys.length:=(by rw[<-hys,bD]);rw[hyl];obtain⟨hy9,hyb,hsum⟩:=TL hPT (by rw[bO.AR g];exact h9) hys;have HY:=aQ (And.intro hyb hsum);clear c0 abW hyb hsum Kq aga hPT agx hys h9 g hyl;have hyn:(((ys.length:Nat):Int) != ((ys.length:Nat):Int))=false:=(by simp);have aiZ:¬((12:Int)<((ys.length:Nat):Int)):=(by omega);go_upto_region 17 with fail
    obtain⟨WL,hWL⟩:∃WL,WL=w13:=⟨_,rfl⟩;rw[<-hWL]at H hRP hRM ⊢;clear hWL;have hr0:=World.ownsRow_made WL (base:=WL.heap.size) (e:=28) (size:=1) #[] 0 (ay _) (by decide) (by simp);have hxl:Ext WL (WL.alloc (.cells #[] 28)):=bS (Below.refl _ _) _;have HH:=aQ H;have HRP:=aQ hRP;have HRM:=aQ hRM;have QT:Items pU (KS WL (WL.alloc (.cells #[] 28)) (.slice (some ⟨WL.heap.size,0,none⟩) 0 0)) 1 [] [] (WL.alloc (.cells #[] 28)):=Items.nil λb hb=>hb.2.1
    obtain⟨i0,hi0,hz0',hz1',hz2'⟩:=info_parts FW;clear H hRP hRM hyn aiZ;generalize hWe:WL.alloc (.cells #[] 28)=We at *;clear hWe;go_wp2
    go_loopw [16,17,18,19] (λov ii _ _ wr=>∃(i:Nat) (Fs:List dH) (xs:List Value),ii=.int .i64 ((i:Nat):Int)/\i<=ys.length/\Ext WL wr/\wr.ownsRow WL.heap.size 28 1 ov Fs.length xs/\Items pU (KS WL wr ov) 1 xs Fs wr/\Hid (Fs.length=i/\∀j (hj:j<Fs.length) (hj':j<ys.length),fO Fs[j] (gB (fr ys[j]))/\iQ Fs[j]=true)) (λ_ ii _ _ _=>ys.length-(intOf ii).toNat)
    case atStart=>exact⟨0,[],[],rfl,aJ _,hxl,hr0,QT,aQ ⟨rfl,λj hj=>absurd hj (by simp)⟩⟩
    case round=>
     clear hxl hr0 QT;obtain⟨i,Fs,xs,rfl,hi,hx,ho,hIt,HF⟩:=hrel;by_cases hlt:i<ys.length
     .have hil:((i:Nat):Int)<((ys.length:Nat):Int):=by omega
      have fJ:=aQ hlt;obtain⟨bP,asw,aU,cU,sk,he,-,cl,hbd,R4⟩:=(HRP.out.ext hx).Ad hlt;simp only[Value.slice.injEq,true_and]at he;obtain⟨rfl,rfl⟩:=he;obtain⟨bM,asx,aV,cV,sk2,he,-,cm,afT,hIV⟩:=(HRM.out.ext hx).Ad hlt;simp only[Value.slice.injEq,true_and]at he;obtain⟨rfl,rfl⟩:=he;obtain rfl:=NJ (afT.trans hbd.symm);obtain⟨⟨h',w',gk⟩,nk⟩:=HY.out.1 i hlt;rw[<-hbd]at gk nk;have hS:=R4.out;have hS2:=hIV.out;have hsm:=Jm gk;have hbk:bd sk2=ys[i]'(fJ.out):=hbd;have Z6:=aQ (And.intro gk (And.intro nk hbk));clear hlt hbd afT R4 hIV gk nk hbk;have hE:=ax HH.out.ext hx;go_upto_region 21 with(go_at_call 10;refine(qA _ sk2 m _ hS hsm.2.1 hsm.2.2 (HC _ hE)).mono ?_;rintro e w1 ⟨vX,X,okX,slX,rfl,hRX,hOX,hx1⟩;obtain⟨aX,cX,rfl⟩:=hOX.top)
      obtain⟨rfl,hFX,hfX⟩:=Jv hRX Z6.out.1 Z6.out.2.1;have hxb:Ext w1 (w1.alloc (.cells #[.slice aX X.length cX] 28)):=bS (Below.refl _ _) _;have hpx:=heap_alloc_new w1 (.cells #[.slice aX X.length cX] 28);have UK:=(Hu hfX hOX).sup (S:=λb=>wr.heap.size<=b/\b<w1.heap.size) (λb hb=>hb.2) (λb h1 h2=>⟨h1,h2⟩);have hzb:(w1.alloc (.cells #[.slice aX X.length cX] 28)).heap.size=w1.heap.size+1:=eQ _ _;have aaC:=UK.ext hxb;have hx2:=ax hx1 hxb;have n1:=(hx2.cell (lt_of_cell cl)).trans cl;have n2:=(hx2.cell (lt_of_cell cm)).trans cm;have tC:=hS.ext hx2;have Pb:=hS2.ext hx2;have Ey:=aQ hx2;have HFX:=aQ (And.intro hFX hfX);have alH:=aQ aaC;have hzz:=hx1.size;obtain⟨ao,co,rfl,-,-⟩:=bH ho;have HIT:=aQ (And.intro hIt ho);have HXr:=aQ hx;clear hxb UK aaC hx1 hOX hRX hFX hfX hS hS2 cl cm hIt ho hE hx hx2;generalize w1.alloc (.cells #[.slice aX X.length cX] 28)=W1 at *;generalize w1.heap.size=px at *;refine bV (λW=>W.cell? ⟨bP,i,none⟩=some (.slice aU sk2.length cU)/\W.cell? ⟨bM,i,none⟩=some (.slice aV sk2.length cV)) [14,15] GA (by kernel_rfl) ⟨by kernel_rfl,by kernel_rfl,by kernel_rfl⟩ ⟨n1,n2⟩ (λaz ah=>?_);(refine bT 0 az ah ?_;refine bT 1 az ah ?_;refine bT 2 az ah ?_;refine bT 3 az ah ?_;refine bT 4 az ah ?_;refine bT 5 az ah ?_;refine bT 6 az ah ?_;refine bT 7 az ah ?_;refine bT 8 az ah ?_;refine bT 9 az ah ?_;refine bT 10 az ah ?_;refine bT 11 az ah ?_;refine bT 12 az ah ?_);(refine nM az (i:=13) λK hK=>?_;go_simp);refine(Bu _ _ sk2 _ (by exact tC.ext (by exact⟨rfl,rfl,rfl,ay _,λ_ _=>rfl⟩)) (by exact Pb.ext (by exact⟨rfl,rfl,rfl,ay _,λ_ _=>rfl⟩)) hsm.1).mono ?_;rintro e w2 ⟨rfl,hx3⟩;have hx4:Ext W1 w2:=ax (by exact⟨rfl,rfl,rfl,ay _,λ_ _=>rfl⟩) hx3;clear hx3;(refine hK.out _ _ (λ_=>?_) ?_)
      .exact⟨(hx4.cell (lt_of_cell n1)).trans n1,(hx4.cell (lt_of_cell n2)).trans n2⟩
      clear hK K n1 n2 tC Pb;(try simp only[nP]);refine nU az [14,15] [_,_] ?_;have hp2:=(hx4.block _ (bu hpx)).trans hpx;have p0:=cell_of_row w2 px 0 _ _ _ hp2;have EL:=hx4.size;have hfl:Fs.length<=9:=(by have:=HF.out.1;have:=fJ.out;omega);have QL:Ext wr w2:=ax Ey.out hx4;have hown2:=bY HIT.out.2 QL;have apO:=QL.size;have hzl:=HXr.out.size;clear hp2 hpx;go_wp2_with (at_builtin;refine dC rfl (.tmp 133) (.tmp 135) 47 rfl WL.heap.size 28 i0 (.agg #[.slice none 0 0]) 1 24 Tryz.underlying47 hi0 hz0' hz1' hz2' rfl (by decide) (.slice ao Fs.length co) Fs.length xs rfl (hown2.alloc _) _ 1 _ [.slice aX X.length cX] rfl rfl (.inr ⟨_,rfl,dJ (dh _ _ _)⟩) mD (by unfold maxLen;omega) (by omega) (by rw[eQ];omega) ?_;intro v5 w5 iT hg5 hl5)
      go_roundw
      case rel=>
       have hn:nN (λb=>wr.heap.size<=b/\b<w2.heap.size) (λW=>pU W [.slice aX X.length cX] X) w2:=(alH.out.ext hx4).mono (λb hb=>⟨hb.1,by omega⟩) (λb hb=>hb.2) (λW h=>⟨aX,cX,rfl,h⟩);refine⟨i+1,Fs++[X],xs++[.slice aX X.length cX],by go_num,fJ.out,dS (bS (ax HXr.out QL) _) hg5 (λq hq=>(HIT.out.2.lt q hq).1),by rw[aK];exact iT,Items.push HIT.out.1 HXr.out QL HIT.out.2 rfl hn hg5 hl5,aQ ⟨by rw[aK,HF.out.1];rfl,λj hj hj'=>?_⟩⟩;by_cases c:j<Fs.length
       .rw[dw c];exact HF.out.2 j c hj'
       .have e:j=i:=by have:=HF.out.1;simp at hj;omega
        have e2:=HF.out.1;subst e;rw[dU (by omega)];simp only[List.getElem_singleton];rw[<-Z6.out.2.2];exact HFX.out
      case measure=>have:=fJ.out;simp[intOf];omega
     .have hil:¬(((i:Nat):Int)<((ys.length:Nat):Int)):=by omega
      have hie:i=ys.length:=(by omega);have Gq:=aQ hie;have hfl:Fs.length<=9:=(by have:=HF.out.1;omega);obtain⟨ao,co,rfl,-,-⟩:=bH ho;have Pf:rQ wr (.slice ao Fs.length co) Fs:=(Rows.eD (T:=λb=>b<wr.heap.size) ho rfl hIt (λb hb=>hb.2.1) (λb hb=>(ho.lt b hb).2) (λb hb=>hb)).ac5 (by omega);have hFs:∀F,F∈Fs->bO.fC F/\iQ F=true:=λF hF=>by
       obtain⟨j,hj,rfl⟩:=aW.1 hF;have:=HF.out.2 j hj (by have:=HF.out.1;have:=Gq.out;omega);exact⟨this.1.1,this.2⟩
      have H:=HH.out.go hx;have hsum:=HY.out.2 Fs (by rw[HF.out.1,Gq.out]) (λj hj hj'=>(HF.out.2 j hj hj').1);have HSM:=aQ hsum;clear hsum hie hlt ho hIt hx hi;go_upto_region 25 with(go_at_call 25;refine(Ig _ Fs _ Pf hFs).mono ?_;rintro e w3 ⟨aE,nE,cE,okE,rfl,hEE,hx3⟩)
      have H3:=H.aar hx3 (.slice aE nE cE) 28;have hx4:Ext w3 (w3.alloc (.cells #[.slice aE nE cE] 28)):=bS (Below.refl _ _) _;cases okE with
      |false=>
       clear H hx3 Pf;generalize w3.alloc (.cells #[.slice aE nE cE] 28)=W3 at *;go_wp2
       go_ret
       exact⟨rfl,H3.ext⟩
      |true=>
       obtain⟨E,rfl,hEF,hfE,hNE⟩:=hEE rfl;have agj:=hNE.ext hx4;obtain rfl:E=F:=(hEF.to HSM.out).unique HFF.out.1;have hlE:=F9 hfE;clear H hx3 Pf hEE hNE hx4;generalize w3.alloc (.cells #[.slice aE E.length cE] 28)=W3 at *;generalize w3.heap.size=pE at *;have k1:=H3.cell (p:=pE) (v:=.slice aE E.length cE) (t:=28) (by simp);have k2:=H3.cell (p:=pf) (v:=.slice aF E.length cF) (t:=28) (by simp);have hr:=yw _ _ E W3 agj (H3.Zq (.slice aF E.length cF,E) (by simp)) hlE.1 hlE.2;have PO:=aQ H3.ext;clear H3 agj;go_wp2_with (go_at_call 22;refine hr.mono ?_;rintro e w4 ⟨rfl,hx5⟩)
       go_ret
       exact⟨rfl,ax PO.out hx5⟩
   .obtain⟨rfl,-⟩:=GI HRF.out (.inr h9)
    go_wp2
    go_ret
    exact⟨rfl,ax HH.out.ext hq3⟩
end
section
open Go.RowKit Go.ChangeShapes Go.WideShapes Go.ChangeAt
theorem JN{H:Type}{enc:TypeId × Value->H}{a:Assume}{C:Checked}{os:Os}{f:FuncId}{fn:Func}{s:ChangeSpec}{conds:List PathCond}{apart fresh handsOn again:Bool}{X:World->Array Value->Prop}
 (hX:∀(w w':World) (args:Array Value),w.heap=w'.heap->X w args->X w' args)
 (own:ownKnob C.prog.godebug=none) (started:os.Started) (noInit:C.prog.inits.idxOf? f=none) (hfn:C.prog.funcs[f]?=some fn)
 (witness:∃(w:World) (tape:Tape) (i:Input),w.os=os/\(w.forCall tape i).Shaped C.prog/\i.vars=[]/\Input.okWide C.prog (w.forCall tape i) .any w.heap.size f i/\
  ((s.pre enc C.prog fn conds apart (w.forCall tape i).memory i.args/\X (w.forCall tape i).memory i.args)/\sizedMet enc C.prog fn (OpenSpec.ofChange s) apart (w.forCall tape i).memory i.args)/\a.holds C.prog (lone (Frame.enter C.prog f i.args .normal) [] (w.forCall tape i)))
 (contract:∀(W:World) (base:Nat) (args:Array Value) (ds gs:List (DataW H)) (before:List MemPlace),
  (∀(j:Nat) t v,fn.params[j]?=some t->args[j]?=some v->Value.okWide C.prog W .any base t v)->
  DataW.Whole enc C.prog fn.params.toList s.vars apart W args.toList ds gs before->
  conds.all (PathCond.test C.prog ⟨fn.params.toList,ds,s.plain.varTypes C.prog,gs⟩)=true->
  (DataW.weightsEach C.prog (fn.params.toList++s.plain.varTypes C.prog) (ds++gs)).all (·<=reachBytes)=true->X W args->W.ShapedOpen C.prog->
  a.holds C.prog (lone (Frame.enter C.prog f args .normal) [] W)->
  Calls C.prog f args W λe W'=>∃v,e=.returned v/\s.post enc C.prog fn apart fresh handsOn again W args v W'):
 ReturnsInHanded a C os f .any (λw args=>(s.pre enc C.prog fn conds apart w args/\X w args)/\sizedMet enc C.prog fn (OpenSpec.ofChange s) apart w args) (s.post enc C.prog fn apart fresh handsOn again):=by
 refine returnsInHanded_of_calls own started noInit witness ?_;intro w tape i _ hsh _ hok hpre hholds;obtain⟨_,_,_,fn',hfn',_,_,_,_,hval⟩:=hok;have e:fn'=fn:=Option.some.inj (hfn'.symm.trans hfn);subst e;obtain⟨⟨⟨ds,gs,before,hw,hc⟩,hx⟩,hz⟩:=hpre;have hw':=DataW.Whole.of_heap (w':=w.forCall tape i) (by rfl) hw;refine(contract (w.forCall tape i) w.heap.size i.args ds gs before hval hw' hc (hz.weights hw) (hX _ _ _ (by rfl) hx) hsh hholds).mono λe W' ⟨v,he,hp⟩=>?_
 subst he;exact ChangeSpec.post_blind hp
end
section
open Go.RowKit Go.ChangeShapes Go.WideShapes Go.ChangeAt
variable {W:World}
theorem aao{n:Int}(h:(Lit.int .u8 n).wf=true):0<=n/\n<256:=by
 have:IntKind.u8.min<=n/\n<=IntKind.u8.max:=by simpa [Lit.wf]using h
 have e1:IntKind.u8.min=0:=rfl;have e2:IntKind.u8.max=255:=rfl;omega
theorem Ra{H:Type}{enc:TypeId × Value->H}{b0:Nat}{v:Value}{d:DataW H}{p:List MemPlace}(hv:Value.okWide Tryz.prog W .any b0 38 v)(h:DataW.Trod enc Tryz.prog W 0 (λ_=>true) true 38 v d p):
 ∃us:List Nat,(∀u,u∈us->u<256)/\((DataW.weightsEach Tryz.prog [38] [d]).all (·<=reachBytes)=true->lN W v (Ia us)):=by
 obtain⟨a0,l0,c0,rfl⟩:=okWide_slice Tryz.underlying38 hv;obtain⟨fuel,hf⟩:=h;have hf':DataW.trod enc Tryz.prog W 0 (λ_=>true) true fuel 38 [.slice a0 l0 c0]=some (d,p):=by simpa [Value.cells]using hf
 rcases open_ints Tryz.underlying38 Tryz.underlying5 (by kernel_rfl) hf' with⟨hcs,hx0⟩|⟨a,len,cap,zs,hcs,hb,hl,hm,hz,hx0,hcell,hwf⟩
 .simp only[jQ,Value.slice.injEq,and_true]at hcs
  obtain⟨rfl,rfl,rfl⟩:=hcs;exact⟨[],λu hu=>absurd hu (by simp),λ_=>lN.nil _ _ _⟩
 .simp only[jQ,Value.slice.injEq,and_true]at hcs
  obtain⟨rfl,rfl,rfl⟩:=hcs;simp only[if_true]at hz;simp only[Prod.mk.injEq]at hx0;obtain⟨rfl,-⟩:=hx0;refine⟨(zs.take l0).map Int.toNat,λu hu=>?_,λhw=>?_⟩
  .obtain⟨z,hz',rfl⟩:=aH.1 hu
   have:=aao (hwf z (dY hz'));omega
  .have hlen:l0*1<=reachBytes:=by
    have h2:=Go.sized_slice hw (j:=0) rfl rfl Tryz.underlying38;have h3:(Tryz.prog).bytesOf 5=1:=(by kernel_rfl);rw[h3]at h2;have h4:(lits IntKind.u8 (zs.take l0):List (DataW H)).length=l0:=(by simp[lits];omega);rw[h4]at h2;omega
   have hr:reachBytes=140737488351232:=rfl;have hzl:(Ia ((zs.take l0).map Int.toNat)).length=l0:=(by simp[Ia];omega);refine⟨some a,c0,by rw[hzl],by omega,by omega,λh0=>?_⟩;rw[hzl]at h0;obtain⟨b,off,spot⟩:=a;have hspot:spot=none:=(by simpa [Addr.add]using World.cell?_spot (hcell 0 (by omega)));subst hspot;refine⟨b,off,rfl,λi hi=>?_⟩;rw[hzl]at hi;have hc:=hcell i (by omega);rw[Go.WideShapes.add_plain]at hc;rw[hc];have hiz:i<zs.length:=(by omega);have hw8:=aao (hwf _ (ai hiz));simp only[Ia,fT,List.getElem_take,aj,aa hiz,bW];rw[Int.toNat_of_nonneg hw8.1]
theorem Jp(h:W.ShapedOpen Tryz.prog):∃m,W.cell? ⟨0,0,none⟩=some (.int .i64 m):=Tryz.Un.s1_3 W h
end
section
open Go.RowKit Go.ChangeShapes Go.WideShapes Go.ChangeAt
theorem Ik(v:Value)(us:List Nat)(w:World)(hv:lN w v (Ia us))(hs:∀u,u∈us->u<256)(hS:w.ShapedOpen Tryz.prog):
 Calls Tryz.prog 6 #[v] w λe w'=>e=.returned (.bool true)/\Ext w w':=by
 obtain⟨m,hm⟩:=Jp hS;exact KX v us m w hv hs hm
end
section
open Go.ChangeShapes Go.WideShapes Go.ChangeAt Go.RowKit
theorem aiH:ownKnob Tryz.prog.godebug=none:=by kernel_rfl
theorem VZ(os:Os)(args:Array Value):laidMetH Tryz.prog Rows.fnBoardsRow.laid ((World.laidAll Tryz.prog os Rows.fnBoardsRow.laid).forCall (λ_ _=>0) ⟨#[],args,[]⟩).memory:=by
 rw[MakeChecks.laidMetH_plain _ _ _ (by kernel_rfl)];exact laidMet_laidAll args (by kernel_rfl) (by kernel_rfl)
theorem lifted(os:Os)(started:os.Started)(H:Type)(enc:TypeId × Value->H):
 ReturnsInHanded {} Tryz.checked os 6 .any (λw args=>(Rows.fnBoardsSpec.pre enc Tryz.prog Tryz.f6 [] false w args/\laidMetH Tryz.prog Rows.fnBoardsRow.laid w)/\sizedMet enc Tryz.prog Tryz.f6 (OpenSpec.ofChange Rows.fnBoardsSpec) false w args)
  (Rows.fnBoardsSpec.post enc Tryz.prog Tryz.f6 false true false false):=by
 refine JN (C:=Tryz.checked) (X:=λw _=>laidMetH Tryz.prog Rows.fnBoardsRow.laid w) (λ_ _ _ hh h=>h.of_heap hh) aiH started (by kernel_rfl) Tryz.func6
  (ChangeSpec.witness_shaped (enc:=enc) (C:=Tryz.checked) (os:=os) (X:=λw _=>laidMetH Tryz.prog Rows.fnBoardsRow.laid w) false (World.laidAll Tryz.prog os Rows.fnBoardsRow.laid) #[.slice none 0 0] 8 (World.laidAll_os _ _ _) (World.shaped_of_ZipB (by kernel_rfl) (by kernel_rfl)) (by kernel_rfl) (by kernel_rfl) (by kernel_rfl) (VZ os _)) ?_
 intro W base args ds gs before hval0 hW _ hwt hL hS _;have hval:∀(j:Nat) t v,Tryz.f6.params[j]?=some t->args[j]?=some v->Value.okWide Tryz.prog W .any base t v:=hval0;have hW':=hW;obtain⟨p,q,hA0,hV,rfl,hfz,hnd⟩:=hW;have hA:DataW.TrodAll enc Tryz.prog W 0 (λ_=>true) true Tryz.f6.params.toList args.toList ds p:=hA0;rw[Tryz.params6]at hA hval;obtain⟨v0,d0,rfl,rfl,h0⟩:=trodAll_one hA;obtain⟨rfl,rfl⟩:=trodVars_none hV;obtain⟨us,hus,hI⟩:=Ra (hval 0 38 v0 rfl rfl) h0;have ai6:(DataW.weightsEach Tryz.prog [38] [d0]).all (·<=reachBytes)=true:=by
  have h:=hwt;rw[show Tryz.f6.params=_ from Tryz.params6]at h;exact h
 refine(Ik v0 us W (hI ai6) hus hS).mono λe W' ⟨he,hx⟩=>?_
 subst he;have hlt:∀x∈p,x.block<W.heap.size:=λx hm=>by simpa using hW'.lt x (by simp[hm])
 refine⟨_,rfl,_,_,_,[],p,[],hW',trodAll_mk1 (shut_bool Tryz.underlying4 _),?_,?_,hx.frame _,λh=>by cases h⟩
 .exact trodAll_mk1 (Below.trod aaw (by kernel_rfl) (of_decide_eq_true (by kernel_rfl)) h0 hx hlt)
 .exact rfl
end
section
open Go
theorem Qf:Rows.FnBoardsSaid:=
 OpenClaim.holds_of_wide 6 Tryz.f6 rfl rfl rfl rfl rfl rfl rfl ⟨rfl,rfl,rfl,rfl,rfl⟩ rfl rfl rfl rfl rfl (by kernel_rfl) Tryz.func6 (by kernel_rfl)
  (of_decide_eq_true (by kernel_rfl)) (by unfold Func.isWrapper;first|(rw[if_pos (by decide +kernel)];kernel_rfl)|(rw[if_neg (by decide +kernel)];exact⟨rfl,rfl⟩))
  (λos started H enc _=>lifted os started H enc)
end
section
open Go
theorem card_holds:Rows.FnBoardsCardSaid:=
 Claim7.holds_tied_plain_at .later [] [.data,.data,.data,.data,.pinned] true (true, "d903891bc9bf13b6bd5c63b9627002bcf821bd46ec0d285e56a1a23fcdfcee16") false
  Qf (λ_ h=>by cases h) (by kernel_rfl) (λ_ h=>by cases h) fnBoards_row_tie rfl ⟨rfl,rfl⟩ (by kernel_rfl) rfl
  (λf fn hf hfn=>by
   obtain rfl:f=6:=Option.some.inj ((show Tryz.prog.funcNamed "loop.example/g00868/laws.FnBoards"=some 6 by kernel_rfl).symm.trans hf) |>.symm;obtain rfl:fn=Tryz.f6:=(Option.some.inj (Tryz.func6.symm.trans hfn)).symm;exact⟨by kernel_rfl,λj t ht=>by
    rw[Tryz.params6]at ht;have hm:t∈[38]:=(by simpa using Array.mem_of_getElem? ht);have hall:([38].all λu=>!Tryz.prog.wantsStandIn u)=true:=(by kernel_rfl);exact(show Tryz.prog.wantsStandIn t=false by simpa using mM.1 hall t hm)⟩)
  (by kernel_rfl)
#print axioms card_holds
end
end Go.Proofs.YteknjeohbcgpdaaGreatDoor