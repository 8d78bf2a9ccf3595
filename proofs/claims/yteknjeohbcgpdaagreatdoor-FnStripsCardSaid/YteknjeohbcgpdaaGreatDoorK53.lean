/-
  The tied card of FnStrips: for every code the law answers true; the tables that it reads are tied to the program's text. (7 texts.)
-/
import Derived.Test.YteknjeohbcgpdaaGreatDoorK24
import Derived.Test.YteknjeohbcgpdaaGreatDoorK52
import Derived.HandedShaped
import Derived.LaidMore
import Derived.Lay
import Derived.Test.YteknjeohbcgpdaaGreatDoorTie
import Derived.Test.YteknjeohbcgpdaaGreatDoorCards
set_option maxRecDepth 100000
namespace Go.Proofs.YteknjeohbcgpdaaGreatDoor
section
open Go.RowKit
open bz (dC Nd gS)
variable {kind:Int} {s:ByteArray} {F:dC} {ok:Bool}
theorem PK{W:World}{B:Nat}{v:Value}{sl:Nat->Value}(r:Ef kind s F ok)(h:FO W B v F.length sl (o9 F)):eX W 0 v F:=by
 rcases Ck r with⟨_,hf⟩|⟨_,rfl⟩
 .unfold gQ at hf
  obtain⟨_,f2,f3⟩:=of_decide_eq_true hf;refine h.nodes (λj hj=>?_) (by simp[maxLen];omega);have hi:j / 2<F.length:=by omega
  have g:F.getD (j / 2) ([],[])=F[j / 2]:=by rw[aV,aa hi];rfl
  have:=f3 _ hi;unfold o9;rw[g];split <;> simp[dx] <;> omega
 .exact h.nodes (λj hj=>absurd hj (by simp)) (by simp[maxLen])
theorem KP(r:Ef kind s F ok):F.length<=1000000/\∀i (hi:i<F.length),(F[i]).1.length<=1000000/\(F[i]).2.length<=1000000:=by
 rcases Ck r with⟨_,hf⟩|⟨_,rfl⟩
 .exact Fe hf
 .exact⟨by simp,λi hi=>absurd hi (by simp)⟩
set_option maxHeartbeats 4000000 in
theorem Ik(v:Value)(us:List Nat)(m:Int)(w:World)(hv:lS w v (JV us))(hs:∀u,u∈us->u<256)(hm:w.cell? ⟨0,0,none⟩=some (.int .i64 m)):
 Calls Tryz.prog 4 #[v] w λe w'=>e=.returned (.bool true)/\Ext w w':=by
 obtain⟨a,cap,rfl,-,-,-⟩:=id hv;by_cases hbig:(65536:Int)<(((JV us).length:Nat):Int)
 .go_enter Tryz.func4,Tryz.ntmps4
  go_wp2_with (go_at_call 16;refine(IL _ _ _ _).mono ?_;rintro e w1 ⟨he,hx1⟩;rw[decide_eq_true hbig]at he;subst he)
  go_ret
  exact⟨rfl,hx1⟩
 .go_enter Tryz.func4,Tryz.ntmps4
  go_upto_region 3 with(go_at_call 16;refine(IL _ _ _ _).mono ?_;rintro e w1 ⟨he,hx1⟩;rw[decide_eq_false hbig]at he;subst he)
  go_upto_region 4 with(go_at_call 17;refine(Ml _ us _ (hv.ext hx1) hs).mono ?_;rintro e w2 ⟨z,s,hs9,hz,rfl,hx2⟩)
  have H:St w w2 [] [] []:=⟨ay hx1 hx2,λx hx=>absurd hx (by simp),λx hx=>absurd hx (by simp),λx hx=>absurd hx (by simp)⟩;have adG:=aH (And.intro hm hv);have HC:∀W',Ext w W'->W'.cell? ⟨0,0,none⟩=some (.int .i64 m):=λW' hx=>(hx.cell (lt_of_cell adG.out.1)).trans adG.out.1
  clear hbig hx1 hx2 hs hm hv hz hs9;go_upto_region 5 with(go_at_call 18;refine(xq z s _).mono ?_;rintro e w3 ⟨vF,F,ok,sF,rfl,hRF,hOF,hx3⟩;obtain⟨aF,cF,rfl⟩:=hOF.top)
  have H:=H.XC hx3 (PK hRF hOF) 28;clear hx3 hOF;generalize w3.alloc (.cells #[.slice aF F.length cF] 28)=W3 at *;generalize w3.heap.size=pf at *;go_upto_region 6 with(go_at_call 19;refine(DW z s _).mono ?_;rintro e w4 ⟨vG,G,okG,rfl,hNG,hRG,hx4⟩;obtain⟨aG,cG,rfl⟩:=hNG.slice;obtain⟨rfl,rfl⟩:=hRF.unique hRG)
  have H:=H.XC hx4 hNG 28;have HRF:=aH hRF;clear hx4 hNG hRG hRF;generalize w4.alloc (.cells #[.slice aG F.length cG] 28)=W4 at *;generalize w4.heap.size=pg at *;go_upto_region 7 with(go_at_call 20;refine(Bl z s m _ (HC _ H.ext)).mono ?_;rintro e w5 ⟨vP,ss,rfl,hRP,hmap⟩;obtain⟨aP,cP,rfl,-,-⟩:=bD hRP.own)
  have H:=H.go hRP.ext;go_upto_region 8 with(go_at_call 21;refine(Bh z s _).mono ?_;rintro e w6 ⟨vM,zw,rfl,hRM,hmap2⟩;obtain⟨aM,cM,rfl,-,-⟩:=bD hRM.own;obtain rfl:zw=ss:=UB (hmap2.trans hmap.symm))
  have H:=H.go hRM.ext;have alx:=OO hmap;have hn6:zw.length<=1000000:=by omega
  have hS1:Strs w6 (.slice aP zw.length cP) zw:=Strs.eO (dn hRP.own hRM.ext) (by omega);have hS2:Strs w6 (.slice aM zw.length cM) zw:=Strs.eO hRM.own (by omega);have hOP:Hid (w6.ownsRow W4.heap.size 9 1 (.slice aP zw.length cP) zw.length (zw.map Value.string)):=aH (dn hRP.own hRM.ext);have hres:=KP HRF.out;have hr1:∀V,Ext w6 V->Calls Tryz.prog 23 #[.int .i64 z,.string s] V λe w'=>e=.returned (.bool (iP z (bH s)))/\RD V w':=λV _=>lZ z s V
  have hr2:∀V,Ext w6 V->Calls Tryz.prog 24 #[.slice aP zw.length cP,.slice aM zw.length cM] V λe w'=>e=.returned (.bool true)/\Ext V w':=λV hV=>IK _ _ zw V (hS1.ext hV) (hS2.ext hV) hn6
  have hr3:∀V,Ext w6 V->Calls Tryz.prog 22 #[.agg #[.slice aF F.length cF],.agg #[.slice aG F.length cG]] V λe w'=>e=.returned (.bool true)/\Ext V w':=λV hV=>Cq _ _ F V ((H.go hV).frm (.slice aF F.length cF,F) (by simp)) ((H.go hV).frm (.slice aG F.length cG,F) (by simp)) hres.1 hres.2
  have f0:=H.cell (p:=pf) (v:=.slice aF F.length cF) (t:=28) (by simp);have g0:=H.cell (p:=pg) (v:=.slice aG F.length cG) (t:=28) (by simp);have hgd:(ok != ok)=false:=by simp
  have hgs:(iP z (bH s) != iP z (bH s))=false:=by simp
  have HR:=aH (And.intro hr1 (And.intro hr2 hr3));have HH:=aH H;have ahG:=aH hmap;have hq0:Ext w6 w6:=Below.refl _ _;clear hr1 hr2 hr3 hS1 hS2 hres hRP hRM hmap H hn6
  go_upto_region 10 with(first
   |(go_at_call 24;refine(HR.out.2.1 _ hq2).mono ?_;rintro e w9 ⟨rfl,Sd⟩;have hq3:=ay hq2 Sd)
   |(go_at_call 23;refine(HR.out.1 _ hq1).mono ?_;rintro e w8 ⟨rfl,VV⟩;have hq2:=ay hq1 (bS VV))
   |(go_at_call 22;refine(HR.out.2.2 _ hq0).mono ?_;rintro e w7 ⟨rfl,hx7⟩;have hq1:=ay hq0 hx7))
  cases ok with
  |false=>
   go_wp2
   go_ret
   exact⟨rfl,ay HH.out.ext hq3⟩
  |true=>
   obtain⟨kd,rfl,hkd,hL,hg,h7,hFF,hfF⟩:=VB HRF.out;have hys:zw.map bH=bz.eQ kd (bH s):=by
    have:=ahG.out;rw[hg]at this
    simpa using this
   obtain⟨hyb,hsum⟩:=QW hkd hL h7 hFF hfF hys;have Xr:=aH (And.intro hFF hfF);have HY:=aH (And.intro hyb hsum);have H:=HH.out.go hq3;have ZG:=dn hOP.out hq3;clear hkd hL hg h7 hFF hfF hys hyb hsum;by_cases ae2:(12:Int)<((zw.length:Nat):Int)
   .go_wp2
    go_ret
    exact⟨rfl,H.ext⟩
   .go_upto_region 12 with fail
    obtain⟨WL,hWL⟩:∃WL,WL=w9:=⟨_,rfl⟩;rw[<-hWL]at H ZG ⊢;clear hWL;have hr0:=World.ownsRow_made WL (base:=WL.heap.size) (e:=28) (size:=1) #[] 0 (ai _) (by decide) (by simp);have hxl:Ext WL (WL.alloc (.cells #[] 28)):=bK (Below.refl _ _) _;have HHL:=aH H;have HRP:=aH ZG;have Pp:Items pK (KS WL (WL.alloc (.cells #[] 28)) (.slice (some ⟨WL.heap.size,0,none⟩) 0 0)) 1 [] [] (WL.alloc (.cells #[] 28)):=Items.nil λb hb=>hb.2.1
    obtain⟨i0,hi0,hz0',hz1',hz2'⟩:=info_parts CX;clear H ZG ae2;go_upto_region 13 with fail
    generalize hWe:WL.alloc (.cells #[] 28)=We at *;clear hWe;go_wp2
    go_loopw [13,14,15,16] (λov ii _ _ wr=>∃(i:Nat) (Fs:List dC) (xs:List Value),ii=.int .i64 ((i:Nat):Int)/\i<=zw.length/\Ext WL wr/\wr.ownsRow WL.heap.size 28 1 ov Fs.length xs/\Items pK (KS WL wr ov) 1 xs Fs wr/\Hid (Fs.length=i/\∀j (hj:j<Fs.length) (hj':j<zw.length),fu Fs[j] (gS kd (bH zw[j]))/\gQ Fs[j]=true)) (λ_ ii _ _ _=>zw.length-(intOf ii).toNat)
    case atStart=>exact⟨0,[],[],rfl,az _,hxl,hr0,Pp,aH ⟨rfl,λj hj=>absurd hj (by simp)⟩⟩
    case round=>
     clear hxl hr0 Pp;obtain⟨i,Fs,xs,rfl,hi,hx,ho,hIt,HF⟩:=hrel;by_cases hlt:i<zw.length
     .have hil:((i:Nat):Int)<((zw.length:Nat):Int):=by omega
      have dK:=aH hlt;obtain⟨g,p1,he,-,-,hc⟩:=iB (dn HRP.out hx) (show 0<zw.length by omega);simp only[Value.slice.injEq,true_and]at he;obtain⟨rfl,rfl⟩:=he;have cl:=hc i (by omega);rw[dB,aa hlt]at cl;simp only[iG]at cl;have hy:=HY.out.1 i (by rw[aJ];exact dK.out);simp only[fA]at hy;obtain⟨t,ht⟩:∃t,t=zw[i]'(dK.out):=⟨_,rfl⟩;rw[<-ht]at cl hy;have Vm:=aH (And.intro hy ht);clear hlt hc hy ht;go_upto_region 17 with(go_at_call 18;refine(xq _ t _).mono ?_;rintro e w1 ⟨vX,X,okX,slX,rfl,hRX,hOX,hx1⟩;obtain⟨aX,cX,rfl⟩:=hOX.top)
      obtain⟨rfl,hFX,hfX⟩:=Rk hRX Vm.out.1.1 (by have:=Vm.out.1.2.1;rw[GA]at this;exact this) Vm.out.1.2.2;have hxb:Ext w1 (w1.alloc (.cells #[.slice aX X.length cX] 28)):=bK (Below.refl _ _) _;have hpx:=heap_alloc_new w1 (.cells #[.slice aX X.length cX] 28);have abB:=(Gp hfX hOX).sup (S:=λb=>wr.heap.size<=b/\b<w1.heap.size) (λb hb=>hb.2) (λb h1 h2=>⟨h1,h2⟩);have hzb:(w1.alloc (.cells #[.slice aX X.length cX] 28)).heap.size=w1.heap.size+1:=fw _ _;have XI:=abB.ext hxb;have hx2:=ay hx1 hxb;have HX2:=aH hx2;have HFX:=aH (And.intro hFX hfX);have ahi:=aH XI;have hzz:=hx1.size;obtain⟨ao,co,rfl,-,-⟩:=bD ho;have HIT:=aH (And.intro hIt ho);have HXr:=aH hx;clear hxb abB XI hx1 hOX hRX hFX hfX cl hIt ho hx hx2;generalize w1.alloc (.cells #[.slice aX X.length cX] 28)=W1 at *;generalize w1.heap.size=px at *;have p0:=cell_of_row W1 px 0 _ _ _ hpx;have hfl:Fs.length<=13:=(by have:=HF.out.1;have:=dK.out;omega);have hown2:=dn HIT.out.2 HX2.out;have ak3:=HX2.out.size;have hzl:=HXr.out.size;have HZB:=aH hzb;clear hpx hzb;go_wp2_with (at_builtin;refine bQ rfl (.tmp 97) (.tmp 99) 47 rfl WL.heap.size 28 i0 (.agg #[.slice none 0 0]) 1 24 Tryz.underlying47 hi0 hz0' hz1' hz2' rfl (by decide) (.slice ao Fs.length co) Fs.length xs rfl (hown2.alloc _) _ 1 _ [.slice aX X.length cX] rfl rfl (.inr ⟨_,rfl,cK (bP _ _ _)⟩) OV (by unfold maxLen;omega) (by omega) (by rw[fw];omega) ?_;intro v5 w5 fI hg5 hl5)
      go_roundw
      case rel=>
       have hn:oP (λb=>wr.heap.size<=b/\b<W1.heap.size) (λW=>pK W [.slice aX X.length cX] X) W1:=ahi.out.mono (λb hb=>⟨hb.1,by have:=HZB.out;omega⟩) (λb hb=>hb.2) (λW h=>⟨aX,cX,rfl,h⟩);refine⟨i+1,Fs++[X],xs++[.slice aX X.length cX],by go_num,dK.out,dZ (bK (ay HXr.out HX2.out) _) hg5 (λq hq=>(HIT.out.2.lt q hq).1),by rw[aj];exact fI,Items.push HIT.out.1 HXr.out HX2.out HIT.out.2 rfl hn hg5 hl5,aH ⟨by rw[aj,HF.out.1];rfl,λj hj hj'=>?_⟩⟩;by_cases c:j<Fs.length
       .rw[dM c];exact HF.out.2 j c hj'
       .have e:j=i:=by have:=HF.out.1;simp at hj;omega
        have e2:=HF.out.1;subst e;rw[eB (by omega)];simp only[List.getElem_singleton];rw[<-Vm.out.2];exact HFX.out
      case measure=>have:=dK.out;simp[intOf];omega
     .have hil:¬(((i:Nat):Int)<((zw.length:Nat):Int)):=by omega
      have hie:i=zw.length:=(by omega);have GY:=aH hie;have hfl:Fs.length<=13:=(by have:=HF.out.1;omega);obtain⟨ao,co,rfl,-,-⟩:=bD ho;have NN:qY wr (.slice ao Fs.length co) Fs:=(Rows.eO (T:=λb=>b<wr.heap.size) ho rfl hIt (λb hb=>hb.2.1) (λb hb=>(ho.lt b hb).2) (λb hb=>hb)).ZO (by omega);have hFs:∀F,F∈Fs->bz.fq F/\gQ F=true:=λF hF=>by
       obtain⟨j,hj,rfl⟩:=aO.1 hF;have:=HF.out.2 j hj (by have:=HF.out.1;have:=GY.out;omega);exact⟨this.1.1,this.2⟩
      have H:=HHL.out.go hx;have hsum:=HY.out.2 Fs (by rw[HF.out.1,GY.out,aJ]) (λj hj hj'=>by
       rw[fA];exact(HF.out.2 j hj (by rw[aJ]at hj';exact hj')).1)
      have Vk:=aH hsum;clear hsum hie hlt ho hIt hx hi;go_upto_region 21 with(go_at_call 25;refine(Gv _ Fs _ NN hFs).mono ?_;rintro e w3 ⟨aE,nE,cE,okE,rfl,hEE,hx3⟩)
      have H3:=H.aba hx3 (.slice aE nE cE) 28;have hx4:Ext w3 (w3.alloc (.cells #[.slice aE nE cE] 28)):=bK (Below.refl _ _) _;cases okE with
      |false=>
       clear H hx3 NN;generalize w3.alloc (.cells #[.slice aE nE cE] 28)=W3 at *;go_wp2
       go_ret
       exact⟨rfl,H3.ext⟩
      |true=>
       obtain⟨E,rfl,hEF,hfE,hNE⟩:=hEE rfl;have acR:=hNE.ext hx4;obtain rfl:E=F:=(hEF.to Vk.out).unique Xr.out.1;have hlE:=Fe hfE;clear H hx3 NN hEE hNE hx4;generalize w3.alloc (.cells #[.slice aE E.length cE] 28)=W3 at *;generalize w3.heap.size=pE at *;have k1:=H3.cell (p:=pE) (v:=.slice aE E.length cE) (t:=28) (by simp);have k2:=H3.cell (p:=pf) (v:=.slice aF E.length cF) (t:=28) (by simp);have hr:=Cq _ _ E W3 acR (H3.frm (.slice aF E.length cF,E) (by simp)) hlE.1 hlE.2;have Vn:=aH H3.ext;clear H3 acR;go_wp2_with (go_at_call 22;refine hr.mono ?_;rintro e w4 ⟨rfl,hx5⟩)
       go_ret
       exact⟨rfl,ay Vn.out hx5⟩
end
section
open Go.RowKit Go.ChangeShapes Go.WideShapes Go.ChangeAt
theorem Jc{H:Type}{enc:TypeId × Value->H}{a:Assume}{C:Checked}{os:Os}{f:FuncId}{fn:Func}{s:ChangeSpec}{conds:List PathCond}{apart fresh handsOn again:Bool}{X:World->Array Value->Prop}
 (hX:∀(w w':World) (args:Array Value),w.heap=w'.heap->X w args->X w' args)
 (own:ownKnob C.prog.godebug=none) (started:os.Started) (noInit:C.prog.inits.idxOf? f=none) (hfn:C.prog.funcs[f]?=some fn)
 (witness:∃(w:World) (tape:Tape) (i:Input),w.os=os/\(w.forCall tape i).Shaped C.prog/\i.vars=[]/\Input.okWide C.prog (w.forCall tape i) .any w.heap.size f i/\
  ((s.pre enc C.prog fn conds apart (w.forCall tape i).memory i.args/\X (w.forCall tape i).memory i.args)/\sizedMet enc C.prog fn (OpenSpec.ofChange s) apart (w.forCall tape i).memory i.args)/\a.holds C.prog (lone (Frame.enter C.prog f i.args .normal) [] (w.forCall tape i)))
 (contract:∀(W:World) (base:Nat) (args:Array Value) (ds gs:List (DataW H)) (before:List MemPlace),
  (∀(j:Nat) t v,fn.params[j]?=some t->args[j]?=some v->Value.okWide C.prog W .any base t v)->
  DataW.Whole enc C.prog fn.params.toList s.vars apart W args.toList ds gs before->
  conds.all (PathCond.test C.prog ⟨fn.params.toList,ds,s.plain.varTypes C.prog,gs⟩)=true->
  (DataW.weightsEach C.prog (fn.params.toList++s.plain.varTypes C.prog) (ds++gs)).all (·<=reachBytes)=true->X W args->W.ShapedOpen C.prog->
  a.holds C.prog (lone (Frame.enter C.prog f args .normal) [] W)->
  Calls C.prog f args W λe W'=>∃v,e=.returned v/\s.post enc C.prog fn apart fresh handsOn again W args v W'):
 ReturnsInHanded a C os f .any (λw args=>(s.pre enc C.prog fn conds apart w args/\X w args)/\sizedMet enc C.prog fn (OpenSpec.ofChange s) apart w args) (s.post enc C.prog fn apart fresh handsOn again):=by
 refine returnsInHanded_of_calls own started noInit witness ?_;intro w tape i _ hsh _ hok hpre hholds;obtain⟨_,_,_,fn',hfn',_,_,_,_,hval⟩:=hok;have e:fn'=fn:=Option.some.inj (hfn'.symm.trans hfn);subst e;obtain⟨⟨⟨ds,gs,before,hw,hc⟩,hx⟩,hz⟩:=hpre;have hw':=DataW.Whole.of_heap (w':=w.forCall tape i) (by rfl) hw;refine(contract (w.forCall tape i) w.heap.size i.args ds gs before hval hw' hc (hz.weights hw) (hX _ _ _ (by rfl) hx) hsh hholds).mono λe W' ⟨v,he,hp⟩=>?_
 subst he;exact ChangeSpec.post_blind hp
end
section
open Go.RowKit Go.ChangeShapes Go.WideShapes Go.ChangeAt
variable {W:World}
theorem Xz{n:Int}(h:(Lit.int .u8 n).wf=true):0<=n/\n<256:=by
 have:IntKind.u8.min<=n/\n<=IntKind.u8.max:=by simpa [Lit.wf]using h
 have e1:IntKind.u8.min=0:=rfl;have e2:IntKind.u8.max=255:=rfl;omega
theorem PR{H:Type}{enc:TypeId × Value->H}{b0:Nat}{v:Value}{d:DataW H}{p:List MemPlace}(hv:Value.okWide Tryz.prog W .any b0 38 v)(h:DataW.Trod enc Tryz.prog W 0 (λ_=>true) true 38 v d p):
 ∃us:List Nat,(∀u,u∈us->u<256)/\((DataW.weightsEach Tryz.prog [38] [d]).all (·<=reachBytes)=true->lS W v (JV us)):=by
 obtain⟨a0,l0,c0,rfl⟩:=okWide_slice Tryz.underlying38 hv;obtain⟨fuel,hf⟩:=h;have hf':DataW.trod enc Tryz.prog W 0 (λ_=>true) true fuel 38 [.slice a0 l0 c0]=some (d,p):=by simpa [Value.cells]using hf
 rcases open_ints Tryz.underlying38 Tryz.underlying5 (by kernel_rfl) hf' with⟨hcs,hx0⟩|⟨a,len,cap,zs,hcs,hb,hl,hm,hz,hx0,hcell,hwf⟩
 .simp only[jU,Value.slice.injEq,and_true]at hcs
  obtain⟨rfl,rfl,rfl⟩:=hcs;exact⟨[],λu hu=>absurd hu (by simp),λ_=>lS.nil _ _ _⟩
 .simp only[jU,Value.slice.injEq,and_true]at hcs
  obtain⟨rfl,rfl,rfl⟩:=hcs;simp only[if_true]at hz;simp only[Prod.mk.injEq]at hx0;obtain⟨rfl,-⟩:=hx0;refine⟨(zs.take l0).map Int.toNat,λu hu=>?_,λhw=>?_⟩
  .obtain⟨z,hz',rfl⟩:=aI.1 hu
   have:=Xz (hwf z (gU hz'));omega
  .have hlen:l0*1<=reachBytes:=by
    have h2:=Go.sized_slice hw (j:=0) rfl rfl Tryz.underlying38;have h3:(Tryz.prog).bytesOf 5=1:=(by kernel_rfl);rw[h3]at h2;have h4:(lits IntKind.u8 (zs.take l0):List (DataW H)).length=l0:=(by simp[lits];omega);rw[h4]at h2;omega
   have hr:reachBytes=140737488351232:=rfl;have hzl:(JV ((zs.take l0).map Int.toNat)).length=l0:=(by simp[JV];omega);refine⟨some a,c0,by rw[hzl],by omega,by omega,λh0=>?_⟩;rw[hzl]at h0;obtain⟨b,off,spot⟩:=a;have hspot:spot=none:=(by simpa [Addr.add]using World.cell?_spot (hcell 0 (by omega)));subst hspot;refine⟨b,off,rfl,λi hi=>?_⟩;rw[hzl]at hi;have hc:=hcell i (by omega);rw[Go.WideShapes.add_plain]at hc;rw[hc];have hiz:i<zs.length:=(by omega);have hw8:=Xz (hwf _ (ah hiz));simp only[JV,fA,List.getElem_take,aV,aa hiz,gz];rw[Int.toNat_of_nonneg hw8.1]
theorem Iw(h:W.ShapedOpen Tryz.prog):∃m,W.cell? ⟨0,0,none⟩=some (.int .i64 m):=Tryz.RX.s1_3 W h
end
section
open Go.RowKit Go.ChangeShapes Go.WideShapes Go.ChangeAt
theorem FK(v:Value)(us:List Nat)(w:World)(hv:lS w v (JV us))(hs:∀u,u∈us->u<256)(hS:w.ShapedOpen Tryz.prog):
 Calls Tryz.prog 4 #[v] w λe w'=>e=.returned (.bool true)/\Ext w w':=by
 obtain⟨m,hm⟩:=Iw hS;exact Ik v us m w hv hs hm
end
section
open Go.ChangeShapes Go.WideShapes Go.ChangeAt Go.RowKit
theorem aeP:ownKnob Tryz.prog.godebug=none:=by kernel_rfl
theorem Ub(os:Os)(args:Array Value):laidMetH Tryz.prog Rows.fnStripsRow.laid ((World.laidAll Tryz.prog os Rows.fnStripsRow.laid).forCall (λ_ _=>0) ⟨#[],args,[]⟩).memory:=by
 rw[MakeChecks.laidMetH_plain _ _ _ (by kernel_rfl)];exact laidMet_laidAll args (by kernel_rfl) (by kernel_rfl)
theorem lifted(os:Os)(started:os.Started)(H:Type)(enc:TypeId × Value->H):
 ReturnsInHanded {} Tryz.checked os 4 .any (λw args=>(Rows.fnStripsSpec.pre enc Tryz.prog Tryz.f4 [] false w args/\laidMetH Tryz.prog Rows.fnStripsRow.laid w)/\sizedMet enc Tryz.prog Tryz.f4 (OpenSpec.ofChange Rows.fnStripsSpec) false w args)
  (Rows.fnStripsSpec.post enc Tryz.prog Tryz.f4 false true false false):=by
 refine Jc (C:=Tryz.checked) (X:=λw _=>laidMetH Tryz.prog Rows.fnStripsRow.laid w) (λ_ _ _ hh h=>h.of_heap hh) aeP started (by kernel_rfl) Tryz.func4
  (ChangeSpec.witness_shaped (enc:=enc) (C:=Tryz.checked) (os:=os) (X:=λw _=>laidMetH Tryz.prog Rows.fnStripsRow.laid w) false (World.laidAll Tryz.prog os Rows.fnStripsRow.laid) #[.slice none 0 0] 8 (World.laidAll_os _ _ _) (World.shaped_of_ZipB (by kernel_rfl) (by kernel_rfl)) (by kernel_rfl) (by kernel_rfl) (by kernel_rfl) (Ub os _)) ?_
 intro W base args ds gs before hval0 hW _ hwt hL hS _;have hval:∀(j:Nat) t v,Tryz.f4.params[j]?=some t->args[j]?=some v->Value.okWide Tryz.prog W .any base t v:=hval0;have hW':=hW;obtain⟨p,q,hA0,hV,rfl,hfz,hnd⟩:=hW;have hA:DataW.TrodAll enc Tryz.prog W 0 (λ_=>true) true Tryz.f4.params.toList args.toList ds p:=hA0;rw[Tryz.params4]at hA hval;obtain⟨v0,d0,rfl,rfl,h0⟩:=trodAll_one hA;obtain⟨rfl,rfl⟩:=trodVars_none hV;obtain⟨us,hus,hI⟩:=PR (hval 0 38 v0 rfl rfl) h0;have ae9:(DataW.weightsEach Tryz.prog [38] [d0]).all (·<=reachBytes)=true:=by
  have h:=hwt;rw[show Tryz.f4.params=_ from Tryz.params4]at h;exact h
 refine(FK v0 us W (hI ae9) hus hS).mono λe W' ⟨he,hx⟩=>?_
 subst he;have hlt:∀x∈p,x.block<W.heap.size:=λx hm=>by simpa using hW'.lt x (by simp[hm])
 refine⟨_,rfl,_,_,_,[],p,[],hW',trodAll_mk1 (shut_bool Tryz.underlying4 _),?_,?_,hx.frame _,λh=>by cases h⟩
 .exact trodAll_mk1 (Below.trod XF (by kernel_rfl) (of_decide_eq_true (by kernel_rfl)) h0 hx hlt)
 .exact rfl
end
section
open Go
theorem OD:Rows.FnStripsSaid:=
 OpenClaim.holds_of_wide 4 Tryz.f4 rfl rfl rfl rfl rfl rfl rfl ⟨rfl,rfl,rfl,rfl,rfl⟩ rfl rfl rfl rfl rfl (by kernel_rfl) Tryz.func4 (by kernel_rfl)
  (of_decide_eq_true (by kernel_rfl)) (by unfold Func.isWrapper;first|(rw[if_pos (by decide +kernel)];kernel_rfl)|(rw[if_neg (by decide +kernel)];exact⟨rfl,rfl⟩))
  (λos started H enc _=>lifted os started H enc)
end
section
open Go
theorem card_holds:Rows.FnStripsCardSaid:=
 Claim7.holds_tied_plain_at .later [] [.data,.data,.data,.data,.pinned] true (true, "d903891bc9bf13b6bd5c63b9627002bcf821bd46ec0d285e56a1a23fcdfcee16") false
  OD (λ_ h=>by cases h) (by kernel_rfl) (λ_ h=>by cases h) fnStrips_row_tie rfl ⟨rfl,rfl⟩ (by kernel_rfl) rfl
  (λf fn hf hfn=>by
   obtain rfl:f=4:=Option.some.inj ((show Tryz.prog.funcNamed "loop.example/g00868/laws.FnStrips"=some 4 by kernel_rfl).symm.trans hf) |>.symm;obtain rfl:fn=Tryz.f4:=(Option.some.inj (Tryz.func4.symm.trans hfn)).symm;exact⟨by kernel_rfl,λj t ht=>by
    rw[Tryz.params4]at ht;have hm:t∈[38]:=(by simpa using Array.mem_of_getElem? ht);have hall:([38].all λu=>!Tryz.prog.wantsStandIn u)=true:=(by kernel_rfl);exact(show Tryz.prog.wantsStandIn t=false by simpa using List.all_eq_true.1 hall t hm)⟩)
  (by kernel_rfl)
#print axioms card_holds
end
end Go.Proofs.YteknjeohbcgpdaaGreatDoor