/- 53 -/
import Derived.Test.YtplgooajigigkaaGreatDoorQ52
import Derived.HandedShaped
import Derived.LaidMore
import Derived.Lay
import Derived.Test.YtplgooajigigkaaGreatDoorTie
import Derived.Test.YtplgooajigigkaaGreatDoorCards
set_option maxRecDepth 100000
set_option maxHeartbeats 4000000
namespace Go.Proofs.YtplgooajigigkaaGreatDoor
section
open Go.RowKit Go.ChangeShapes Go.WideShapes Go.ChangeAt
theorem Ii{H:Type}{enc:TypeId × Value->H}{a:Assume}{C:Checked}{os:Os}{f:FuncId}{fn:Func}{s:ChangeSpec}{conds:List PathCond}{apart fresh handsOn again:Bool}{X:World->Array Value->Prop}
 (hX:∀(w w':World) (args:Array Value),w.heap=w'.heap->X w args->X w' args)
 (own:ownKnob C.prog.godebug=none) (started:os.Started) (noInit:C.prog.inits.idxOf? f=none) (hfn:C.prog.funcs[f]?=some fn)
 (witness:∃(w:World) (tape:Tape) (i:Input),w.os=os/\(w.forCall tape i).Shaped C.prog/\i.vars=[]/\Input.okWide C.prog (w.forCall tape i) .any w.heap.size f i/\
  ((s.pre enc C.prog fn conds apart (w.forCall tape i).memory i.args/\X (w.forCall tape i).memory i.args)/\sizedMet enc C.prog fn (OpenSpec.ofChange s) apart (w.forCall tape i).memory i.args)/\a.holds C.prog (lone (Frame.enter C.prog f i.args .normal) [] (w.forCall tape i)))
 (contract:∀(W:World) (base:Nat) (args:Array Value) (ds gs:List (DataW H)) (before:List MemPlace),
  (∀(j:Nat) t v,fn.params[j]?=some t->args[j]?=some v->Value.okWide C.prog W .any base t v)->
  DataW.Whole enc C.prog fn.params.toList s.vars apart W args.toList ds gs before->
  conds.all (PathCond.test C.prog ⟨fn.params.toList,ds,s.plain.varTypes C.prog,gs⟩)=true->
  (DataW.weightsEach C.prog (fn.params.toList++s.plain.varTypes C.prog) (ds++gs)).all (·<=reachBytes)=true->X W args->W.ShapedOpen C.prog->
  a.holds C.prog (lone (Frame.enter C.prog f args .normal) [] W)->
  Calls C.prog f args W λe W'=>∃v,e=.returned v/\s.post enc C.prog fn apart fresh handsOn again W args v W'):
 ReturnsInHanded a C os f .any (λw args=>(s.pre enc C.prog fn conds apart w args/\X w args)/\sizedMet enc C.prog fn (OpenSpec.ofChange s) apart w args) (s.post enc C.prog fn apart fresh handsOn again):=by
 refine returnsInHanded_of_calls own started noInit witness ?_;intro w tape i _ hsh _ hok hpre hholds;obtain⟨_,_,_,fn',hfn',_,_,_,_,hval⟩:=hok;have e:fn'=fn:=Option.some.inj (hfn'.symm.trans hfn);subst e;obtain⟨⟨⟨ds,gs,before,hw,hc⟩,hx⟩,hz⟩:=hpre;have hw':=DataW.Whole.of_heap (w':=w.forCall tape i) (by rfl) hw;refine(contract (w.forCall tape i) w.heap.size i.args ds gs before hval hw' hc (hz.weights hw) (hX _ _ _ (by rfl) hx) hsh hholds).mono λe W' ⟨v,he,hp⟩=>?_
 subst he;exact ChangeSpec.post_blind hp
end
section
open Go.RowKit Go.ChangeShapes Go.WideShapes Go.ChangeAt
theorem Yv{n:Int}(h:(Lit.int .u8 n).wf=true):0<=n/\n<256:=by
 have:IntKind.u8.min<=n/\n<=IntKind.u8.max:=by simpa [Lit.wf]using h
 have e1:IntKind.u8.min=0:=rfl;have e2:IntKind.u8.max=255:=rfl;omega
theorem PI{H:Type}{enc:TypeId × Value->H}{W:World}{b0:Nat}{v:Value}{d:DataW H}{p:List MemPlace}(hv:Value.okWide Tryz.prog W .any b0 39 v)(h:DataW.Trod enc Tryz.prog W 0 (λ_=>true) true 39 v d p):
 ∃us:List Nat,(∀u,u∈us->u<256)/\((DataW.weightsEach Tryz.prog [39] [d]).all (·<=reachBytes)=true->nX W v (wJ us)):=by
 obtain⟨a0,l0,c0,rfl⟩:=okWide_slice Tryz.underlying39 hv;obtain⟨fuel,hf⟩:=h;have hf':DataW.trod enc Tryz.prog W 0 (λ_=>true) true fuel 39 [.slice a0 l0 c0]=some (d,p):=by simpa [Value.cells]using hf
 rcases open_ints Tryz.underlying39 Tryz.underlying5 (by kernel_rfl) hf' with⟨hcs,hx0⟩|⟨a,len,cap,zs,hcs,hb,hl,hm,hz,hx0,hcell,hwf⟩
 .simp only[iZ,gz,and_true]at hcs
  obtain⟨rfl,rfl,rfl⟩:=hcs;exact⟨[],λu hu=>absurd hu (by simp),λ_=>nX.nil _ _ _⟩
 .simp only[iZ,gz,and_true]at hcs
  obtain⟨rfl,rfl,rfl⟩:=hcs;simp only[if_true]at hz;simp only[Prod.mk.injEq]at hx0;obtain⟨rfl,-⟩:=hx0;refine⟨(zs.take l0).map Int.toNat,λu hu=>?_,λhw=>?_⟩
  .obtain⟨z,hz',rfl⟩:=ay.1 hu
   have:=Yv (hwf z (gy hz'));omega
  .have hlen:l0*1<=reachBytes:=by
    have h2:=Go.sized_slice hw (j:=0) rfl rfl Tryz.underlying39;have h3:(Tryz.prog).bytesOf 5=1:=(by kernel_rfl);rw[h3]at h2;have h4:(lits IntKind.u8 (zs.take l0):List (DataW H)).length=l0:=(by simp[lits];omega);rw[h4]at h2;omega
   have hr:reachBytes=140737488351232:=rfl;have hzl:(wJ ((zs.take l0).map Int.toNat)).length=l0:=(by simp[wJ];omega);refine⟨some a,c0,by rw[hzl],by omega,by omega,λh0=>?_⟩;rw[hzl]at h0;obtain⟨b,off,spot⟩:=a;have hspot:spot=none:=(by simpa [Addr.add]using World.cell?_spot (hcell 0 (by omega)));subst hspot;refine⟨b,off,rfl,λi hi=>?_⟩;rw[hzl]at hi;have hc:=hcell i (by omega);rw[Go.WideShapes.add_plain]at hc;rw[hc];have hiz:i<zs.length:=(by omega);have hw8:=Yv (hwf _ (aj hiz));simp only[wJ,fT,List.getElem_take,aO,ae hiz,gM];rw[Int.toNat_of_nonneg hw8.1]
end
section
open Go.RowKit
variable {W:World}
theorem Wm(h:laidMetH Tryz.prog Rows.fnTreesRow.laid W):laidMet Tryz.prog [("internal/strconv.uint64pow10",Rows.laid_internal_strconv_uint64pow10)] W:=by
 have h1:=h.filter (λx=>x.1 == "internal/strconv.uint64pow10");have e:Rows.fnTreesRow.laid.filter (λx=>x.1 == "internal/strconv.uint64pow10") = [("internal/strconv.uint64pow10",Rows.laid_internal_strconv_uint64pow10)]:=by
  simp[Rows.fnTreesRow,List.filter]
 rw[e,MakeChecks.laidMetH_plain _ _ _ (by kernel_rfl)]at h1;exact h1
theorem VY:(Rows.laid_internal_strconv_uint64pow10:DataW Unit)=Lib.tabData .u64 Lib.pow10Tab:=by rfl
theorem GR(h:W.ShapedOpen Tryz.prog):∃m,W.cell? ⟨3,0,none⟩=some (.int .i64 m):=Tryz.RV.s1_3 W h
theorem XK(h:laidMetH Tryz.prog Rows.fnTreesRow.laid W)(hS:W.ShapedOpen Tryz.prog):Qp W:=by
 have h1:=Wm h;rw[VY]at h1;exact⟨Lib.tabBelow_of_tabIs (Lib.tabIs_of_head (g:=2) (t:=272) (e:=67) (n:=20) (by kernel_rfl) (by kernel_rfl) (by kernel_rfl) (by kernel_rfl) (by kernel_rfl) (by kernel_rfl) h1),GR hS⟩
end
section
open Go.ChangeShapes Go.WideShapes Go.ChangeAt Go.RowKit
theorem afy:ownKnob Tryz.prog.godebug=none:=by kernel_rfl
theorem TQ(os:Os)(args:Array Value):laidMetH Tryz.prog Rows.fnTreesRow.laid ((World.laidAll Tryz.prog os Rows.fnTreesRow.laid).forCall (λ_ _=>0) ⟨#[],args,[]⟩).memory:=by
 rw[MakeChecks.laidMetH_plain _ _ _ (by kernel_rfl)];exact laidMet_laidAll args (by kernel_rfl) (by kernel_rfl)
theorem lifted(os:Os)(started:os.Started)(H:Type)(enc:TypeId × Value->H):
 ReturnsInHanded {} Tryz.checked os 4 .any (λw args=>(Rows.fnTreesSpec.pre enc Tryz.prog Tryz.f4 [] false w args/\laidMetH Tryz.prog Rows.fnTreesRow.laid w)/\sizedMet enc Tryz.prog Tryz.f4 (OpenSpec.ofChange Rows.fnTreesSpec) false w args)
  (Rows.fnTreesSpec.post enc Tryz.prog Tryz.f4 false true false false):=by
 refine Ii (C:=Tryz.checked) (X:=λw _=>laidMetH Tryz.prog Rows.fnTreesRow.laid w) (λ_ _ _ hh h=>h.of_heap hh) afy started (by kernel_rfl) Tryz.func4
  (ChangeSpec.witness_shaped (enc:=enc) (C:=Tryz.checked) (os:=os) (X:=λw _=>laidMetH Tryz.prog Rows.fnTreesRow.laid w) false (World.laidAll Tryz.prog os Rows.fnTreesRow.laid) #[.slice none 0 0] 8 (World.laidAll_os _ _ _) (World.shaped_of_ZipB (by kernel_rfl) (by kernel_rfl)) (by kernel_rfl) (by kernel_rfl) (by kernel_rfl) (TQ os _)) ?_
 intro W base args ds gs before hval0 hW _ hwt hL hS _;have hval:∀(j:Nat) t v,Tryz.f4.params[j]?=some t->args[j]?=some v->Value.okWide Tryz.prog W .any base t v:=hval0;have hW':=hW;obtain⟨p,q,hA0,hV,rfl,hfz,hnd⟩:=hW;have hA:DataW.TrodAll enc Tryz.prog W 0 (λ_=>true) true Tryz.f4.params.toList args.toList ds p:=hA0;rw[Tryz.params4]at hA hval;obtain⟨v0,d0,rfl,rfl,h0⟩:=trodAll_one hA;obtain⟨rfl,rfl⟩:=trodVars_none hV;obtain⟨us,hus,hI⟩:=PI (hval 0 39 v0 rfl rfl) h0;have afX:(DataW.weightsEach Tryz.prog [39] [d0]).all (·<=reachBytes)=true:=by
  have h:=hwt;rw[show Tryz.f4.params=_ from Tryz.params4]at h;exact h
 refine(JW v0 us W (hI afX) hus (XK hL hS)).mono λe W' ⟨he,hx⟩=>?_
 subst he;have hlt:∀x∈p,x.block<W.heap.size:=λx hm=>by simpa using hW'.lt x (by simp[hm])
 refine⟨_,rfl,_,_,_,[],p,[],hW',trodAll_mk1 (shut_bool Tryz.underlying4 _),?_,?_,hx.frame _,λh=>by cases h⟩
 .exact trodAll_mk1 (Below.trod YH (by kernel_rfl) (of_decide_eq_true (by kernel_rfl)) h0 hx hlt)
 .exact rfl
end
section
open Go
theorem Ot:joinedFacts Tryz.pinned.checked.prog 4 Tryz.f4 Rows.fnTreesSpec Rows.fnTreesRow=true:=by kernel_rfl
theorem Oq:Rows.FnTreesSaid:=
 OpenClaim.holds_of_wide 4 Tryz.f4 rfl rfl rfl rfl rfl rfl rfl ⟨rfl,rfl,rfl,rfl,rfl⟩ rfl rfl rfl rfl rfl (by kernel_rfl) Tryz.func4 Ot
  (of_decide_eq_true (by kernel_rfl)) (by unfold Func.isWrapper;first|(rw[if_pos (by decide +kernel)];kernel_rfl)|(rw[if_neg (by decide +kernel)];exact⟨rfl,rfl⟩))
  (λos started H enc _=>lifted os started H enc)
end
section
open Go
theorem card_holds:Rows.FnTreesCardSaid:=
 Claim7.holds_tied_plain_at .later [] [.data,.data,.data,.data,.sentinel,.sentinel,.pinned] true (true, "d9c83bd244a95591186cdaa30942d84d202847d644499c933e62ea9418855f2a") true
  Oq (λ_ h=>by cases h) (by kernel_rfl) (λ_ h=>by cases h) fnTrees_row_tie rfl ⟨rfl,rfl⟩ (by kernel_rfl) rfl
  (λf fn hf hfn=>by
   obtain rfl:f=4:=Option.some.inj ((show Tryz.prog.funcNamed "loop.example/g00868/laws.FnTrees"=some 4 by kernel_rfl).symm.trans hf) |>.symm;obtain rfl:fn=Tryz.f4:=(Option.some.inj (Tryz.func4.symm.trans hfn)).symm;exact⟨by kernel_rfl,λj t ht=>by
    rw[Tryz.params4]at ht;have hm:t∈[39]:=(by simpa using Array.mem_of_getElem? ht);have hall:([39].all λu=>!Tryz.prog.wantsStandIn u)=true:=(by kernel_rfl);exact(show Tryz.prog.wantsStandIn t=false by simpa using List.all_eq_true.1 hall t hm)⟩)
  (by kernel_rfl)
#print axioms card_holds
end
