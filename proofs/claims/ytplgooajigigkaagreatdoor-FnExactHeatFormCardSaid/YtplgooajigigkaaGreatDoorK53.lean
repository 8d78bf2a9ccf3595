/- 53 -/
import Derived.Test.YtplgooajigigkaaGreatDoorK52
import Derived.Test.YtplgooajigigkaaGreatDoorTie
import Derived.Test.YtplgooajigigkaaGreatDoorCards
set_option maxRecDepth 100000
set_option maxHeartbeats 4000000
namespace Go.Proofs.YtplgooajigigkaaGreatDoor
section
open Go
theorem rowJoined:joinedFacts Tryz.pinned.checked.prog 3 Tryz.f3 Rows.fnExactHeatFormSpec Rows.fnExactHeatFormRow=true:=by kernel_rfl
theorem R8:Rows.FnExactHeatFormSaid:=
 OpenClaim.holds_of_wide 3 Tryz.f3 rfl rfl rfl rfl rfl rfl rfl ⟨rfl,rfl,rfl,rfl,rfl⟩ rfl rfl rfl rfl rfl (by kernel_rfl) Tryz.func3 rowJoined
  (of_decide_eq_true (by kernel_rfl)) (by unfold Func.isWrapper;first|(rw[if_pos (by decide +kernel)];kernel_rfl)|(rw[if_neg (by decide +kernel)];exact⟨rfl,rfl⟩))
  (λos started H enc _=>lifted os started H enc)
end
section
open Go
theorem card_holds:Rows.FnExactHeatFormCardSaid:=
 Claim7.holds_tied_plain_at .later [] [.data,.data,.data] true (true, "d9c83bd244a95591186cdaa30942d84d202847d644499c933e62ea9418855f2a") true
  R8 (λ_ h=>by cases h) (by kernel_rfl) (λ_ h=>by cases h) fnExactHeatForm_row_tie rfl ⟨rfl,rfl⟩ (by kernel_rfl) rfl
  (λf fn hf hfn=>by
   obtain rfl:f=3:=Option.some.inj ((show Tryz.prog.funcNamed "loop.example/g00868/laws.FnExactHeatForm"=some 3 by kernel_rfl).symm.trans hf) |>.symm;obtain rfl:fn=Tryz.f3:=(Option.some.inj (Tryz.func3.symm.trans hfn)).symm;exact⟨by kernel_rfl,λj t ht=>by
    rw[Tryz.params3]at ht;have hm:t∈[24,26]:=(by simpa using Array.mem_of_getElem? ht);have hall:([24,26].all λu=>!Tryz.prog.wantsStandIn u)=true:=(by kernel_rfl);exact(show Tryz.prog.wantsStandIn t=false by simpa using List.all_eq_true.1 hall t hm)⟩)
  (by kernel_rfl)
#print axioms card_holds
end
