/-
  The statement's walk whole: it answers true, and what was there before stays.
  The argument of the law, opened: a tree by value.
  The lift of a law whose premise is what the listed variables read as, with the world's shape beside it.
  What the row's condition gives: the table of powers, and the cell of the shape.
  The row of FnExactTreeForm.
  The row of FnExactTreeForm holds: for every tree value the law answers true, where the listed tables read as the program's text lays them.
  The tied card of FnExactTreeForm: for every tree value the law answers true; the tables that it reads are tied to the program's text.
-/
import Derived.Test.YtjkdanmpihildaaGreatDoorQ52
import Derived.OpenShut
import Derived.ChangeSlices
import Derived.WideShapes
import Derived.Carry
import Derived.SizedLaws
import Derived.ReadAgain
import Derived.HandedShaped
import Derived.Handed
import Derived.LaidMore
import Derived.ProofKit
import Derived.Test.YtjkdanmpihildaaGreatDoorRows
import Derived.LaidSub
import Derived.Lib.LaidTab
import Derived.Stop.Joined
import Derived.Lay
import Derived.Test.YtjkdanmpihildaaGreatDoorTie
import Derived.Test.YtjkdanmpihildaaGreatDoorCards
import Derived.SevenTiedAt
namespace Go.Proofs.YtjkdanmpihildaaGreatDoor
open Go.RowKit

theorem whole_walk (v : Value) (us : List Int) (sb : ByteArray) (w : World) (hv : Ints w v us) (hs : sb.size ≤ 9223372036854775807) (hG : Glb w) :
    Calls Tryz.prog 3 #[.agg #[v, .string sb]] w fun e w' => e = .returned (.bool true) ∧ Ext w w' :=
  law_walk v us sb w hv hs fun v us sb W hx hi _ h2 => implTree_any v us sb W hi h2 (hG.ext hx)

end Go.Proofs.YtjkdanmpihildaaGreatDoor

namespace Go.Proofs.YtjkdanmpihildaaGreatDoor
open Go.RowKit Go.ChangeShapes Go.WideShapes Go.ChangeAt

theorem cells24 : (Tryz.prog).cellsOf 24 = 2 := by kernel_rfl
theorem cellsIs : (Tryz.prog).cellsOf 22 = 1 := by kernel_rfl
theorem cellsSt : (Tryz.prog).cellsOf 9 = 1 := by kernel_rfl

set_option maxRecDepth 100000 in
theorem tree_open {H : Type} {enc : TypeId × Value → H} {W : World} {b0 : Nat} {v : Value} {d : DataW H} {p : List MemPlace} (hv : Value.okWide Tryz.prog W .any b0 24 v) (h : DataW.Trod enc Tryz.prog W 0 (fun _ => true) true 24 v d p) :
    ∃ (vs : Value) (sb : ByteArray) (us : List Int), v = .agg #[vs, .string sb] ∧ sb.size ≤ maxLen ∧ ((DataW.weightsEach Tryz.prog [24] [d]).all (· ≤ reachBytes) = true → Ints W vs us) := by
  obtain ⟨cs, rfl, hsz⟩ := okWide_struct Tryz.underlying24 hv
  rw [cells24] at hsz
  obtain ⟨l⟩ := cs
  match l, hsz with
  | [c0, c1], _ =>
  obtain ⟨fuel, hf⟩ := h
  obtain ⟨y0, y1, m, hx, _, hy0, hy1⟩ := trod_struct2 Tryz.underlying24 hf
  simp only [Prod.mk.injEq] at hx
  obtain ⟨rfl, rfl⟩ := hx
  obtain ⟨sb, e1, rfl, hsb⟩ := DataW.trod_string Tryz.underlying9 hy1
  simp [Value.cells, cellsSt, cellsIs] at e1
  subst e1
  have hy0' : DataW.trod enc Tryz.prog W 0 (fun _ => true) true m 22 [c0] = some y0 := by simpa [Value.cells, cellsIs] using hy0
  rcases open_ints Tryz.underlying22 Tryz.underlying3 (by kernel_rfl) hy0' with ⟨hcs, hx0⟩ | ⟨a, len, cap, zs, hcs, hb, hl, hm, hz, hx0, hcell, hwf⟩
  · simp only [List.cons.injEq, and_true] at hcs
    subst hcs
    exact ⟨_, sb, [], rfl, hsb, fun _ => Ints.nil _ _ _⟩
  · simp only [List.cons.injEq, and_true] at hcs
    subst hcs
    simp only [if_true] at hz
    refine ⟨_, sb, zs.take len, rfl, hsb, fun hw => ?_⟩
    have hzl : (zs.take len).length = len := by rw [List.length_take]; omega
    have hlen : len * 8 ≤ reachBytes := by
      have h1 : (DataW.weightsEach Tryz.prog [22, 9] [y0.1, .lit (.string sb.data.toList)]).all (· ≤ reachBytes) = true := by
        have e : DataW.weightsEach Tryz.prog [24] [DataW.agg [y0.1, .lit (.string sb.data.toList)]] = DataW.weightsEach Tryz.prog [22, 9] [y0.1, (.lit (.string sb.data.toList) : DataW H)] := by
          simp [DataW.weightsEach, DataW.weights, Tryz.underlying24]
        rw [← e]; exact hw
      rw [hx0] at h1
      have h2 := Go.sized_slice h1 (j := 0) rfl rfl Tryz.underlying22
      have h3 : (Tryz.prog).bytesOf 3 = 8 := by kernel_rfl
      rw [h3] at h2
      have h4 : (lits IntKind.i64 (zs.take len) : List (DataW H)).length = len := by simp [lits]; omega
      rw [h4] at h2
      omega
    have hr : reachBytes = 140737488351232 := rfl
    refine ⟨some a, cap, by rw [hzl], by omega, by omega, fun h0 => ?_⟩
    obtain ⟨b, off, rfl, hc⟩ := ints_at hcell (by omega)
    refine ⟨b, off, rfl, fun i hi => ?_⟩
    rw [hc i (by omega)]
    have : i < zs.length := by omega
    have h2 : i < len := by omega
    simp [zat, List.getD, List.getElem?_take, h2]

end Go.Proofs.YtjkdanmpihildaaGreatDoor

namespace Go.Proofs.YtjkdanmpihildaaGreatDoor
open Go.RowKit Go.ChangeShapes Go.WideShapes Go.ChangeAt

theorem lift_shaped {H : Type} {enc : TypeId × Value → H} {a : Assume} {C : Checked} {os : Os} {f : FuncId} {fn : Func} {s : ChangeSpec} {conds : List PathCond} {apart fresh handsOn again : Bool} {X : World → Array Value → Prop}
    (hX : ∀ (w w' : World) (args : Array Value), w.heap = w'.heap → X w args → X w' args)
    (own : ownKnob C.prog.godebug = none) (started : os.Started) (noInit : C.prog.inits.idxOf? f = none) (hfn : C.prog.funcs[f]? = some fn)
    (witness : ∃ (w : World) (tape : Tape) (i : Input), w.os = os ∧ (w.forCall tape i).Shaped C.prog ∧ i.vars = [] ∧ Input.okWide C.prog (w.forCall tape i) .any w.heap.size f i ∧
      ((s.pre enc C.prog fn conds apart (w.forCall tape i).memory i.args ∧ X (w.forCall tape i).memory i.args) ∧ sizedMet enc C.prog fn (OpenSpec.ofChange s) apart (w.forCall tape i).memory i.args) ∧ a.holds C.prog (lone (Frame.enter C.prog f i.args .normal) [] (w.forCall tape i)))
    (contract : ∀ (W : World) (base : Nat) (args : Array Value) (ds gs : List (DataW H)) (before : List MemPlace),
      (∀ (j : Nat) t v, fn.params[j]? = some t → args[j]? = some v → Value.okWide C.prog W .any base t v) →
      DataW.Whole enc C.prog fn.params.toList s.vars apart W args.toList ds gs before →
      conds.all (PathCond.test C.prog ⟨fn.params.toList, ds, s.plain.varTypes C.prog, gs⟩) = true →
      (DataW.weightsEach C.prog (fn.params.toList ++ s.plain.varTypes C.prog) (ds ++ gs)).all (· ≤ reachBytes) = true → X W args → W.ShapedOpen C.prog →
      a.holds C.prog (lone (Frame.enter C.prog f args .normal) [] W) →
      Calls C.prog f args W fun e W' => ∃ v, e = .returned v ∧ s.post enc C.prog fn apart fresh handsOn again W args v W') :
    ReturnsInHanded a C os f .any (fun w args => (s.pre enc C.prog fn conds apart w args ∧ X w args) ∧ sizedMet enc C.prog fn (OpenSpec.ofChange s) apart w args) (s.post enc C.prog fn apart fresh handsOn again) := by
  refine returnsInHanded_of_calls own started noInit witness ?_
  intro w tape i _ hsh _ hok hpre hholds
  obtain ⟨_, _, _, fn', hfn', _, _, _, _, hval⟩ := hok
  have e : fn' = fn := Option.some.inj (hfn'.symm.trans hfn)
  subst e
  obtain ⟨⟨⟨ds, gs, before, hw, hc⟩, hx⟩, hz⟩ := hpre
  have hw' := DataW.Whole.of_heap (w' := w.forCall tape i) (by rfl) hw
  refine (contract (w.forCall tape i) w.heap.size i.args ds gs before hval hw' hc (hz.weights hw) (hX _ _ _ (by rfl) hx) hsh hholds).mono fun e W' ⟨v, he, hp⟩ => ?_
  subst he
  exact ChangeSpec.post_blind hp

end Go.Proofs.YtjkdanmpihildaaGreatDoor

namespace Go.Proofs.YtjkdanmpihildaaGreatDoor
open Go.RowKit

theorem pow_of {W : World} (h : laidMetH Tryz.prog Rows.fnExactTreeFormRow.laid W) : laidMet Tryz.prog [("internal/strconv.uint64pow10", Rows.laid_internal_strconv_uint64pow10)] W := by
  have h1 := h.filter (fun x => x.1 == "internal/strconv.uint64pow10")
  have e : Rows.fnExactTreeFormRow.laid.filter (fun x => x.1 == "internal/strconv.uint64pow10") = [("internal/strconv.uint64pow10", Rows.laid_internal_strconv_uint64pow10)] := by
    simp [Rows.fnExactTreeFormRow, List.filter]
  rw [e, MakeChecks.laidMetH_plain _ _ _ (by kernel_rfl)] at h1
  exact h1
theorem tab_eq : (Rows.laid_internal_strconv_uint64pow10 : DataW Unit) = Lib.tabData .u64 Lib.pow10Tab := by rfl
theorem shape_cell {W : World} (h : W.ShapedOpen Tryz.prog) : ∃ m, W.cell? ⟨3, 0, none⟩ = some (.int .i64 m) := Tryz.laysM146.s1_3 W h

theorem glb_of {W : World} (h : laidMetH Tryz.prog Rows.fnExactTreeFormRow.laid W) (hS : W.ShapedOpen Tryz.prog) : Glb W := by
  have h1 := pow_of h
  rw [tab_eq] at h1
  exact ⟨Lib.tabBelow_of_tabIs (Lib.tabIs_of_head (g := 2) (t := 190) (e := 160) (n := 20) (by kernel_rfl) (by kernel_rfl) (by kernel_rfl) (by kernel_rfl) (by kernel_rfl) (by kernel_rfl) h1), shape_cell hS⟩

end Go.Proofs.YtjkdanmpihildaaGreatDoor

namespace Go.Proofs.YtjkdanmpihildaaGreatDoor
open Go.ChangeShapes Go.WideShapes Go.ChangeAt Go.RowKit

theorem ownK : ownKnob Tryz.prog.godebug = none := by kernel_rfl
theorem door_met (os : Os) (args : Array Value) : laidMetH Tryz.prog Rows.fnExactTreeFormRow.laid ((World.laidAll Tryz.prog os Rows.fnExactTreeFormRow.laid).forCall (fun _ _ => 0) ⟨#[], args, []⟩).memory := by
  rw [MakeChecks.laidMetH_plain _ _ _ (by kernel_rfl)]
  exact laidMet_laidAll args (by kernel_rfl) (by kernel_rfl)

set_option maxRecDepth 100000 in
theorem lifted (os : Os) (started : os.Started) (H : Type) (enc : TypeId × Value → H) :
    ReturnsInHanded {} Tryz.checked os 3 .any (fun w args => (Rows.fnExactTreeFormSpec.pre enc Tryz.prog Tryz.f3 [] false w args ∧ laidMetH Tryz.prog Rows.fnExactTreeFormRow.laid w) ∧ sizedMet enc Tryz.prog Tryz.f3 (OpenSpec.ofChange Rows.fnExactTreeFormSpec) false w args)
      (Rows.fnExactTreeFormSpec.post enc Tryz.prog Tryz.f3 false true false false) := by
  refine lift_shaped (C := Tryz.checked) (X := fun w _ => laidMetH Tryz.prog Rows.fnExactTreeFormRow.laid w) (fun _ _ _ hh h => h.of_heap hh) ownK started (by kernel_rfl) Tryz.func3
    (ChangeSpec.witness_shaped (enc := enc) (C := Tryz.checked) (os := os) (X := fun w _ => laidMetH Tryz.prog Rows.fnExactTreeFormRow.laid w) false (World.laidAll Tryz.prog os Rows.fnExactTreeFormRow.laid) #[.agg #[.slice none 0 0, .string ⟨#[]⟩]] 8 (World.laidAll_os _ _ _) (World.shaped_of_ZipB (by kernel_rfl) (by kernel_rfl)) (by kernel_rfl) (by kernel_rfl) (by kernel_rfl) (door_met os _)) ?_
  intro W base args ds gs before hval0 hW _ hwt hL hS _
  have hval : ∀ (j : Nat) t v, Tryz.f3.params[j]? = some t → args[j]? = some v → Value.okWide Tryz.prog W .any base t v := hval0
  have hW' := hW
  obtain ⟨p, q, hA0, hV, rfl, hfz, hnd⟩ := hW
  have hA : DataW.TrodAll enc Tryz.prog W 0 (fun _ => true) true Tryz.f3.params.toList args.toList ds p := hA0
  rw [Tryz.params3] at hA hval
  obtain ⟨v0, d0, rfl, rfl, h0⟩ := trodAll_one hA
  obtain ⟨rfl, rfl⟩ := trodVars_none hV
  obtain ⟨vs, sb, us, rfl, hsb, hI⟩ := tree_open (hval 0 24 v0 rfl rfl) h0
  have hwt' : (DataW.weightsEach Tryz.prog [24] [d0]).all (· ≤ reachBytes) = true := by
    have h := hwt
    rw [show Tryz.f3.params = _ from Tryz.params3] at h
    exact h
  refine (whole_walk vs us sb W (hI hwt') (by simpa [maxLen] using hsb) (glb_of hL hS)).mono fun e W' ⟨he, hx⟩ => ?_
  subst he
  have hlt : ∀ x ∈ p, x.block < W.heap.size := fun x hm => by simpa using hW'.lt x (by simp [hm])
  refine ⟨_, rfl, _, _, _, [], p, [], hW', trodAll_mk1 (shut_bool Tryz.underlying4 _), ?_, ?_, hx.frame _, fun h => by cases h⟩
  · exact trodAll_mk1 (Below.trod laidO (by kernel_rfl) (of_decide_eq_true (by kernel_rfl)) h0 hx hlt)
  · exact rfl

end Go.Proofs.YtjkdanmpihildaaGreatDoor

namespace Go.Proofs.YtjkdanmpihildaaGreatDoor
open Go

theorem row_holds : Rows.FnExactTreeFormSaid :=
  OpenClaim.holds_of_wide 3 Tryz.f3 rfl rfl rfl rfl rfl rfl rfl ⟨rfl, rfl, rfl, rfl, rfl⟩ rfl rfl rfl rfl rfl (by kernel_rfl) Tryz.func3 (by kernel_rfl)
    (of_decide_eq_true (by kernel_rfl)) (by unfold Func.isWrapper; first | (rw [if_pos (by decide +kernel)]; kernel_rfl) | (rw [if_neg (by decide +kernel)]; exact ⟨rfl, rfl⟩))
    (fun os started H enc _ => lifted os started H enc)

end Go.Proofs.YtjkdanmpihildaaGreatDoor

namespace Go.Proofs.YtjkdanmpihildaaGreatDoor
open Go

theorem card_holds : Rows.FnExactTreeFormCardSaid :=
  Claim7.holds_tied_plain_at .later [] [.data, .data, .data, .data, .sentinel, .sentinel, .pinned] true (true, "e1e6d611367a315daa0f24da81df4fbe17ee9d37f736f33ee1734b3bda9bbb5d") true
    row_holds (fun _ h => by cases h) (by kernel_rfl) (fun _ h => by cases h) fnExactTreeForm_row_tie rfl ⟨rfl, rfl⟩ (by kernel_rfl) rfl
    (fun f fn hf hfn => by
      obtain rfl : f = 3 := Option.some.inj ((show Tryz.prog.funcNamed "loop.example/g00868/laws.FnExactTreeForm" = some 3 by kernel_rfl).symm.trans hf) |>.symm
      obtain rfl : fn = Tryz.f3 := (Option.some.inj (Tryz.func3.symm.trans hfn)).symm
      exact ⟨by kernel_rfl, fun j t ht => by
        rw [Tryz.params3] at ht
        have hm : t ∈ [24] := by simpa using Array.mem_of_getElem? ht
        have hall : ([24].all fun u => !Tryz.prog.wantsStandIn u) = true := by kernel_rfl
        exact (show Tryz.prog.wantsStandIn t = false by simpa using List.all_eq_true.1 hall t hm)⟩)
    (by kernel_rfl)
#print axioms card_holds

end Go.Proofs.YtjkdanmpihildaaGreatDoor
