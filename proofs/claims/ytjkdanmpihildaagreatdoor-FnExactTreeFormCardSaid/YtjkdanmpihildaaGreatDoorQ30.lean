/-
  Contract of the reference's TreeForm.
-/
import Derived.Test.YtjkdanmpihildaaGreatDoorQ29
import Derived.Laws.ResultCell
namespace Go.Proofs.YtjkdanmpihildaaGreatDoor
open Go.RowKit
open Cgt (Dag Nd vl Same Gm Canon Eqv Ge)

theorem sign_iff (b : UInt8) : isSign b = true ↔ b = 76 ∨ b = 82 := by rw [isSign, Bool.or_eq_true, beq_iff_eq, beq_iff_eq]
theorem goodT_iff {us : List Int} {s : ByteArray} : goodT us s = true ↔ GT us s.data.toList := by
  have hsz : s.size = s.data.toList.length := by rw [Array.length_toList]; rfl
  unfold goodT signsB
  simp only [Bool.and_eq_true, decide_eq_true_eq]
  constructor
  · rintro ⟨⟨h1, h2, h3⟩, h4⟩
    refine ⟨by omega, by omega, fun c hc => ?_, fun i hi => ?_⟩
    · obtain ⟨i, hi, rfl⟩ := List.mem_iff_getElem.1 hc
      have := h2 i (by omega)
      exact (sign_iff _).1 this
    · have := h4 i hi
      simp [inB] at this; omega
  · intro h
    refine ⟨⟨by have := h.len; omega, fun i hi => (sign_iff _).2 (h.sign _ ?_), by have := h.len; have := h.small; omega⟩, fun i hi => ?_⟩
    · exact List.getElem_mem (l := s.data.toList) (n := i) (by omega)
    · have := h.up i hi; simp [inB]; omega
theorem val_unique {F G : Dag} {us : List Int} {s : List UInt8} (h : TreeVal F us s) (k : TreeVal G us s) : F = G := by
  obtain ⟨i1, g1, s1, c1, e1⟩ := h
  obtain ⟨i2, g2, s2, c2, e2⟩ := k
  exact Cgt.form_unique i1 i2 (Cgt.same_trans s1 (Cgt.same_trans (Cgt.canon_unique c1 c2 (e1.trans e2.symm)) (Cgt.same_symm s2)))

def ResOf (us : List Int) (s : ByteArray) (Fr : Dag) (ok : Bool) : Prop := (goodT us s = true ∧ ∃ F, TreeVal F us s.data.toList ∧ ok = fitsN F ∧ Fr = if ok then F else []) ∨ (goodT us s = false ∧ ok = false ∧ Fr = [])
theorem ResOf.unique {us : List Int} {s : ByteArray} {F G : Dag} {a b : Bool} (h : ResOf us s F a) (k : ResOf us s G b) : F = G ∧ a = b := by
  rcases h with ⟨h1, F1, h2, h3, h4⟩ | ⟨h1, h2, h3⟩ <;> rcases k with ⟨k1, F2, k2, k3, k4⟩ | ⟨k1, k2, k3⟩
  · have := val_unique h2 k2
    subst this; subst h3; subst k3; exact ⟨by rw [h4, k4], rfl⟩
  · rw [h1] at k1; cases k1
  · rw [h1] at k1; cases k1
  · exact ⟨by rw [h3, k3], by rw [h2, k2]⟩

theorem results_row_tmp {P : Program} {fn : Func} {p u : Tmp} {ty : TypeId} (h : fn.results = #[.cell p ty, .tmp u]) (tmps : Array Value) (w : World) (g : Nat) (t : TypeId) (cs : Array Value) (fr : Nat × Nat) (d : TypeDesc)
    (hp : tmps.getD p undef = .pointer (some ⟨g, 0, none⟩)) (hg : w.heap[g]? = some (.cells cs t fr))
    (hu : P.underlying ty = some d) (hd : (match d with | .struct _ | .array _ _ => true | _ => false) = true) (hi : (P.info? ty).map (·.size) = some cs.size) {v : Value} (hv : tmps.getD u undef = v) :
    (results fn tmps).run P w = .ok (.tuple #[.agg cs, v]) w := by
  have hp' : tmps[p]?.getD undef = .pointer (some ⟨g, 0, none⟩) := by simpa using hp
  subst hv
  rw [results_cell_tmp h]
  simp [hp', asAddr, run_loadVar_row w g t ty cs fr d hg hu hd hi]
theorem Ints.sup2 {w : World} {v : Value} {l : List Int} (h : Ints w v l) {S : Nat → Prop} (hS : ∀ b, S b → b < w.heap.size) (hv : ∀ b, b < w.heap.size → v.ownBlock = some b → S b) : Sup S (fun W => Ints W v l) w :=
  ⟨hS, fun _ h2 => h.keep fun b hl hb => h2 b (hv b (h.blk hl hb) hb)⟩
theorem TB.empty {w : World} {px : Nat} (h : w.heap[px]? = some (.cells #[.slice none 0 0, .slice none 0 0] 44 (0, 0))) : TB w px (.slice none 0 0) (.slice none 0 0) (fun _ => False) [] :=
  ⟨h, ⟨by simp, .inl ⟨rfl, rfl⟩⟩, ⟨[], ⟨by simp, .inl ⟨rfl, rfl⟩⟩, Items.nil (fun b h => h.elim)⟩, fun b h => h.elim, by simp [Value.ownBlock], by simp [Value.ownBlock], by simp [Value.ownBlock], fun x h => absurd h (by simp)⟩
def SpecPost (us : List Int) (s : ByteArray) (w : World) (e : Ending) (w' : World) : Prop :=
  ∃ vN Fr ok, e = .returned (.tuple #[.agg #[vN], .bool ok]) ∧ Nodes w' 0 vN Fr ∧ ResOf us s Fr ok ∧ Ext w w'

set_option maxHeartbeats 2000000 in
set_option maxRecDepth 100000 in
theorem specTree_any (v : Value) (us : List Int) (sb : ByteArray) (w : World) (hv : Ints w v us) (hs : sb.size ≤ 2000000) : Calls Tryz.prog 5 #[.agg #[v, .string sb]] w (SpecPost us sb w) := by
  obtain ⟨a, cap, rfl, hcap, hml, hcells⟩ := id hv
  have hb1 : (((w.alloc (.cells #[.slice a us.length cap, .string sb] 31)).alloc (.cells #[.slice none 0 0] 28))).heap[w.heap.size]? = some (.cells #[.slice a us.length cap, .string sb] 31 (0, 0)) := by
    rw [Below.heap_alloc _ _ _ (by simp)]; exact heap_alloc_new _ _
  have hb2 : (((w.alloc (.cells #[.slice a us.length cap, .string sb] 31)).alloc (.cells #[.slice none 0 0] 28))).heap[w.heap.size + 1]? = some (.cells #[.slice none 0 0] 28 (0, 0)) := by
    have h := heap_alloc_new (w.alloc (.cells #[.slice a us.length cap, .string sb] 31)) (.cells #[.slice none 0 0] 28); rw [World.size_alloc] at h; exact h
  have hx2 : Ext w ((w.alloc (.cells #[.slice a us.length cap, .string sb] 31)).alloc (.cells #[.slice none 0 0] 28)) := by go_grown
  cases hg : goodT us sb with
  | false =>
    go_enter Tryz.func5, Tryz.ntmps5
    go_upto_region 1 with fail
    generalize (w.alloc (.cells #[.slice a us.length cap, .string sb] 31)).alloc (.cells #[.slice none 0 0] 28) = W at *
    have c0 := cell_of_row W w.heap.size 0 _ _ _ hb1
    have c1 := cell_of_row W w.heap.size 1 _ _ _ hb1
    go_wp2_with (go_at_call 14; refine (GoodTree_any _ us sb _ (hv.ext hx2) hs).mono ?_; rintro e w1 ⟨he, hx1⟩; rw [hg] at he; subst he; have hr1 : w1.heap[w.heap.size + 1]? = some (.cells #[.slice none 0 0] 28 (0, 0)) := (hx1.block _ (blk_lt hb2)).trans hb2; have d0 := cell_of_row w1 (w.heap.size + 1) 0 _ _ _ hr1; have f0 := frozen_of_row w1 (w.heap.size + 1) 0 _ _ hr1)
    have HH := Lib.hid (heap_setCell_same w1 (w.heap.size + 1) 0 _ _ (.slice none 0 0) hr1)
    (try simp only [Exit.inBlock, Exit.then])
    refine bodyPost_ret (results_row_tmp rfl _ _ (w.heap.size + 1) 28 #[.slice none 0 0] (0, 0) _ rfl HH.out Tryz.underlying28 rfl (by kernel_rfl) rfl) rfl ?_
    exact ⟨_, [], false, rfl, ⟨none, 0, rfl, Nat.le_refl _, Nat.zero_le _, fun h => absurd h (by simp)⟩, .inr ⟨hg, rfl, rfl⟩, (ext_trans hx2 hx1).setCell (p := ⟨w.heap.size + 1, 0, none⟩) (by show w.heap.size ≤ w.heap.size + 1; omega) _⟩
  | true =>
    have hGT := goodT_iff.1 hg
    go_enter Tryz.func5, Tryz.ntmps5
    go_upto_region 1 with fail
    generalize (w.alloc (.cells #[.slice a us.length cap, .string sb] 31)).alloc (.cells #[.slice none 0 0] 28) = W at *
    have c0 := cell_of_row W w.heap.size 0 _ _ _ hb1
    have c1 := cell_of_row W w.heap.size 1 _ _ _ hb1
    go_upto_region 3 with (go_at_call 14; refine (GoodTree_any _ us sb _ (hv.ext hx2) hs).mono ?_; rintro e w1 ⟨he, hx1⟩; rw [hg] at he; subst he)
    have hE1 := ext_trans hx2 hx1
    have hr1 : w1.heap[w.heap.size + 1]? = some (.cells #[.slice none 0 0] 28 (0, 0)) := (hx1.block _ (blk_lt hb2)).trans hb2
    have hq1 : w1.heap[w.heap.size]? = some (.cells #[.slice a us.length cap, .string sb] 31 (0, 0)) := (hx1.block _ (blk_lt hb1)).trans hb1
    go_upto_region 4 with fail
    have hxb : Ext w1 (w1.alloc (.cells #[.slice none 0 0, .slice none 0 0] 44)) := by go_grown
    have hpb := heap_alloc_new w1 (.cells #[.slice none 0 0, .slice none 0 0] 44)
    have hrb : (w1.alloc (.cells #[.slice none 0 0, .slice none 0 0] 44)).heap[w.heap.size + 1]? = some (.cells #[.slice none 0 0] 28 (0, 0)) := (hxb.block _ (blk_lt hr1)).trans hr1
    have hqb : (w1.alloc (.cells #[.slice none 0 0, .slice none 0 0] 44)).heap[w.heap.size]? = some (.cells #[.slice a us.length cap, .string sb] 31 (0, 0)) := (hxb.block _ (blk_lt hq1)).trans hq1
    have hE2 := ext_trans hE1 hxb
    have hzp : w.heap.size + 1 < w1.heap.size := blk_lt hr1
    generalize w1.alloc (.cells #[.slice none 0 0, .slice none 0 0] 44) = W2 at *
    generalize w1.heap.size = px at *
    have hTB := TB.empty hpb
    have hpx := blk_lt hpb
    have hIS : ∀ b, InS px (.slice none 0 0) (.slice none 0 0) b → b = px := fun b hb => by
      rcases hb with h | h | h
      · exact h
      · simp [Value.ownBlock] at h
      · simp [Value.ownBlock] at h
    have hsup : Sup (Free W2 px (.slice none 0 0) (.slice none 0 0)) (fun W => Ints W (.slice a us.length cap) us) W2 :=
      ⟨fun b hb => hb.1, fun W h2 => (hv.ext hE2).keep fun b hl hb => h2 b ⟨(hv.ext hE2).blk hl hb, fun k => by have := hIS b k; have := hv.blk hl hb; omega⟩⟩
    have c0 := cell_of_row W2 w.heap.size 0 _ _ _ hqb
    have c1 := cell_of_row W2 w.heap.size 1 _ _ _ hqb
    have hk8 := kN_8 hGT.small
    go_upto_region 5 with (go_at_call 15; refine (value_any us.length us sb _ px _ _ _ [] _ (Nat.le_refl _) hGT hsup hTB (by simp; omega)).mono ?_; rintro e w3 ⟨vN, F, vt', vf', S', L', rfl, hsN, hTV, hFk, hB3, hG3, hL3⟩; obtain ⟨aN, cN, rfl⟩ := hsN.out.slice)
    have hz3 := hG3.keep.size
    have hrI : ¬ InS px (.slice none 0 0) (.slice none 0 0) (w.heap.size + 1) := fun k => by have := hIS _ k; omega
    have hr3 : w3.heap[w.heap.size + 1]? = some (.cells #[.slice none 0 0] 28 (0, 0)) := (hG3.block (blk_lt hrb) hrI).trans hrb
    have hE3 : Ext w w3 := ⟨hG3.keep.os.trans hE2.os, hG3.keep.tape.trans hE2.tape, hG3.keep.output.trans hE2.output, Nat.le_trans hE2.size hG3.keep.size, fun k hk => (hG3.block (Nat.lt_of_lt_of_le hk hE2.size) (fun h => by have := hIS _ h; omega)).trans (hE2.block k hk)⟩
    have hx4 : Ext w3 (w3.alloc (.cells #[.slice aN (List.length F) cN] 28)) := by go_grown
    have hf4 := heap_alloc_new w3 (.cells #[.slice aN (List.length F) cN] 28)
    have hN4 := hsN.out.ext hx4
    have hsN4 := hsN.ext hx4
    have hS4 : ∀ b, S' b → b ≠ w.heap.size + 1 := fun b hb e => by
      rcases hG3.s2 b hb with k | k
      · exact k
      · have := blk_lt hrb; omega
    have hr4 : (w3.alloc (.cells #[.slice aN (List.length F) cN] 28)).heap[w.heap.size + 1]? = some (.cells #[.slice none 0 0] 28 (0, 0)) := (hx4.block _ (blk_lt hr3)).trans hr3
    have hE4 := ext_trans hE3 hx4
    generalize w3.alloc (.cells #[.slice aN (List.length F) cN] 28) = W4 at *
    generalize w3.heap.size = pf at *
    have cf := cell_of_row W4 pf 0 _ _ _ hf4
    have HT := Lib.hid hTV
    have hIF := hTV.1
    clear hTV hx4 hE3 hE2 hE1 hx2 hG3 hB3 hsN hr3 hrI hTB hsup hpb hqb hrb hIS
    cases hfit : fitsN F with
    | false =>
      go_wp2_with (go_at_call 16; refine (GoodForm_any _ F _ hN4 hIF).mono ?_; rintro e w5 ⟨he, hx5⟩; rw [hfit] at he; subst he; have hr5 : w5.heap[w.heap.size + 1]? = some (.cells #[.slice none 0 0] 28 (0, 0)) := (hx5.block _ (blk_lt hr4)).trans hr4; have d0 := cell_of_row w5 (w.heap.size + 1) 0 _ _ _ hr5; have f0 := frozen_of_row w5 (w.heap.size + 1) 0 _ _ hr5)
      have HH := Lib.hid (heap_setCell_same w5 (w.heap.size + 1) 0 _ _ (.slice none 0 0) hr5)
      (try simp only [Exit.inBlock, Exit.then])
      refine bodyPost_ret (results_row_tmp rfl _ _ (w.heap.size + 1) 28 #[.slice none 0 0] (0, 0) _ rfl HH.out Tryz.underlying28 rfl (by kernel_rfl) rfl) rfl ?_
      exact ⟨_, [], false, rfl, ⟨none, 0, rfl, Nat.le_refl _, Nat.zero_le _, fun h => absurd h (by simp)⟩, .inl ⟨hg, F, HT.out, hfit.symm, rfl⟩, (ext_trans hE4 hx5).setCell (p := ⟨w.heap.size + 1, 0, none⟩) (by show w.heap.size ≤ w.heap.size + 1; omega) _⟩
    | true =>
      go_wp2_with (go_at_call 16; refine (GoodForm_any _ F _ hN4 hIF).mono ?_; rintro e w5 ⟨he, hx5⟩; rw [hfit] at he; subst he; have hr5 : w5.heap[w.heap.size + 1]? = some (.cells #[.slice none 0 0] 28 (0, 0)) := (hx5.block _ (blk_lt hr4)).trans hr4; have d0 := cell_of_row w5 (w.heap.size + 1) 0 _ _ _ hr5; have f0 := frozen_of_row w5 (w.heap.size + 1) 0 _ _ hr5; have cf5 : w5.cell? ⟨pf, 0, none⟩ = some (.slice aN (List.length F) cN) := (hx5.cell (lt_of_cell cf)).trans cf)
      have HH := Lib.hid (heap_setCell_same w5 (w.heap.size + 1) 0 _ _ (.slice aN (List.length F) cN) hr5)
      (try simp only [Exit.inBlock, Exit.then])
      refine bodyPost_ret (results_row_tmp rfl _ _ (w.heap.size + 1) 28 #[.slice aN (List.length F) cN] (0, 0) _ rfl HH.out Tryz.underlying28 rfl (by kernel_rfl) rfl) rfl ?_
      exact ⟨_, F, true, rfl, ((hsN4.ext hx5).keep (keep_set (p := ⟨w.heap.size + 1, 0, none⟩) (v := .slice aN (List.length F) cN)) hS4).out, .inl ⟨hg, F, HT.out, hfit.symm, rfl⟩, (ext_trans hE4 hx5).setCell (p := ⟨w.heap.size + 1, 0, none⟩) (by show w.heap.size ≤ w.heap.size + 1; omega) _⟩

end Go.Proofs.YtjkdanmpihildaaGreatDoor
