/-
  The statement's walk, given the contract of the program's TreeForm.
-/
import Derived.Test.YtjkdanmpihildaaGreatDoorQ44
namespace Go.Proofs.YtjkdanmpihildaaGreatDoor
open Go.RowKit
open Cgt (Dag Nd vl Same)

def lsOf (F : Dag) (j : Nat) : List Int := if j % 2 = 0 then toZ (F.getD (j / 2) ([], [])).1 else toZ (F.getD (j / 2) ([], [])).2
def ImplPost (us : List Int) (s : ByteArray) (w : World) (e : Ending) (w' : World) : Prop :=
  ∃ vN Fr ok sl, e = .returned (.tuple #[.agg #[vN], .bool ok]) ∧ ResOf us s Fr ok ∧ FO w' w.heap.size vN Fr.length sl (lsOf Fr) ∧ Ext w w'

theorem FO.keepG {w w' : World} {B : Nat} {v : Value} {n : Nat} {sl : Nat → Value} {ls : Nat → List Int} {G : Nat → Prop} (h : FO w B v n sl ls) (hk : Keep G w w') (hG : ∀ b, G b → b < B) : FO w' B v n sl ls := by
  obtain ⟨xs, h1, h2⟩ := h.row
  exact ⟨⟨xs, own_keepG h1 hk (fun b hb g => by have := hG b g; have := (h1.lt b hb).1; omega), h2⟩, fun j hj => own_keepG (h.own j hj) hk (fun b hb g => by have := hG b g; have := ((h.own j hj).lt b hb).1; omega), h.ap, h.ap0⟩
theorem FO.lists {w : World} {B : Nat} {v : Value} {n : Nat} {sl : Nat → Value} {ls : Nat → List Int} (h : FO w B v n sl ls) {b : Nat} (hb : Lists n sl b) : B ≤ b ∧ b < w.heap.size := by
  obtain ⟨j, hj, e⟩ := hb; exact (h.own j hj).lt b e
theorem FO.top {w : World} {B : Nat} {v : Value} {n : Nat} {sl : Nat → Value} {ls : Nat → List Int} (h : FO w B v n sl ls) : ∃ a c, v = .slice a n c := by
  obtain ⟨xs, h1, _⟩ := h.row; obtain ⟨a, c, h, _⟩ := own_len h1; exact ⟨a, c, h⟩
theorem FO.nodes {w : World} {B : Nat} {v : Value} {F : Dag} {sl : Nat → Value} (h : FO w B v F.length sl (lsOf F)) (hs : ∀ j, j < 2 * F.length → (lsOf F j).length ≤ 1152921504606846976) (hl : F.length ≤ maxLen) : Nodes w 0 v F := by
  obtain ⟨xs, h1, h2⟩ := h.row
  refine Nodes.of_own (K := fun _ => False) (own_base h1 (Nat.zero_le _)) (fun i hi => ?_)
  have g : F.getD i ([], []) = F[i] := by rw [List.getD_eq_getElem?_getD, List.getElem?_eq_getElem hi]; rfl
  have e0 : lsOf F (2 * i) = toZ (F[i]).1 := by unfold lsOf; rw [if_pos (by omega), show 2 * i / 2 = i by omega, g]
  have e1 : lsOf F (2 * i + 1) = toZ (F[i]).2 := by unfold lsOf; rw [if_neg (by omega), show (2 * i + 1) / 2 = i by omega, g]
  have o0 := h.own (2 * i) (by omega)
  have o1 := h.own (2 * i + 1) (by omega)
  have s0 := hs (2 * i) (by omega)
  have s1 := hs (2 * i + 1) (by omega)
  rw [e0] at o0 s0
  rw [e1] at o1 s1
  exact ⟨sl (2 * i), sl (2 * i + 1), by rw [Nat.mul_comm]; exact h2 _ (by omega), by rw [Nat.mul_comm]; exact h2 _ (by omega), Ints.of_own o0 s0, Ints.of_own o1 s1, fun b hb => ⟨Nat.zero_le _, (o0.lt b hb).2, id⟩, fun b hb => ⟨Nat.zero_le _, (o1.lt b hb).2, id⟩⟩
theorem res_small {us : List Int} {s : ByteArray} {F : Dag} {ok : Bool} (h : ResOf us s F ok) : F.length ≤ 120 ∧ ∀ j, j < 2 * F.length → (lsOf F j).length ≤ 24 := by
  rcases h with ⟨_, F', h1, h2, h3⟩ | ⟨_, _, h3⟩
  · cases ok with
    | false => simp at h3; subst h3; simp
    | true =>
      simp at h3; subst h3
      have hf := h2.symm
      unfold fitsN at hf
      obtain ⟨_, f2, f3⟩ := of_decide_eq_true hf
      refine ⟨f2, fun j hj => ?_⟩
      have hi : j / 2 < F.length := by omega
      have g : F.getD (j / 2) ([], []) = F[j / 2] := by rw [List.getD_eq_getElem?_getD, List.getElem?_eq_getElem hi]; rfl
      unfold lsOf
      split
      · rw [toZ_len, g]; exact (f3 _ hi).1
      · rw [toZ_len, g]; exact (f3 _ hi).2
  · subst h3; simp
theorem cnt_small {ls : Nat → List Int} {n : Nat} (h : ∀ j, j < n → (ls j).length ≤ 24) : cntAt ls n ≤ 1 + 24 * n := by
  induction n with
  | zero => simp [cntAt]
  | succ n ih =>
    have := ih fun j hj => h j (by omega)
    have := h n (by omega)
    rw [cntAt]; omega

set_option maxHeartbeats 4000000 in
set_option maxRecDepth 100000 in
theorem law_walk (v : Value) (us : List Int) (sb : ByteArray) (w : World) (hv : Ints w v us) (hs : sb.size ≤ 9223372036854775807)
    (HI : ∀ (v : Value) (us : List Int) (sb : ByteArray) (W : World), Ext w W → Ints W v us → us.length ≤ 1048576 → sb.size ≤ 1048576 → Calls Tryz.prog 7 #[.agg #[v, .string sb]] W (ImplPost us sb W)) :
    Calls Tryz.prog 3 #[.agg #[v, .string sb]] w fun e w' => e = .returned (.bool true) ∧ Ext w w' := by
  obtain ⟨a, cap, rfl, hlc, hcap, -⟩ := id hv
  have hx0 : Ext w (w.alloc (.cells #[.slice a us.length cap, .string sb] 24)) := by go_grown
  have b0 := heap_alloc_new w (.cells #[.slice a us.length cap, .string sb] 24)
  by_cases hz : szT us sb 1048576 < 0
  · go_enter Tryz.func3, Tryz.ntmps3
    go_upto_region 2 with fail
    generalize w.alloc (.cells #[.slice a us.length cap, .string sb] 24) = W at *
    have c0 := cell_of_row W w.heap.size 0 _ _ _ b0
    have c1 := cell_of_row W w.heap.size 1 _ _ _ b0
    go_wp2_with (go_at_call 4; refine (szTree_any _ us sb _ _ (hv.ext hx0) (by omega) (by omega) hs).mono ?_; rintro e w1 ⟨rfl, hx1⟩)
    go_ret
    exact ⟨rfl, ext_trans hx0 hx1⟩
  · have hul : us.length ≤ 1048576 ∧ sb.size ≤ 1048576 ∧ 0 ≤ szT us sb 1048576 := by
      unfold szT at hz ⊢
      split at hz
      · omega
      · split at hz
        · omega
        · rename_i h1 h2; rw [if_neg h1, if_neg h2]; omega
    go_enter Tryz.func3, Tryz.ntmps3
    go_upto_region 2 with fail
    generalize w.alloc (.cells #[.slice a us.length cap, .string sb] 24) = W at *
    have c0 := cell_of_row W w.heap.size 0 _ _ _ b0
    have c1 := cell_of_row W w.heap.size 1 _ _ _ b0
    go_upto_region 3 with (go_at_call 4; refine (szTree_any _ us sb _ _ (hv.ext hx0) (by omega) (by omega) hs).mono ?_; rintro e w1 ⟨rfl, hx1⟩)
    have b1 := (hx1.block _ (blk_lt b0)).trans b0
    have hE1 := ext_trans hx0 hx1
    have d0 := cell_of_row w1 w.heap.size 0 _ _ _ b1
    have d1 := cell_of_row w1 w.heap.size 1 _ _ _ b1
    clear c0 c1 b0 hx0 hx1
    obtain ⟨hu1, hu2, hu3⟩ := hul
    go_upto_region 6 with (first
      | (go_at_call 6; refine (toTree_any _ us sb _ (hv.ext hE1) hu1).mono ?_; rintro e w2 ⟨v2, rfl, ho2, hx2⟩)
      | (go_at_call 5; refine (specTree_any _ us sb _ (Ints.of_own ho2 (by omega)) (by omega)).mono ?_; rintro e w3 ⟨vS, FS, okS, rfl, hNS, hRS, hx3⟩; obtain ⟨aS, cS, rfl⟩ := hNS.slice))
    have hNS0 := hNS.sup (S := fun b => b < w3.heap.size) (fun b h => h) (fun b _ h => h)
    have hE3 := ext_trans (ext_trans hE1 hx2) hx3
    have b3 := (hx3.block _ (blk_lt ((hx2.block _ (blk_lt b1)).trans b1))).trans ((hx2.block _ (blk_lt b1)).trans b1)
    have hx4 : Ext w3 (w3.alloc (.cells #[.slice aS (List.length FS) cS] 28)) := by go_grown
    have p4b := heap_alloc_new w3 (.cells #[.slice aS (List.length FS) cS] 28)
    have hNS4 := hNS0.ext hx4
    have hE4 := ext_trans hE3 hx4
    have b4 := (hx4.block _ (blk_lt b3)).trans b3
    have hzS : w.heap.size ≤ w3.heap.size := hE3.size
    generalize w3.alloc (.cells #[.slice aS (List.length FS) cS] 28) = W4 at *
    generalize w3.heap.size = p4 at *
    have d0 := cell_of_row W4 w.heap.size 0 _ _ _ b4
    have d1 := cell_of_row W4 w.heap.size 1 _ _ _ b4
    clear hx4 hx3 hx2 hE3 hE1 b3 b1 ho2 hNS hNS0
    go_upto_region 7 with (go_at_call 6; refine (toTree_any _ us sb _ (hv.ext hE4) hu1).mono ?_; rintro e w5 ⟨vx, rfl, hox, hx5⟩; obtain ⟨ax, cx, rfl, -⟩ := own_len hox)
    have hE5 := ext_trans hE4 hx5
    have hx6 : Ext w5 (w5.alloc (.cells #[.slice ax us.length cx, .string sb] 31)) := by go_grown
    have p6b := heap_alloc_new w5 (.cells #[.slice ax us.length cx, .string sb] 31)
    have hE6 := ext_trans hE5 hx6
    have hx46 := ext_trans hx5 hx6
    have b6 := (hx46.block _ (blk_lt b4)).trans b4
    have q6 := (hx46.block _ (blk_lt p4b)).trans p4b
    have hNS6 := hNS4.ext hx46
    have hox6 := own_keep hox hx6
    have hzx : w.heap.size ≤ W4.heap.size := hE4.size
    have hz4 : p4 < W4.heap.size := blk_lt p4b
    have hz5 : W4.heap.size ≤ w5.heap.size := hx5.size
    have hxlt : ∀ b, Value.ownBlock (.slice ax us.length cx) = some b → W4.heap.size ≤ b ∧ b < w5.heap.size := fun b hb => hox.lt b hb
    generalize w5.alloc (.cells #[.slice ax us.length cx, .string sb] 31) = W6 at *
    generalize w5.heap.size = p6 at *
    have e0 := cell_of_row W6 p6 0 _ _ _ p6b
    have e1 := cell_of_row W6 p6 1 _ _ _ p6b
    clear d0 d1 hx5 hx6 hx46 hE5 hE4 b4 p4b hNS4 hox
    go_upto_region 8 with (go_at_call 7; refine (HI _ us sb _ hE6 (Ints.of_own hox6 (by omega)) hu1 hu2).mono ?_; rintro e w7 ⟨vG, FG, okG, sl, rfl, hRG, hFO, hx7⟩; obtain ⟨aG, cG, rfl⟩ := hFO.top)
    obtain ⟨rfl, rfl⟩ := hRG.unique hRS
    obtain ⟨hlen, hlists⟩ := res_small hRG
    have hml : maxLen = 9223372036854775807 := by simp [maxLen]
    have hE7 := ext_trans hE6 hx7
    have hLL : ∀ b, Lists FG.length sl b → W6.heap.size ≤ b ∧ b < w7.heap.size := fun b hb => hFO.lists hb
    have hx8 : Ext w7 (w7.alloc (.cells #[.slice aG (List.length FG) cG] 28)) := by go_grown
    have p7b := heap_alloc_new w7 (.cells #[.slice aG (List.length FG) cG] 28)
    have hx68 := ext_trans hx7 hx8
    have hE8 := ext_trans hE7 hx8
    have b8 := (hx68.block _ (blk_lt b6)).trans b6
    have q8 := (hx68.block _ (blk_lt q6)).trans q6
    have r8 := (hx68.block _ (blk_lt p6b)).trans p6b
    have hNS8 := hNS6.ext hx68
    have hox8 := own_keep hox6 hx68
    have hFO8 := hFO.ext hx8
    have hz6 : p6 < W6.heap.size := blk_lt p6b
    have hz7 : W6.heap.size ≤ w7.heap.size := hx7.size
    generalize w7.alloc (.cells #[.slice aG (List.length FG) cG] 28) = W8 at *
    generalize w7.heap.size = p7 at *
    have d4 := cell_of_row W8 p4 0 _ _ _ q8
    have d7 := cell_of_row W8 p7 0 _ _ _ p7b
    have hok : (okG != okG) = false := by simp
    have hNG8 : Nodes W8 0 (.slice aG (List.length FG) cG) FG := hFO8.nodes (fun j hj => by have := hlists j hj; omega) (by omega)
    have hL7 : ∀ b, Lists FG.length sl b → W6.heap.size ≤ b ∧ b < p7 := fun b hb => hLL b hb
    clear e0 e1 hx7 hx8 hx68 hE7 hE6 b6 q6 p6b hNS6 hox6 hFO hRS hLL
    go_upto_region 10 with (go_at_call 8; refine (eqForm_any _ _ FG _ hNG8 hNS8.out).mono ?_; rintro e w9 ⟨rfl, hx9⟩)
    have hE9 := ext_trans hE8 hx9
    have b9 := (hx9.block _ (blk_lt b8)).trans b8
    have q9 := (hx9.block _ (blk_lt q8)).trans q8
    have r9 := (hx9.block _ (blk_lt r8)).trans r8
    have s9 := (hx9.block _ (blk_lt p7b)).trans p7b
    have hNS9 := hNS8.ext hx9
    have hox9 := own_keep hox8 hx9
    have hFO9 := hFO8.ext hx9
    clear d4 d7 hx9 hE8 b8 q8 r8 p7b hNS8 hox8 hFO8 hNG8
    have hSx : ∀ W : World, Ext w9 W → W.cell? ⟨p6, 0, none⟩ = some (.slice ax us.length cx) ∧ W.cell? ⟨p6, 1, none⟩ = some (.string sb) ∧ W.cell? ⟨w.heap.size, 0, none⟩ = some (.slice a us.length cap) ∧ W.cell? ⟨w.heap.size, 1, none⟩ = some (.string sb) := fun W hW =>
      ⟨cell_of_row W p6 0 _ _ _ ((hW.block _ (blk_lt r9)).trans r9), cell_of_row W p6 1 _ _ _ ((hW.block _ (blk_lt r9)).trans r9), cell_of_row W w.heap.size 0 _ _ _ ((hW.block _ (blk_lt b9)).trans b9), cell_of_row W w.heap.size 1 _ _ _ ((hW.block _ (blk_lt b9)).trans b9)⟩
    have hxd : Ext w9 w9.drew := ⟨rfl, rfl, rfl, Nat.le_refl _, fun _ _ => rfl⟩
    refine wp_region_T (fun W => W.cell? ⟨p6, 0, none⟩ = some (.slice ax us.length cx) ∧ W.cell? ⟨p6, 1, none⟩ = some (.string sb) ∧ W.cell? ⟨w.heap.size, 0, none⟩ = some (.slice a us.length cap) ∧ W.cell? ⟨w.heap.size, 1, none⟩ = some (.string sb)) [4] (by kernel_rfl) (hSx _ hxd) (fun hHeld => ?_)
    ((refine tkT (i := 0) (v := ?v1) (by simp only [gE]; rfl) hHeld (Or.inl ⟨by rfl, ?hy1⟩) ?r1; case hy1 => (intro w' hSw; (try dsimp only at hSw); go_simp; (try with_reducible rfl))); (try simp only [Act.put, nE]); (refine tkT (i := 1) (v := ?v2) (by simp only [gE]; rfl) hHeld (Or.inl ⟨by rfl, ?hy2⟩) ?r2; case hy2 => (intro w' hSw; (try dsimp only at hSw); go_simp; (try with_reducible rfl))); (try simp only [Act.put, nE]))
    (refine wpAnyT_step (i := 2) (o := _) (by kernel_rfl) (by simp only [gE]; rfl) (fun K hK => ?_); go_simp)
    refine (toTree_any _ us sb _ (hv.ext (ext_trans hE9 hxd)) hu1).mono ?_
    rintro e w10 ⟨vy, rfl, hoy, hx10⟩
    obtain ⟨ay, cy, rfl, -⟩ := own_len hoy
    have hxx := ext_trans hxd hx10
    have hHeld := hSx _ hxx
    refine hK.out _ _ (fun _ => hHeld) ?_
    clear hK K
    (try simp only [Act.put, nE])
    (refine wpAnyT_step (i := 3) (o := _) (by kernel_rfl) (by simp only [gE]; rfl) (fun K hK => ?_); go_simp)
    refine (eqTree_any _ _ us sb _ ((Ints.of_own hox9 (by omega)).ext hxx) (Ints.of_own hoy (by omega))).mono ?_
    rintro e w11 ⟨rfl, hx11⟩
    have hx911 := ext_trans hxx hx11
    have hHeld := hSx _ hx911
    refine hK.out _ _ (fun _ => hHeld) ?_
    clear hK K
    (try simp only [Act.put, nE])
    refine wpAnyT_tail [4] [?o3_4] _ _ _ _ (by simp) (by kernel_rfl) (by rfl) (by simp only [List.map_cons, List.map_nil, gE]; rfl) ?_
    have hE11 := ext_trans hE9 hx911
    have b11 := (hx911.block _ (blk_lt b9)).trans b9
    have q11 := (hx911.block _ (blk_lt q9)).trans q9
    have r11 := (hx911.block _ (blk_lt r9)).trans r9
    have s11 := (hx911.block _ (blk_lt s9)).trans s9
    have hNS11 := hNS9.ext hx911
    have hox11 := own_keep hox9 hx911
    have hFO11 := hFO9.ext hx911
    have hb6 : ∀ b, Value.ownBlock (.slice ax us.length cx) = some b → W4.heap.size ≤ b ∧ b < p6 := hxlt
    clear hx911 hxx hx11 hx10 hoy hE9 b9 q9 r9 s9 hNS9 hox9 hFO9 hSx hHeld
    obtain ⟨c60, c61⟩ := (⟨cell_of_row w11 p6 0 _ _ _ r11, cell_of_row w11 p6 1 _ _ _ r11⟩ : _ ∧ _)
    go_upto_region 14 with (go_at_call 10; refine (markTree_any _ us sb 1 _ _ hox11 (by omega) (by omega)).mono ?_; rintro e w12 ⟨rfl, hk12⟩)
    have hE12 : Ext w w12 := ⟨hk12.os.trans hE11.os, hk12.tape.trans hE11.tape, hk12.output.trans hE11.output, Nat.le_trans hE11.size hk12.size, fun k hk => (hk12.block k (Nat.lt_of_lt_of_le hk hE11.size) (fun e => by have := (hb6 k e).1; omega)).trans (hE11.block k hk)⟩
    have b12 := (hk12.block _ (blk_lt b11) (fun e => by have := (hb6 _ e).1; have := blk_lt b11; omega)).trans b11
    have q12 := (hk12.block _ (blk_lt q11) (fun e => by have := (hb6 _ e).1; omega)).trans q11
    have s12 := (hk12.block _ (blk_lt s11) (fun e => by have := (hb6 _ e).2; omega)).trans s11
    have hNS12 := hNS11.keep hk12 (fun b hb e => by have := (hb6 b e).1; omega)
    have hFO12 := hFO11.keepG hk12 (fun b e => by have := (hb6 b e).2; omega)
    have hNG12 : Nodes w12 0 (.slice aG (List.length FG) cG) FG := hFO12.nodes (fun j hj => by have := hlists j hj; omega) (by omega)
    have d4 := cell_of_row w12 p4 0 _ _ _ q12
    have d7 := cell_of_row w12 p7 0 _ _ _ s12
    have hkk : ¬ ((1 : Int) + us.length < 0) := by omega
    clear hk12 hE11 b11 q11 r11 s11 hNS11 hox11 hFO11 c60 c61
    go_upto_region 17 with (go_at_call 8; refine (eqForm_any _ _ FG _ hNG12 hNS12.out).mono ?_; rintro e w13 ⟨rfl, hx13⟩)
    have hE13 := ext_trans hE12 hx13
    have b13 := (hx13.block _ (blk_lt b12)).trans b12
    have q13 := (hx13.block _ (blk_lt q12)).trans q12
    have s13 := (hx13.block _ (blk_lt s12)).trans s12
    have hNS13 := hNS12.ext hx13
    have hFO13 := hFO12.ext hx13
    have d7b := cell_of_row w13 p7 0 _ _ _ s13
    have hcnt : cntAt (lsOf FG) (2 * FG.length) ≤ 1000000000 := by have := cnt_small (ls := lsOf FG) (n := 2 * FG.length) hlists; omega
    have hcp := cntAt_pos (lsOf FG) (2 * FG.length)
    have hne : (cntAt (lsOf FG) (2 * FG.length) != cntAt (lsOf FG) (2 * FG.length)) = false := by simp
    clear d4 d7 hx13 hE12 b12 q12 s12 hNS12 hFO12 hNG12
    go_upto_region 18 with (go_at_call 11; refine (markForm_any _ FG.length _ sl (lsOf FG) _ hFO13 (by omega) hcnt).mono ?_; rintro e w14 ⟨rfl, hFO14, hk14⟩)
    have hE14 : Ext w w14 := ⟨hk14.os.trans hE13.os, hk14.tape.trans hE13.tape, hk14.output.trans hE13.output, Nat.le_trans hE13.size hk14.size, fun k hk => (hk14.block k (Nat.lt_of_lt_of_le hk hE13.size) (fun e => by have := (hL7 k e).1; omega)).trans (hE13.block k hk)⟩
    have b14 := (hk14.block _ (blk_lt b13) (fun e => by have := (hL7 _ e).1; omega)).trans b13
    have q14 := (hk14.block _ (blk_lt q13) (fun e => by have := (hL7 _ e).1; omega)).trans q13
    have s14 := (hk14.block _ (blk_lt s13) (fun e => by have := (hL7 _ e).2; omega)).trans s13
    have hNS14 := hNS13.keep hk14 (fun b hb e => by have := (hL7 b e).1; omega)
    have d7c := cell_of_row w14 p7 0 _ _ _ s14
    clear d7b hk14 hE13 b13 q13 s13 hNS13 hFO13
    go_upto_region 24 with (go_at_call 12; refine (heldForm_any _ FG.length _ sl (lsOf FG) _ hFO14 (by omega) hcnt).mono ?_; rintro e w15 ⟨rfl, hx15⟩)
    have hE15 := ext_trans hE14 hx15
    have b15 := (hx15.block _ (blk_lt b14)).trans b14
    have q15 := (hx15.block _ (blk_lt q14)).trans q14
    have s15 := (hx15.block _ (blk_lt s14)).trans s14
    have hNS15 := hNS14.ext hx15
    have hFO15 := hFO14.ext hx15
    have e0 := cell_of_row w15 w.heap.size 0 _ _ _ b15
    have e1 := cell_of_row w15 w.heap.size 1 _ _ _ b15
    clear d7c hx15 hE14 b14 q14 s14 hNS14 hFO14
    go_upto_region 25 with (first
      | (go_at_call 6; refine (toTree_any _ us sb _ (hv.ext hE15) hu1).mono ?_; rintro e w16 ⟨vz, rfl, hoz, hx16⟩)
      | (go_at_call 7; refine (HI _ us sb _ (ext_trans hE15 hx16) (Ints.of_own hoz (by omega)) hu1 hu2).mono ?_; rintro e w17 ⟨vH, FH, okH, slH, rfl, hRH, hFH, hx17⟩; obtain ⟨aH, cH, rfl⟩ := hFH.top))
    obtain ⟨hfe, hoe⟩ := hRH.unique hRG
    subst hfe
    subst hoe
    have hx18 : Ext w17 (w17.alloc (.cells #[.slice aH (List.length FH) cH] 28)) := by go_grown
    have p12b := heap_alloc_new w17 (.cells #[.slice aH (List.length FH) cH] 28)
    have hxx := ext_trans (ext_trans hx16 hx17) hx18
    have hE18 := ext_trans hE15 hxx
    have q18 := (hxx.block _ (blk_lt q15)).trans q15
    have s18 := (hxx.block _ (blk_lt s15)).trans s15
    have hNS18 := hNS15.ext hxx
    have hFO18 := hFO15.ext hxx
    have hNH18 : Nodes (w17.alloc (.cells #[.slice aH (List.length FH) cH] 28)) 0 (.slice aH (List.length FH) cH) FH := (hFH.ext hx18).nodes (fun j hj => by have := hlists j hj; omega) (by omega)
    generalize w17.alloc (.cells #[.slice aH (List.length FH) cH] 28) = W18 at *
    generalize w17.heap.size = p12 at *
    have d4 := cell_of_row W18 p4 0 _ _ _ q18
    have d12 := cell_of_row W18 p12 0 _ _ _ p12b
    clear e0 e1 hx16 hx17 hx18 hxx hE15 b15 q15 s15 hNS15 hFO15
    go_upto_region 28 with (go_at_call 8; refine (eqForm_any _ _ FH _ hNH18 hNS18.out).mono ?_; rintro e w19 ⟨rfl, hx19⟩)
    have s19 := (hx19.block _ (blk_lt s18)).trans s18
    have d7 := cell_of_row w19 p7 0 _ _ _ s19
    go_wp2_with (go_at_call 12; refine (heldForm_any _ FH.length _ sl (lsOf FH) _ (hFO18.ext hx19) (by omega) hcnt).mono ?_; rintro e w20 ⟨rfl, hx20⟩)
    go_ret
    exact ⟨rfl, ext_trans (ext_trans hE18 hx19) hx20⟩

end Go.Proofs.YtjkdanmpihildaaGreatDoor
