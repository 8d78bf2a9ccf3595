/-
  Contracts of the reference's l3Fits, l3Same, l3Good, GoodForm.
  Contracts of the reference's l3Good, GoodForm.
  Memory: slices of forms; sizes.
-/
import Derived.Test.YtjkdanmpihildaaGreatDoorQ19
import Derived.Test.YtjkdanmpihildaaGreatDoorQ20
namespace Go.Proofs.YtjkdanmpihildaaGreatDoor
open Go.RowKit
open Cgt (Dag Nd vl Same)

def fitsN (F : Dag) : Bool := decide (1 ≤ F.length ∧ F.length ≤ 120 ∧ ∀ i (h : i < F.length), (F[i]).1.length ≤ 24 ∧ (F[i]).2.length ≤ 24)

set_option maxHeartbeats 2000000 in
set_option maxRecDepth 100000 in
theorem l3Fits_any (vf : Value) (F : Dag) (w : World) (hf : Nodes w 0 vf F) : Calls Tryz.prog 52 #[.agg #[vf]] w fun e w' => e = .returned (.bool (fitsN F)) ∧ Ext w w' := by
  obtain ⟨aF, capF, rfl, hcap, hml, -⟩ := id hf
  go_enter Tryz.func52, Tryz.ntmps52
  go_wp2
  have hxb : Ext w (w.alloc (.cells #[.slice aF F.length capF] 28)) := by go_grown
  have hbx := cell_of_row (w.alloc (.cells #[.slice aF F.length capF] 28)) w.heap.size 0 _ _ _ (heap_alloc_new w _)
  generalize hW : w.alloc (.cells #[.slice aF F.length capF] 28) = W at *
  generalize hp : w.heap.size = p at *
  clear hW hp
  go_loopw [3] (fun kk wr => wr = W ∧ ∃ k, k ≤ F.length ∧ k ≤ 121 ∧ kk = .int .i64 ((k : Nat) : Int) ∧ Hid (∀ i (h : i < F.length), i < k → (F[i]).1.length ≤ 24 ∧ (F[i]).2.length ≤ 24)) (fun kk _ => F.length - (intOf kk).toNat)
  case atStart => exact ⟨rfl, 0, Nat.zero_le _, by omega, rfl, fun i _ h => absurd h (by omega)⟩
  case round =>
    obtain ⟨rfl, k, hk, hk2, rfl, HP⟩ := hrel
    by_cases hlt : k < F.length
    · by_cases h120 : k ≤ 120
      · obtain ⟨bF, cF, aL, cL, aR, cR, he, hcF, cl, cr, -, -⟩ := hf.at hlt
        simp only [Value.slice.injEq] at he
        obtain ⟨rfl, -, rfl⟩ := he
        have cl' := (hxb.cell (lt_of_cell cl)).trans cl
        have cr' := (hxb.cell (lt_of_cell cr)).trans cr
        have h1 : ((k : Nat) : Int) < (F.length : Int) := by omega
        have h2 : ((k : Nat) : Int) ≤ 120 := by omega
        clear cl cr hf
        by_cases hl : (F[k]).1.length ≤ 24
        · have hl1 : ¬ ((24 : Int) < ((F[k]).1.length : Int)) := by omega
          by_cases hr : (F[k]).2.length ≤ 24
          · have hr1 : ¬ ((24 : Int) < ((F[k]).2.length : Int)) := by omega
            have HL := Lib.hid hl
            have HR := Lib.hid hr
            clear hl hr
            go_wp2
            go_roundw
            case rel => exact ⟨trivial, k + 1, by omega, by omega, by go_num, fun i hi hik => by
              by_cases e : i = k
              · subst e; exact ⟨HL.out, HR.out⟩
              · exact HP.out i hi (by omega)⟩
            case measure => simp [intOf]; omega
          · have hr1 : ((24 : Int) < ((F[k]).2.length : Int)) := by omega
            have HR := Lib.hid hr
            clear hl hr
            go_wp2
            go_ret
            exact ⟨ret_bool (by symm; rw [fitsN]; exact decide_eq_false (fun h => HR.out (h.2.2 k hlt).2)), hxb⟩
        · have hl1 : ((24 : Int) < ((F[k]).1.length : Int)) := by omega
          have HL := Lib.hid hl
          clear hl
          go_wp2
          go_ret
          exact ⟨ret_bool (by symm; rw [fitsN]; exact decide_eq_false (fun h => HL.out (h.2.2 k hlt).1)), hxb⟩
      · have h1 : ((k : Nat) : Int) < (F.length : Int) := by omega
        have h2 : ¬ (((k : Nat) : Int) ≤ 120) := by omega
        go_wp2_with (go_at_call 30; refine (l1In_any _ _ _ _).mono ?_; rintro e w1 ⟨rfl, n, rfl⟩)
        go_ret
        refine ⟨ret_bool ?_, ext_drewN hxb _⟩
        have : fitsN F = false := by rw [fitsN]; exact decide_eq_false (fun h => by omega)
        rw [this]; simp [inB]; omega
    · have h1 : ¬ (((k : Nat) : Int) < (F.length : Int)) := by omega
      go_wp2_with (go_at_call 30; refine (l1In_any _ _ _ _).mono ?_; rintro e w1 ⟨rfl, n, rfl⟩)
      go_ret
      refine ⟨ret_bool ?_, ext_drewN hxb _⟩
      have hall := HP.out
      rw [fitsN, inB, ← Bool.decide_and]
      refine decide_eq_decide.2 ⟨fun h => ⟨by omega, by omega, fun i hi => hall i hi (by omega)⟩, fun h => ⟨by omega, by omega⟩⟩

def rowsSame : List Row := [⟨0, [], 21, [2]⟩, ⟨1, [0], 22, [20]⟩, ⟨2, [], 23, [5]⟩, ⟨3, [1, 2], 24, [21, 22]⟩, ⟨4, [3], 25, [23]⟩, ⟨5, [4], 26, [24]⟩, ⟨6, [], 27, [3]⟩, ⟨7, [6], 28, [26]⟩, ⟨8, [], 29, [5]⟩, ⟨9, [7, 8], 30, [27, 28]⟩, ⟨10, [9], 31, [29]⟩, ⟨11, [10], 32, [30]⟩, ⟨12, [5, 11], 33, [25, 31]⟩, ⟨13, [12], 34, [32]⟩, ⟨14, [13, 12], 35, [33]⟩, ⟨15, [14], 36, [2, 34]⟩, ⟨16, [15, 14], 37, [35, 34]⟩, ⟨17, [14], 38, [5, 34]⟩, ⟨18, [16, 17, 14], 39, [36, 37, 34]⟩, ⟨19, [18, 14], 40, [38, 34]⟩, ⟨20, [19, 14], 41, [39, 34]⟩, ⟨21, [14], 42, [3, 34]⟩, ⟨22, [21, 14], 43, [41, 34]⟩, ⟨23, [14], 44, [5, 34]⟩, ⟨24, [22, 23, 14], 45, [42, 43, 34]⟩, ⟨25, [24, 14], 46, [44, 34]⟩, ⟨26, [25, 14], 47, [45, 34]⟩, ⟨27, [20, 26, 14, 14], 48, [40, 46, 34]⟩, ⟨28, [27, 14], 49, [47, 34]⟩, ⟨29, [14, 28], 50, [34, 48]⟩]

set_option maxHeartbeats 2000000 in
set_option maxRecDepth 100000 in
theorem l3Same_any (va vb : Value) (F : Dag) (w : World) (ha : Nodes w 0 va F) (hb : Nodes w 0 vb F) : Calls Tryz.prog 54 #[.agg #[va], .agg #[vb]] w fun e w' => e = .returned (.bool true) ∧ Ext w w' := by
  obtain ⟨aA, capA, rfl, -⟩ := id ha
  obtain ⟨aB, capB, rfl, hcapB, hml, -⟩ := id hb
  go_enter Tryz.func54, Tryz.ntmps54
  go_wp2
  have hxb : Ext w ((w.alloc (.cells #[.slice aA F.length capA] 28)).alloc (.cells #[.slice aB F.length capB] 28)) := by go_grown
  have hq := heap_alloc_new (w.alloc (.cells #[.slice aA F.length capA] 28)) (.cells #[.slice aB F.length capB] 28)
  have hp : ((w.alloc (.cells #[.slice aA F.length capA] 28)).alloc (.cells #[.slice aB F.length capB] 28)).heap[w.heap.size]? = some (.cells #[.slice aA F.length capA] 28 (0, 0)) := by
    rw [Below.heap_alloc _ _ _ (by simp)]; exact heap_alloc_new _ _
  rw [World.size_alloc] at hq
  generalize hW : (w.alloc (.cells #[.slice aA F.length capA] 28)).alloc (.cells #[.slice aB F.length capB] 28) = W at *
  generalize hqq : w.heap.size + 1 = q at *
  generalize hpp : w.heap.size = p at *
  clear hW hqq hpp
  go_loopw [5] (fun kk wr => ∃ k, k ≤ F.length ∧ kk = .int .i64 ((k : Nat) : Int) ∧ Ext W wr) (fun kk _ => F.length - (intOf kk).toNat)
  case atStart => exact ⟨0, Nat.zero_le _, rfl, Below.refl _ _⟩
  case round =>
    obtain ⟨k, hk, rfl, hx⟩ := hrel
    have hE := ext_trans hxb hx
    have hp1 : wr.heap[p]? = some (.cells #[.slice aA F.length capA] 28 (0, 0)) := by rw [hx.block _ (blk_lt hp)]; exact hp
    have hq1 : wr.heap[q]? = some (.cells #[.slice aB F.length capB] 28 (0, 0)) := by rw [hx.block _ (blk_lt hq)]; exact hq
    have cp := cell_of_row wr p 0 _ _ _ hp1
    have cq := cell_of_row wr q 0 _ _ _ hq1
    by_cases hlt : k < F.length
    · have h1 : ((k : Nat) : Int) < (F.length : Int) := by omega
      obtain ⟨bA, cA, aL, cL, aR, cR, he, hcA, cl, cr, hIL, hIR⟩ := (ha.ext hE).at hlt
      simp only [Value.slice.injEq] at he
      obtain ⟨rfl, -, rfl⟩ := he
      obtain ⟨bB, cB, aL2, cL2, aR2, cR2, he, hcB, cl2, cr2, hIL2, hIR2⟩ := (hb.ext hE).at hlt
      simp only [Value.slice.injEq] at he
      obtain ⟨rfl, -, rfl⟩ := he
      have HIL := Lib.hid hIL
      have HIR := Lib.hid hIR
      have HIL2 := Lib.hid hIL2
      have HIR2 := Lib.hid hIR2
      have HX := Lib.hid hx
      have HLT := Lib.hid hlt
      have hwk : wrap64 ((k : Int) + 1) = (k : Int) + 1 := by unfold maxLen at hml; unfold wrap64; omega
      clear hIL hIR hIL2 hIR2 hx hE hp1 hq1
      have s1 : same2 (toZ (F[k]).1) (toZ (F[k]).1) = true := by simp [same2]
      have s2 : same2 (toZ (F[k]).2) (toZ (F[k]).2) = true := by simp [same2]
      go_wp2_with fail
      refine wp_region_L (fun W => W.cell? ⟨p, 0, none⟩ = some (.slice (some ⟨bA, 0, none⟩) F.length capA) ∧ W.cell? ⟨q, 0, none⟩ = some (.slice (some ⟨bB, 0, none⟩) F.length capB) ∧ W.cell? ⟨bA, k * 2, none⟩ = some (.slice aL (F[k]).1.length cL) ∧ W.cell? ⟨bA, k * 2 + 1, none⟩ = some (.slice aR (F[k]).2.length cR) ∧ W.cell? ⟨bB, k * 2, none⟩ = some (.slice aL2 (F[k]).1.length cL2) ∧ W.cell? ⟨bB, k * 2 + 1, none⟩ = some (.slice aR2 (F[k]).2.length cR2)) [27, 28, 29] rowsSame (by kernel_rfl) ⟨by kernel_rfl, by kernel_rfl, by kernel_rfl⟩ ⟨cp, cq, cl, cr, cl2, cr2⟩ (fun hTab hHeld => ?_)
      ((refine tkL hTab (i := 0) (v := ?v1) (by simp only [gE]; rfl) hHeld (Or.inl ⟨by rfl, ?hy1⟩) ?r1; case hy1 => (intro w' hSw; (try dsimp only at hSw); go_simp; (try with_reducible rfl))); (try simp only [Act.put, nE]); (refine tkL hTab (i := 1) (v := ?v2) (by simp only [gE]; rfl) hHeld (Or.inl ⟨by rfl, ?hy2⟩) ?r2; case hy2 => (intro w' hSw; (try dsimp only at hSw); go_simp; (try with_reducible rfl))); (try simp only [Act.put, nE]); (refine tkL hTab (i := 2) (v := ?v3) (by simp only [gE]; rfl) hHeld (Or.inl ⟨by rfl, ?hy3⟩) ?r3; case hy3 => (intro w' hSw; (try dsimp only at hSw); go_simp; (try with_reducible rfl))); (try simp only [Act.put, nE]); (refine tkL hTab (i := 3) (v := ?v4) (by simp only [gE]; rfl) hHeld (Or.inl ⟨by rfl, ?hy4⟩) ?r4; case hy4 => (intro w' hSw; (try dsimp only at hSw); go_simp; (try with_reducible rfl))); (try simp only [Act.put, nE]); (refine tkL hTab (i := 4) (v := ?v5) (by simp only [gE]; rfl) hHeld (Or.inl ⟨by rfl, ?hy5⟩) ?r5; case hy5 => (intro w' hSw; (try dsimp only at hSw); go_simp; (try with_reducible rfl))); (try simp only [Act.put, nE]); (refine tkL hTab (i := 5) (v := ?v6) (by simp only [gE]; rfl) hHeld (Or.inl ⟨by rfl, ?hy6⟩) ?r6; case hy6 => (intro w' hSw; (try dsimp only at hSw); go_simp; (try with_reducible rfl))); (try simp only [Act.put, nE]); (refine tkL hTab (i := 6) (v := ?v7) (by simp only [gE]; rfl) hHeld (Or.inl ⟨by rfl, ?hy7⟩) ?r7; case hy7 => (intro w' hSw; (try dsimp only at hSw); go_simp; (try with_reducible rfl))); (try simp only [Act.put, nE]); (refine tkL hTab (i := 7) (v := ?v8) (by simp only [gE]; rfl) hHeld (Or.inl ⟨by rfl, ?hy8⟩) ?r8; case hy8 => (intro w' hSw; (try dsimp only at hSw); go_simp; (try with_reducible rfl))); (try simp only [Act.put, nE]); (refine tkL hTab (i := 8) (v := ?v9) (by simp only [gE]; rfl) hHeld (Or.inl ⟨by rfl, ?hy9⟩) ?r9; case hy9 => (intro w' hSw; (try dsimp only at hSw); go_simp; (try with_reducible rfl))); (try simp only [Act.put, nE]); (refine tkL hTab (i := 9) (v := ?v10) (by simp only [gE]; rfl) hHeld (Or.inl ⟨by rfl, ?hy10⟩) ?r10; case hy10 => (intro w' hSw; (try dsimp only at hSw); go_simp; (try with_reducible rfl))); (try simp only [Act.put, nE]); (refine tkL hTab (i := 10) (v := ?v11) (by simp only [gE]; rfl) hHeld (Or.inl ⟨by rfl, ?hy11⟩) ?r11; case hy11 => (intro w' hSw; (try dsimp only at hSw); go_simp; (try with_reducible rfl))); (try simp only [Act.put, nE]); (refine tkL hTab (i := 11) (v := ?v12) (by simp only [gE]; rfl) hHeld (Or.inl ⟨by rfl, ?hy12⟩) ?r12; case hy12 => (intro w' hSw; (try dsimp only at hSw); go_simp; (try with_reducible rfl))); (try simp only [Act.put, nE]))
      (refine wpAnyL_step hTab (i := 12) (o := _) (by kernel_rfl) (by simp only [gE]; rfl) (fun K hK => ?_); go_simp)
      refine (l1Same_any _ _ (toZ (F[k]).1) (toZ (F[k]).1) _ (HIL.out.ext (by exact ⟨rfl, rfl, rfl, Nat.le_refl _, fun _ _ => rfl⟩)) (HIL2.out.ext (by exact ⟨rfl, rfl, rfl, Nat.le_refl _, fun _ _ => rfl⟩))).mono ?_
      rintro e w1 ⟨he, n1, rfl⟩
      rw [s1] at he
      subst he
      have hEn : Ext wr.drew (wr.drew.drewN n1) := ⟨rfl, rfl, rfl, Nat.le_refl _, fun _ _ => rfl⟩
      obtain ⟨z1, z2, z3, z4, z5, z6⟩ := hHeld
      have hHeld : (fun W : World => W.cell? ⟨p, 0, none⟩ = some (.slice (some ⟨bA, 0, none⟩) F.length capA) ∧ W.cell? ⟨q, 0, none⟩ = some (.slice (some ⟨bB, 0, none⟩) F.length capB) ∧ W.cell? ⟨bA, k * 2, none⟩ = some (.slice aL (F[k]).1.length cL) ∧ W.cell? ⟨bA, k * 2 + 1, none⟩ = some (.slice aR (F[k]).2.length cR) ∧ W.cell? ⟨bB, k * 2, none⟩ = some (.slice aL2 (F[k]).1.length cL2) ∧ W.cell? ⟨bB, k * 2 + 1, none⟩ = some (.slice aR2 (F[k]).2.length cR2)) (wr.drew.drewN n1) := ⟨(hEn.cell (lt_of_cell z1)).trans z1, (hEn.cell (lt_of_cell z2)).trans z2, (hEn.cell (lt_of_cell z3)).trans z3, (hEn.cell (lt_of_cell z4)).trans z4, (hEn.cell (lt_of_cell z5)).trans z5, (hEn.cell (lt_of_cell z6)).trans z6⟩
      refine hK.out _ _ (fun _ => hHeld) ?_
      generalize hwn : wr.drew.drewN n1 = wn at hHeld hEn ⊢
      clear hK K hwn z1 z2 z3 z4 z5 z6
      have hE8 : Ext wr wr.drew := ⟨rfl, rfl, rfl, Nat.le_refl _, fun _ _ => rfl⟩
      have hE9 : Ext wr wn := ext_trans hE8 hEn
      (try simp only [Act.put, nE])
      ((refine tkL hTab (i := 13) (v := ?v13) (by simp only [gE]; rfl) hHeld (Or.inl ⟨by rfl, ?hy13⟩) ?r13; case hy13 => (intro w' hSw; (try dsimp only at hSw); go_simp; (try with_reducible rfl))); (try simp only [Act.put, nE]); (refine tkL hTab (i := 14) (v := ?v14) (by simp only [gE]; rfl) hHeld (Or.inl ⟨by rfl, ?hy14⟩) ?r14; case hy14 => (intro w' hSw; (try dsimp only at hSw); go_simp; (try with_reducible rfl))); (try simp only [Act.put, nE]); (refine tkL hTab (i := 15) (v := ?v15) (by simp only [gE]; rfl) hHeld (Or.inl ⟨by rfl, ?hy15⟩) ?r15; case hy15 => (intro w' hSw; (try dsimp only at hSw); go_simp; (try with_reducible rfl))); (try simp only [Act.put, nE]); (refine tkL hTab (i := 16) (v := ?v16) (by simp only [gE]; rfl) hHeld (Or.inl ⟨by rfl, ?hy16⟩) ?r16; case hy16 => (intro w' hSw; (try dsimp only at hSw); go_simp; (try with_reducible rfl))); (try simp only [Act.put, nE]); (refine tkL hTab (i := 17) (v := ?v17) (by simp only [gE]; rfl) hHeld (Or.inl ⟨by rfl, ?hy17⟩) ?r17; case hy17 => (intro w' hSw; (try dsimp only at hSw); go_simp; (try with_reducible rfl))); (try simp only [Act.put, nE]); (refine tkL hTab (i := 18) (v := ?v18) (by simp only [gE]; rfl) hHeld (Or.inl ⟨by rfl, ?hy18⟩) ?r18; case hy18 => (intro w' hSw; (try dsimp only at hSw); go_simp; (try with_reducible rfl))); (try simp only [Act.put, nE]); (refine tkL hTab (i := 19) (v := ?v19) (by simp only [gE]; rfl) hHeld (Or.inl ⟨by rfl, ?hy19⟩) ?r19; case hy19 => (intro w' hSw; (try dsimp only at hSw); go_simp; (try with_reducible rfl))); (try simp only [Act.put, nE]); (refine tkL hTab (i := 20) (v := ?v20) (by simp only [gE]; rfl) hHeld (Or.inl ⟨by rfl, ?hy20⟩) ?r20; case hy20 => (intro w' hSw; (try dsimp only at hSw); go_simp; (try with_reducible rfl))); (try simp only [Act.put, nE]); (refine tkL hTab (i := 21) (v := ?v21) (by simp only [gE]; rfl) hHeld (Or.inl ⟨by rfl, ?hy21⟩) ?r21; case hy21 => (intro w' hSw; (try dsimp only at hSw); go_simp; (try with_reducible rfl))); (try simp only [Act.put, nE]); (refine tkL hTab (i := 22) (v := ?v22) (by simp only [gE]; rfl) hHeld (Or.inl ⟨by rfl, ?hy22⟩) ?r22; case hy22 => (intro w' hSw; (try dsimp only at hSw); go_simp; (try with_reducible rfl))); (try simp only [Act.put, nE]); (refine tkL hTab (i := 23) (v := ?v23) (by simp only [gE]; rfl) hHeld (Or.inl ⟨by rfl, ?hy23⟩) ?r23; case hy23 => (intro w' hSw; (try dsimp only at hSw); go_simp; (try with_reducible rfl))); (try simp only [Act.put, nE]); (refine tkL hTab (i := 24) (v := ?v24) (by simp only [gE]; rfl) hHeld (Or.inl ⟨by rfl, ?hy24⟩) ?r24; case hy24 => (intro w' hSw; (try dsimp only at hSw); go_simp; (try with_reducible rfl))); (try simp only [Act.put, nE]); (refine tkL hTab (i := 25) (v := ?v25) (by simp only [gE]; rfl) hHeld (Or.inl ⟨by rfl, ?hy25⟩) ?r25; case hy25 => (intro w' hSw; (try dsimp only at hSw); go_simp; (try with_reducible rfl))); (try simp only [Act.put, nE]); (refine tkL hTab (i := 26) (v := ?v26) (by simp only [gE]; rfl) hHeld (Or.inl ⟨by rfl, ?hy26⟩) ?r26; case hy26 => (intro w' hSw; (try dsimp only at hSw); go_simp; (try with_reducible rfl))); (try simp only [Act.put, nE]))
      refine wpAnyL_tail hTab [27, 28, 29] [?o27_27, ?o27_28, ?o27_29] _ _ _ _ (by simp) (by kernel_rfl) (by rfl) (by simp only [List.map_cons, List.map_nil, gE]; rfl) ?_
      go_wp2_with fail
      refine (l1Same_any _ _ (toZ (F[k]).2) (toZ (F[k]).2) _ ?i1 ?i2).mono ?post
      case i1 => exact HIR.out.ext hE9
      case i2 => exact HIR2.out.ext hE9
      rintro e w2 ⟨he, n2, rfl⟩
      rw [s2] at he
      subst he
      go_wp2_with fail
      go_roundw
      case rel => exact ⟨k + 1, by have := HLT.out; omega, by go_num, ext_trans HX.out (ext_drewN hE9 _)⟩
      case measure =>
        have := HLT.out
        rw [hwk]
        simp [intOf]; omega
    · have h1 : ¬ (((k : Nat) : Int) < (F.length : Int)) := by omega
      go_wp2
      go_ret
      exact ⟨rfl, hE⟩

end Go.Proofs.YtjkdanmpihildaaGreatDoor

namespace Go.Proofs.YtjkdanmpihildaaGreatDoor
open Go.RowKit
open Cgt (Dag Nd vl Same)

theorem rises_nat {l : List Nat} {k : Nat} (ha : Cgt.Asc l) (hl : ∀ x, x ∈ l → x < k) : rises (toZ l) 0 ((k : Int) - 1) = true := by
  rw [rises_iff]
  intro j hj
  rw [toZ_len] at hj
  rw [toZ_zat hj]
  have h1 := hl _ (List.getElem_mem hj)
  refine ⟨by omega, by omega, fun h0 => ?_⟩
  rw [toZ_zat (by omega)]
  have := List.pairwise_iff_getElem.1 ha (j - 1) j (by omega) hj (by omega)
  omega
theorem rises_good {F : Dag} (hF : Cgt.Good F) {k : Nat} (hk : k < F.length) : rises (toZ (F[k]).1) 0 ((k : Int) - 1) = true ∧ rises (toZ (F[k]).2) 0 ((k : Int) - 1) = true := by
  have h := hF.asc _ (List.getElem_mem hk)
  have hw := hF.wf k _ (List.getElem?_eq_getElem hk)
  exact ⟨rises_nat h.1 hw.1, rises_nat h.2 hw.2⟩

def rowsGood : List Row := [⟨0, [], 40, [4]⟩, ⟨1, [], 41, [4]⟩, ⟨2, [], 42, [1]⟩, ⟨3, [1, 2], 43, [40, 41]⟩, ⟨4, [0, 3, 3], 44, [39, 42]⟩, ⟨5, [], 45, [1]⟩, ⟨6, [4, 5, 4], 46, [43, 44]⟩, ⟨7, [6, 6, 0, 1, 2, 3, 4, 5, 6], 3, [45]⟩]

set_option maxHeartbeats 2000000 in
set_option maxRecDepth 100000 in
theorem l3Good_any (vf : Value) (F : Dag) (w : World) (hf : Nodes w 0 vf F) (hF : Cgt.IsForm F) : Calls Tryz.prog 35 #[.agg #[vf]] w fun e w' => e = .returned (.bool (fitsN F)) ∧ Ext w w' := by
  obtain ⟨aF, capF, rfl, hcap, hml, -⟩ := id hf
  have hxb : Ext w (w.alloc (.cells #[.slice aF F.length capF] 28)) := by go_grown
  cases hfit : fitsN F with
  | false =>
    go_enter Tryz.func35, Tryz.ntmps35
    go_wp2_with (go_at_call 52; refine (l3Fits_any _ F _ (hf.ext hxb)).mono ?_; rintro e w1 ⟨he, hx1⟩; rw [hfit] at he; subst he)
    go_ret
    exact ⟨rfl, ext_trans hxb hx1⟩
  | true =>
    have hlen : F.length ≤ 120 ∧ 0 < F.length := by
      unfold fitsN at hfit
      have := of_decide_eq_true hfit
      omega
    go_enter Tryz.func35, Tryz.ntmps35
    go_wp2_with (go_at_call 52; refine (l3Fits_any _ F _ (hf.ext hxb)).mono ?_; rintro e w1 ⟨he, hx1⟩; rw [hfit] at he; subst he)
    have hbx : w1.heap[w.heap.size]? = some (.cells #[.slice aF F.length capF] 28 (0, 0)) := by
      rw [hx1.block _ (by rw [World.size_alloc]; omega)]; exact heap_alloc_new _ _
    have hE1 := ext_trans hxb hx1
    clear hx1 hxb
    go_loopw [3] (fun kk wr => ∃ k, k ≤ F.length ∧ kk = .int .i64 ((k : Nat) : Int) ∧ Ext w1 wr) (fun kk _ => F.length - (intOf kk).toNat)
    case atStart => exact ⟨0, Nat.zero_le _, rfl, Below.refl _ _⟩
    case round =>
      obtain ⟨k, hk, rfl, hx⟩ := hrel
      have hE := ext_trans hE1 hx
      have hb1 : wr.heap[w.heap.size]? = some (.cells #[.slice aF F.length capF] 28 (0, 0)) := by rw [hx.block _ (blk_lt hbx)]; exact hbx
      have cb := cell_of_row wr w.heap.size 0 _ _ _ hb1
      by_cases hlt : k < F.length
      · have h1 : ((k : Nat) : Int) < (F.length : Int) := by omega
        obtain ⟨bF, cF, aL, cL, aR, cR, he, hcF, cl, cr, hIL, hIR⟩ := (hf.ext hE).at hlt
        simp only [Value.slice.injEq] at he
        obtain ⟨rfl, -, rfl⟩ := he
        obtain ⟨r1, r2⟩ := rises_good hF.good hlt
        have HX := Lib.hid hx
        clear hb1 hE hx
        go_wp2_with (go_at_call 53; refine (l1Rising_any _ _ _ _ _ (by first | exact hIL | exact ints_dn hIR _)).mono ?_; rintro e w2 ⟨he, n1, rfl⟩; (first | rw [r1] at he | rw [r2] at he); subst he)
        go_roundw
        case rel => exact ⟨k + 1, by omega, by go_num, ext_trans HX.out ⟨rfl, rfl, rfl, Nat.le_refl _, fun _ _ => rfl⟩⟩
        case measure => simp [intOf]; omega
      · have h1 : ¬ (((k : Nat) : Int) < (F.length : Int)) := by omega
        go_wp2_with fail
        have hpb := heap_alloc_new wr (.cells #[.slice none 0 0, .slice none 0 0] 84)
        have hBe := book_empty hpb
        have hxe : Ext wr (wr.alloc (.cells #[.slice none 0 0, .slice none 0 0] 84)) := by go_grown
        have hB : BookOn wr (wr.alloc (.cells #[.slice none 0 0, .slice none 0 0] 84)) wr.heap.size (.slice none 0 0) (.slice none 0 0) [] := ⟨hBe, fun b hb => by
          rcases hb with h | h | h
          · omega
          · simp [Value.ownBlock] at h
          · simp [Value.ownBlock] at h, hxe⟩
        have hbw : (wr.alloc (.cells #[.slice none 0 0, .slice none 0 0] 84)).heap[w.heap.size]? = some (.cells #[.slice aF F.length capF] 28 (0, 0)) := by rw [hxe.block _ (blk_lt hb1)]; exact hb1
        have hbl := blk_lt hb1
        generalize wr.alloc (.cells #[.slice none 0 0, .slice none 0 0] 84) = W0 at *
        have cw := cell_of_row W0 w.heap.size 0 _ _ _ hbw
        have hd : Ext W0 W0.drew := ⟨rfl, rfl, rfl, Nat.le_refl _, fun _ _ => rfl⟩
        have hfr := hf.ext hE
        refine wp_region_L (fun W => W.cell? ⟨w.heap.size, 0, none⟩ = some (.slice aF F.length capF)) [6, 7] rowsGood (by kernel_rfl) ⟨by kernel_rfl, by kernel_rfl, by kernel_rfl⟩ cw (fun hTab hHeld => ?_)
        ((refine tkL hTab (i := 0) (v := ?v1) (by simp only [gE]; rfl) hHeld (Or.inl ⟨by rfl, ?hy1⟩) ?r1; case hy1 => (intro w' hSw; (try dsimp only at hSw); go_simp; (try with_reducible rfl))); (try simp only [Act.put, nE]); (refine tkL hTab (i := 1) (v := ?v2) (by simp only [gE]; rfl) hHeld (Or.inl ⟨by rfl, ?hy2⟩) ?r2; case hy2 => (intro w' hSw; (try dsimp only at hSw); go_simp; (try with_reducible rfl))); (try simp only [Act.put, nE]); (refine tkL hTab (i := 2) (v := ?v3) (by simp only [gE]; rfl) hHeld (Or.inl ⟨by rfl, ?hy3⟩) ?r3; case hy3 => (intro w' hSw; (try dsimp only at hSw); go_simp; (try with_reducible rfl))); (try simp only [Act.put, nE]); (refine tkL hTab (i := 5) (v := ?v4) (by simp only [gE]; rfl) hHeld (Or.inl ⟨by rfl, ?hy4⟩) ?r4; case hy4 => (intro w' hSw; (try dsimp only at hSw); go_simp; (try with_reducible rfl))); (try simp only [Act.put, nE]))
        (refine wpAnyL_step hTab (i := 3) (o := _) (by kernel_rfl) (by simp only [gE]; rfl) (fun K hK => ?_); go_simp)
        refine (root_any _ _ _ _ _ F wr _ (hB.ext' hd) hfr hF.good hlen.2 (by simp; omega)).mono ?_
        rintro e w2 ⟨vn2, vb2, D2, i2, rfl, hB2, hG2, hD2, hi2, hS2⟩
        have hbw2 : w2.heap[w.heap.size]? = some (.cells #[.slice aF F.length capF] 28 (0, 0)) := by
          rw [hG2.keep.block _ (Nat.lt_of_lt_of_le (blk_lt hbw) hd.size) (fun k => by
            rcases k with h | h | h
            · omega
            · simp [Value.ownBlock] at h
            · simp [Value.ownBlock] at h)]
          exact hbw
        (refine hK.out _ _ (fun _ => ?_) ?_)
        · exact cell_of_row w2 w.heap.size 0 _ _ _ hbw2
        clear hK K
        (try simp only [Act.put, nE])
        have hBO2 := (hB.ext' hd).go hB2 hG2
        (refine wpAnyL_step hTab (i := 4) (o := _) (by kernel_rfl) (by simp only [gE]; rfl) (fun K hK => ?_); go_simp)
        refine (form_any _ _ _ D2 i2 _ hB2 hi2).mono ?_
        rintro e w3 ⟨vN, F', rfl, hN, hIF, hSF, hx3⟩
        obtain rfl : F' = F := Cgt.form_unique hIF hF (Cgt.same_trans hSF hS2)
        (refine hK.out _ _ (fun _ => ?_) ?_)
        · exact (hx3.cell (lt_of_cell (cell_of_row w2 w.heap.size 0 _ _ _ hbw2))).trans (cell_of_row w2 w.heap.size 0 _ _ _ hbw2)
        clear hK K
        (try simp only [Act.put, nE])
        have hE3 := ext_trans hE (ext_trans hBO2.ext hx3)
        refine wpAnyL_tail hTab [6, 7] [?o5_6, ?o5_7] _ _ _ _ (by simp) (by kernel_rfl) (by rfl) (by simp only [List.map_cons, List.map_nil, gE]; rfl) ?_
        go_wp2_with (go_at_call 54; refine (l3Same_any _ _ F' _ (hN.weaken (Nat.zero_le _)) (hf.ext hE3)).mono ?_; rintro e w4 ⟨rfl, hx4⟩)
        go_ret
        exact ⟨rfl, ext_trans hE3 hx4⟩

theorem GoodForm_any (vf : Value) (F : Dag) (w : World) (hf : Nodes w 0 vf F) (hF : Cgt.IsForm F) : Calls Tryz.prog 16 #[.agg #[vf]] w fun e w' => e = .returned (.bool (fitsN F)) ∧ Ext w w' := by
  obtain ⟨aF, capF, rfl, hcap, hml, -⟩ := id hf
  have hxb : Ext w (w.alloc (.cells #[.slice aF F.length capF] 28)) := by go_grown
  go_enter Tryz.func16, Tryz.ntmps16
  go_wp2_with (go_at_call 35; refine (l3Good_any _ F _ (hf.ext hxb) hF).mono ?_; rintro e w1 ⟨rfl, hx1⟩)
  go_ret
  exact ⟨rfl, ext_trans hxb hx1⟩

end Go.Proofs.YtjkdanmpihildaaGreatDoor

namespace Go.Proofs.YtjkdanmpihildaaGreatDoor
open Go.RowKit
open Cgt (Dag Nd vl Same)

def Forms (w : World) (v : Value) (Fs : List Dag) : Prop := ∃ a cap, v = .slice a Fs.length cap ∧ Fs.length ≤ cap ∧ Fs.length ≤ maxLen ∧
  (0 < Fs.length → ∃ b, a = some ⟨b, 0, none⟩ ∧ ∀ i (h : i < Fs.length), ∃ aN cN, w.cell? ⟨b, i, none⟩ = some (.slice aN (Fs[i]).length cN) ∧ Nodes w 0 (.slice aN (Fs[i]).length cN) Fs[i])
theorem Forms.ext {w w' : World} {v : Value} {Fs : List Dag} (h : Forms w v Fs) (hx : Ext w w') : Forms w' v Fs := by
  obtain ⟨a, cap, rfl, h1, h2, h3⟩ := h
  refine ⟨a, cap, rfl, h1, h2, fun h0 => ?_⟩
  obtain ⟨b, rfl, hc⟩ := h3 h0
  refine ⟨b, rfl, fun i hi => ?_⟩
  obtain ⟨aN, cN, c1, c2⟩ := hc i hi
  exact ⟨aN, cN, (hx.cell (lt_of_cell c1)).trans c1, c2.ext hx⟩
theorem Forms.at {w : World} {v : Value} {Fs : List Dag} (h : Forms w v Fs) {i : Nat} (hi : i < Fs.length) :
    ∃ b cap aN cN, v = .slice (some ⟨b, 0, none⟩) Fs.length cap ∧ Fs.length ≤ cap ∧ w.cell? ⟨b, i, none⟩ = some (.slice aN (Fs[i]).length cN) ∧ Nodes w 0 (.slice aN (Fs[i]).length cN) Fs[i] := by
  obtain ⟨a, cap, rfl, h1, h2, h3⟩ := h
  obtain ⟨b, rfl, hc⟩ := h3 (by omega)
  obtain ⟨aN, cN, c1, c2⟩ := hc i hi
  exact ⟨b, cap, aN, cN, rfl, h1, c1, c2⟩

def sizes (Fs : List Dag) : Nat := (Fs.map List.length).sum
theorem sizes_take {Fs : List Dag} {k : Nat} (h : k < Fs.length) : sizes (Fs.take (k + 1)) = sizes (Fs.take k) + (Fs[k]).length := by
  rw [List.take_succ_eq_append_getElem h, sizes, List.map_append, List.sum_append]; simp [sizes]
theorem sizes_le (Fs : List Dag) (k : Nat) : sizes (Fs.take k) ≤ sizes Fs := by
  conv => rhs; rw [← List.take_append_drop k Fs]
  rw [sizes, sizes, List.map_append, List.sum_append]; omega

theorem form_le {D F' : Dag} {root : Nat} (g : Cgt.Good D) (hr : root < D.length) (hF : Cgt.IsForm F') (hs : Same (Cgt.topOf F') (vl D root)) : F'.length ≤ D.length := by
  have h := form_small (at_ := List.range D.length) g hr hF hs (List.mem_range.2 hr) (fun j side x hj hx => List.mem_range.2 (by have := opt_lt g.wf hx; have := List.mem_range.1 hj; omega))
  simpa using h

theorem put_games {D D' : Dag} {ls rs : List Nat} {Ls Rs : List Dag} {i : Nat} (g : Cgt.WF D) (g' : Cgt.WF D') (hl : ls.length = Ls.length) (hr : rs.length = Rs.length) (sl : ∀ j (h : j < ls.length), ls[j] < D.length ∧ Same (vl D ls[j]) (Cgt.topOf (Ls.getD j []))) (sr : ∀ j (h : j < rs.length), rs[j] < D.length ∧ Same (vl D rs[j]) (Cgt.topOf (Rs.getD j [])))
    (hp : PutRel D ls rs D' i) : Same (vl D' i) (.mk (Ls.map Cgt.topOf) (Rs.map Cgt.topOf)) := by
  have key : ∀ {ls : List Nat} {Ls : List Dag}, ls.length = Ls.length → (∀ j (h : j < ls.length), ls[j] < D.length ∧ Same (vl D ls[j]) (Cgt.topOf (Ls.getD j []))) →
      (∀ y, y ∈ (sortN ls).map (vl D') → ∃ z, z ∈ Ls.map Cgt.topOf ∧ Same y z) ∧ (∀ z, z ∈ Ls.map Cgt.topOf → ∃ y, y ∈ (sortN ls).map (vl D') ∧ Same y z) := by
    intro ls Ls he hs
    refine ⟨fun y hy => ?_, fun z hz => ?_⟩
    · obtain ⟨x, hx, rfl⟩ := List.mem_map.1 hy
      obtain ⟨j, hj, rfl⟩ := List.mem_iff_getElem.1 (sortN_mem.1 hx)
      obtain ⟨h1, h2⟩ := hs j hj
      refine ⟨_, List.mem_map_of_mem (List.getElem_mem (l := Ls) (n := j) (by omega)), ?_⟩
      rw [hp.vl g g' h1]
      rw [List.getD_eq_getElem?_getD, List.getElem?_eq_getElem (by omega), Option.getD_some] at h2
      exact h2
    · obtain ⟨F, hF, rfl⟩ := List.mem_map.1 hz
      obtain ⟨j, hj, rfl⟩ := List.mem_iff_getElem.1 hF
      obtain ⟨h1, h2⟩ := hs j (by omega)
      refine ⟨_, List.mem_map_of_mem (sortN_mem.2 (List.getElem_mem (by omega : j < ls.length))), ?_⟩
      rw [hp.vl g g' h1]
      rw [List.getD_eq_getElem?_getD, List.getElem?_eq_getElem hj, Option.getD_some] at h2
      exact h2
  obtain ⟨a, b⟩ := key hl sl
  obtain ⟨c, d⟩ := key hr sr
  rw [Cgt.same_iff, Cgt.vl_l g' hp.1, Cgt.vl_r g' hp.1]
  exact ⟨a, b, c, d⟩

end Go.Proofs.YtjkdanmpihildaaGreatDoor
