/-
  Contracts of the law's helpers rBig, rInts, rForm: at what reads the same the answer is true. (2 texts.)
-/
import Derived.Test.YteknjeohbcgpdaaGreatDoorY1
import Derived.Test.YteknjeohbcgpdaaGreatDoorY7
import Derived.Test.YteknjeohbcgpdaaGreatDoorY8
import Derived.Test.YteknjeohbcgpdaaGreatDoorY16
import Derived.Deep.DeepCutAuto
import Derived.Deep.CutBlock
set_option maxRecDepth 100000
namespace Go.Proofs.YteknjeohbcgpdaaGreatDoor
section
open Go.RowKit

def rowsRT : List Row := [⟨0, [], 18, [0]⟩, ⟨1, [], 19, [5]⟩, ⟨2, [0, 1], 20, [17, 18]⟩, ⟨3, [2], 21, [19]⟩, ⟨4, [], 22, [1]⟩, ⟨5, [], 23, [5]⟩, ⟨6, [4, 5], 24, [21, 22]⟩, ⟨7, [6], 25, [23]⟩, ⟨8, [3, 7], 26, [20, 24]⟩]
set_option maxHeartbeats 400000 in
theorem rTexts_same (v u : Value) (ss : List ByteArray) (w : World) (hv : Strs w v ss) (hu : Strs w u ss) (hl : ss.length ≤ 1000000) : Calls Tryz.prog 24 #[v, u] w fun e w' => e = .returned (.bool true) ∧ Ext w w' := by
  obtain ⟨a, cap, rfl, hcap, hml⟩ := hv.open
  obtain ⟨a2, cap2, rfl, hcap2, hml2⟩ := hu.open
  go_enter Tryz.func24, Tryz.ntmps24
  go_wp2
  go_loopw [5] (fun ii wr => ∃ k : Nat, k ≤ ss.length ∧ ii = .int .i64 ((k : Nat) : Int) ∧ Ext w wr) (fun ii _ => ss.length - (intOf ii).toNat)
  case atStart => exact ⟨0, Nat.zero_le _, by go_num, Below.refl _ _⟩
  case round =>
    obtain ⟨k, hk, rfl, hx⟩ := hrel
    by_cases hlt : k < ss.length
    · have h1 : ((k : Nat) : Int) < ((ss.length : Nat) : Int) := by omega
      obtain ⟨b, off, rfl, hcl⟩ := (hv.ext hx).at hlt
      obtain ⟨b2, off2, rfl, hcl2⟩ := (hu.ext hx).at hlt
      have c1 := hcl k hlt
      have c2 := hcl2 k hlt
      generalize ss[k]'hlt = sk at c1 c2
      clear hcl hcl2 hv hu
      go_upto_region 6 with fail
      refine wp_region_L (fun V => V.cell? ⟨b, off + k, none⟩ = some (.string sk) ∧ V.cell? ⟨b2, off2 + k, none⟩ = some (.string sk)) [] rowsRT (by kernel_rfl) ⟨by kernel_rfl, by kernel_rfl, by kernel_rfl⟩ ⟨c1, c2⟩ (fun hTab hHeld => ?_)
      ((refine tkB hTab (i := 0) hHeld ?_); (try simp only [nP]); (refine tkB hTab (i := 1) hHeld ?_); (try simp only [nP]); (refine tkB hTab (i := 2) hHeld ?_); (try simp only [nP]); (refine tkB hTab (i := 3) hHeld ?_); (try simp only [nP]); (refine tkB hTab (i := 4) hHeld ?_); (try simp only [nP]); (refine tkB hTab (i := 5) hHeld ?_); (try simp only [nP]); (refine tkB hTab (i := 6) hHeld ?_); (try simp only [nP]); (refine tkB hTab (i := 7) hHeld ?_); (try simp only [nP]); (refine tkB hTab (i := 8) hHeld ?_); (try simp only [nP]))
      refine tlB hTab [] [] ?_ (hm := rfl)
      clear hTab hHeld
      go_wp2
      go_roundw
      case rel => exact ⟨k + 1, by omega, by go_num, ext_trans hx (rd_ext ⟨1, rfl⟩)⟩
      case measure => simp [intOf]; omega
    · have h1 : ¬ (((k : Nat) : Int) < ((ss.length : Nat) : Int)) := by omega
      go_wp2
      go_ret
      exact ⟨rfl, hx⟩
end
section
open Go.RowKit
open Cgt (Dag Nd)

theorem rBig_any (a : Option Addr) (n cap : Nat) (w : World) : Calls Tryz.prog 16 #[.slice a n cap] w fun e w' => e = .returned (.bool (decide ((65536 : Int) < ((n : Nat) : Int)))) ∧ Ext w w' := by
  go_enter Tryz.func16, Tryz.ntmps16
  go_wp2
  go_ret
  exact ⟨rfl, Below.refl _ _⟩

def rowsRI : List Row := [⟨0, [], 18, [0]⟩, ⟨1, [], 19, [5]⟩, ⟨2, [0, 1], 20, [17, 18]⟩, ⟨3, [2], 21, [19]⟩, ⟨4, [], 22, [1]⟩, ⟨5, [], 23, [5]⟩, ⟨6, [4, 5], 24, [21, 22]⟩, ⟨7, [6], 25, [23]⟩, ⟨8, [3, 7], 26, [20, 24]⟩]
set_option maxHeartbeats 400000 in
theorem rInts_same (v u : Value) (l : List Int) (w : World) (hv : Ints w v l) (hu : Ints w u l) (hl : l.length ≤ 1000000) : Calls Tryz.prog 59 #[v, u] w fun e w' => e = .returned (.bool true) ∧ Ext w w' := by
  obtain ⟨a, cap, rfl, hcap, hml, -⟩ := id hv
  obtain ⟨a2, cap2, rfl, hcap2, hml2, -⟩ := id hu
  go_enter Tryz.func59, Tryz.ntmps59
  go_wp2
  go_loopw [5] (fun ii wr => ∃ k : Nat, k ≤ l.length ∧ ii = .int .i64 ((k : Nat) : Int) ∧ Ext w wr) (fun ii _ => l.length - (intOf ii).toNat)
  case atStart => exact ⟨0, Nat.zero_le _, by go_num, Below.refl _ _⟩
  case round =>
    obtain ⟨k, hk, rfl, hx⟩ := hrel
    by_cases hlt : k < l.length
    · have h1 : ((k : Nat) : Int) < ((l.length : Nat) : Int) := by omega
      obtain ⟨a', c', e', -, -, hc⟩ := hv.ext hx
      obtain ⟨b, off, ea, hcl⟩ := hc (by omega)
      obtain ⟨a2', c2', e2', -, -, hc2⟩ := hu.ext hx
      obtain ⟨b2, off2, ea2, hcl2⟩ := hc2 (by omega)
      simp only [Value.slice.injEq] at e' e2'
      obtain ⟨rfl, -, rfl⟩ := e'
      obtain ⟨rfl, -, rfl⟩ := e2'
      subst ea
      subst ea2
      have c1 := hcl k hlt
      have c2 := hcl2 k hlt
      generalize zat l k = sk at c1 c2
      clear hcl hcl2 hv hu hc hc2
      go_upto_region 6 with fail
      refine wp_region_L (fun V => V.cell? ⟨b, off + k, none⟩ = some (.int .i64 sk) ∧ V.cell? ⟨b2, off2 + k, none⟩ = some (.int .i64 sk)) [] rowsRI (by kernel_rfl) ⟨by kernel_rfl, by kernel_rfl, by kernel_rfl⟩ ⟨c1, c2⟩ (fun hTab hHeld => ?_)
      ((refine tkB hTab (i := 0) hHeld ?_); (try simp only [nP]); (refine tkB hTab (i := 1) hHeld ?_); (try simp only [nP]); (refine tkB hTab (i := 2) hHeld ?_); (try simp only [nP]); (refine tkB hTab (i := 3) hHeld ?_); (try simp only [nP]); (refine tkB hTab (i := 4) hHeld ?_); (try simp only [nP]); (refine tkB hTab (i := 5) hHeld ?_); (try simp only [nP]); (refine tkB hTab (i := 6) hHeld ?_); (try simp only [nP]); (refine tkB hTab (i := 7) hHeld ?_); (try simp only [nP]); (refine tkB hTab (i := 8) hHeld ?_); (try simp only [nP]))
      refine tlB hTab [] [] ?_ (hm := rfl)
      clear hTab hHeld
      go_wp2
      go_roundw
      case rel => exact ⟨k + 1, by omega, by go_num, ext_trans hx (rd_ext ⟨1, rfl⟩)⟩
      case measure => simp [intOf]; omega
    · have h1 : ¬ (((k : Nat) : Int) < ((l.length : Nat) : Int)) := by omega
      go_wp2
      go_ret
      exact ⟨rfl, hx⟩

def rowsRF : List Row := [⟨0, [], 21, [2]⟩, ⟨1, [0], 22, [20]⟩, ⟨2, [], 23, [5]⟩, ⟨3, [1, 2], 24, [21, 22]⟩, ⟨4, [3], 25, [23]⟩, ⟨5, [4], 26, [24]⟩, ⟨6, [], 27, [3]⟩, ⟨7, [6], 28, [26]⟩, ⟨8, [], 29, [5]⟩, ⟨9, [7, 8], 30, [27, 28]⟩, ⟨10, [9], 31, [29]⟩, ⟨11, [10], 32, [30]⟩, ⟨12, [5, 11], 33, [25, 31]⟩, ⟨13, [12], 34, [32]⟩, ⟨14, [13, 12], 35, [33]⟩, ⟨15, [14], 36, [2, 34]⟩, ⟨16, [15, 14], 37, [35, 34]⟩, ⟨17, [14], 38, [5, 34]⟩, ⟨18, [16, 17, 14], 39, [36, 37, 34]⟩, ⟨19, [18, 14], 40, [38, 34]⟩, ⟨20, [19, 14], 41, [39, 34]⟩, ⟨21, [14], 42, [3, 34]⟩, ⟨22, [21, 14], 43, [41, 34]⟩, ⟨23, [14], 44, [5, 34]⟩, ⟨24, [22, 23, 14], 45, [42, 43, 34]⟩, ⟨25, [24, 14], 46, [44, 34]⟩, ⟨26, [25, 14], 47, [45, 34]⟩, ⟨27, [20, 26, 14, 14], 48, [40, 46, 34]⟩, ⟨28, [27, 14], 49, [47, 34]⟩, ⟨29, [14, 28], 50, [34, 48]⟩]
set_option maxHeartbeats 1000000 in
theorem rForm_same (v u : Value) (F : Dag) (w : World) (h : Nodes w 0 v F) (k : Nodes w 0 u F) (hFl : F.length ≤ 1000000) (hl : ∀ i (hi : i < F.length), (F[i]).1.length ≤ 1000000 ∧ (F[i]).2.length ≤ 1000000) : Calls Tryz.prog 22 #[.agg #[v], .agg #[u]] w fun e w' => e = .returned (.bool true) ∧ Ext w w' := by
  obtain ⟨a, cap, rfl, hc1, hm1, -⟩ := id h
  obtain ⟨a2, cap2, rfl, hc2, hm2, -⟩ := id k
  have hx2 : Ext w ((w.alloc (.cells #[.slice a F.length cap] 28)).alloc (.cells #[.slice a2 F.length cap2] 28)) := by go_grown
  have b0 : ((w.alloc (.cells #[.slice a F.length cap] 28)).alloc (.cells #[.slice a2 F.length cap2] 28)).heap[w.heap.size]? = some (.cells #[.slice a F.length cap] 28 (0, 0)) := by
    rw [Below.heap_alloc _ _ _ (by simp)]; exact heap_alloc_new _ _
  have b1 : ((w.alloc (.cells #[.slice a F.length cap] 28)).alloc (.cells #[.slice a2 F.length cap2] 28)).heap[w.heap.size + 1]? = some (.cells #[.slice a2 F.length cap2] 28 (0, 0)) := by
    have h := heap_alloc_new (w.alloc (.cells #[.slice a F.length cap] 28)) (.cells #[.slice a2 F.length cap2] 28); rw [World.size_alloc] at h; exact h
  have HL := Lib.hid hl
  clear hl
  go_enter Tryz.func22, Tryz.ntmps22
  go_upto_region 1 with fail
  generalize (w.alloc (.cells #[.slice a F.length cap] 28)).alloc (.cells #[.slice a2 F.length cap2] 28) = W at *
  have c0 := cell_of_row W w.heap.size 0 _ _ _ b0
  have c1 := cell_of_row W (w.heap.size + 1) 0 _ _ _ b1
  simp only [gE] at c0 c1
  go_upto_region 4 with fail
  clear c0 c1
  go_loopw [5] (fun ii wr => ∃ i, i ≤ F.length ∧ ii = .int .i64 ((i : Nat) : Int) ∧ Ext W wr) (fun ii _ => F.length - (intOf ii).toNat)
  case atStart => exact ⟨0, Nat.zero_le _, rfl, Below.refl _ _⟩
  case round =>
    obtain ⟨i, hi, rfl, hE⟩ := hrel
    have c0 := cell_of_row wr w.heap.size 0 _ _ _ ((hE.block _ (blk_lt b0)).trans b0)
    have c1 := cell_of_row wr (w.heap.size + 1) 0 _ _ _ ((hE.block _ (blk_lt b1)).trans b1)
    simp only [gE] at c0 c1
    have hEw := ext_trans hx2 hE
    by_cases hlt : i < F.length
    · have h1 : ((i : Nat) : Int) < (F.length : Int) := by omega
      obtain ⟨b1', d1, aL, cL, aR, cR, he1, -, l1, r1, iL, iR⟩ := (h.ext hEw).at hlt
      obtain ⟨b2', d2, aL2, cL2, aR2, cR2, he2, -, l2, r2, iL2, iR2⟩ := (k.ext hEw).at hlt
      simp only [Value.slice.injEq] at he1 he2
      obtain ⟨rfl, -, rfl⟩ := he1
      obtain ⟨rfl, -, rfl⟩ := he2
      have hSx : ∀ V : World, Ext wr V → (V.cell? ⟨w.heap.size, 0, none⟩ = some (.slice (some ⟨b1', 0, none⟩) F.length cap) ∧ V.cell? ⟨w.heap.size + 1, 0, none⟩ = some (.slice (some ⟨b2', 0, none⟩) F.length cap2)) ∧ V.cell? ⟨b1', i * 2, none⟩ = some (.slice aL (F[i]).1.length cL) ∧ V.cell? ⟨b1', i * 2 + 1, none⟩ = some (.slice aR (F[i]).2.length cR) ∧ V.cell? ⟨b2', i * 2, none⟩ = some (.slice aL2 (F[i]).1.length cL2) ∧ V.cell? ⟨b2', i * 2 + 1, none⟩ = some (.slice aR2 (F[i]).2.length cR2) := fun V hV =>
        ⟨⟨(hV.cell (lt_of_cell c0)).trans c0, (hV.cell (lt_of_cell c1)).trans c1⟩, (hV.cell (lt_of_cell l1)).trans l1, (hV.cell (lt_of_cell r1)).trans r1, (hV.cell (lt_of_cell l2)).trans l2, (hV.cell (lt_of_cell r2)).trans r2⟩
      have hI : ∀ V, Ext wr V → Calls Tryz.prog 59 #[.slice aL (F[i]).1.length cL, .slice aL2 (F[i]).1.length cL2] V (fun e w' => e = .returned (.bool true) ∧ Ext V w') := fun V hV => rInts_same _ _ _ V (iL.ext hV) (iL2.ext hV) (by rw [toZ_len]; exact (HL.out i hlt).1)
      have hJ : ∀ V, Ext wr V → Calls Tryz.prog 59 #[.slice aR (F[i]).2.length cR, .slice aR2 (F[i]).2.length cR2] V (fun e w' => e = .returned (.bool true) ∧ Ext V w') := fun V hV => rInts_same _ _ _ V (iR.ext hV) (iR2.ext hV) (by rw [toZ_len]; exact (HL.out i hlt).2)
      have HE := Lib.hid (And.intro hE hlt)
      have HS := Lib.hid hSx
      have HIJ := Lib.hid (And.intro hI hJ)
      have hxd : Ext wr wr.drew := ⟨rfl, rfl, rfl, Nat.le_refl _, fun _ _ => rfl⟩
      have hHeld := hSx _ hxd
      clear l1 r1 l2 r2 iL iR iL2 iR2 hSx hI hJ hE hEw
      go_upto_region 6 with fail
      clear c0 c1
      generalize (F[i]).1 = lf at *
      generalize (F[i]).2 = rf at *
      refine wp_region_L (fun V : World => (V.cell? ⟨w.heap.size, 0, none⟩ = some (.slice (some ⟨b1', 0, none⟩) F.length cap) ∧ V.cell? ⟨w.heap.size + 1, 0, none⟩ = some (.slice (some ⟨b2', 0, none⟩) F.length cap2)) ∧ V.cell? ⟨b1', i * 2, none⟩ = some (.slice aL lf.length cL) ∧ V.cell? ⟨b1', i * 2 + 1, none⟩ = some (.slice aR rf.length cR) ∧ V.cell? ⟨b2', i * 2, none⟩ = some (.slice aL2 lf.length cL2) ∧ V.cell? ⟨b2', i * 2 + 1, none⟩ = some (.slice aR2 rf.length cR2)) [29] rowsRF (by kernel_rfl) ⟨by kernel_rfl, by kernel_rfl, by kernel_rfl⟩ hHeld (fun hTab hHeld => ?_)
      ((refine tkB hTab (i := 0) hHeld ?_); (try simp only [nP]); (refine tkB hTab (i := 1) hHeld ?_); (try simp only [nP]); (refine tkB hTab (i := 2) hHeld ?_); (try simp only [nP]); (refine tkB hTab (i := 3) hHeld ?_); (try simp only [nP]); (refine tkB hTab (i := 4) hHeld ?_); (try simp only [nP]); (refine tkB hTab (i := 5) hHeld ?_); (try simp only [nP]); (refine tkB hTab (i := 6) hHeld ?_); (try simp only [nP]); (refine tkB hTab (i := 7) hHeld ?_); (try simp only [nP]); (refine tkB hTab (i := 8) hHeld ?_); (try simp only [nP]); (refine tkB hTab (i := 9) hHeld ?_); (try simp only [nP]); (refine tkB hTab (i := 10) hHeld ?_); (try simp only [nP]); (refine tkB hTab (i := 11) hHeld ?_); (try simp only [nP]))
      (refine stB hTab (i := 12) fun K hK => ?_; go_simp)
      refine (HIJ.out.1 _ hxd).mono ?_
      rintro e w5 ⟨rfl, hx5⟩
      have hxx := ext_trans hxd hx5
      have hHeld := HS.out _ hxx
      refine hK.out _ _ (fun _ => hHeld) ?_
      clear hK K
      (try simp only [nP])
      ((refine tkB hTab (i := 13) hHeld ?_); (try simp only [nP]); (refine tkB hTab (i := 14) hHeld ?_); (try simp only [nP]); (refine tkB hTab (i := 15) hHeld ?_); (try simp only [nP]); (refine tkB hTab (i := 16) hHeld ?_); (try simp only [nP]); (refine tkB hTab (i := 17) hHeld ?_); (try simp only [nP]); (refine tkB hTab (i := 18) hHeld ?_); (try simp only [nP]); (refine tkB hTab (i := 19) hHeld ?_); (try simp only [nP]); (refine tkB hTab (i := 20) hHeld ?_); (try simp only [nP]); (refine tkB hTab (i := 21) hHeld ?_); (try simp only [nP]); (refine tkB hTab (i := 22) hHeld ?_); (try simp only [nP]); (refine tkB hTab (i := 23) hHeld ?_); (try simp only [nP]); (refine tkB hTab (i := 24) hHeld ?_); (try simp only [nP]); (refine tkB hTab (i := 25) hHeld ?_); (try simp only [nP]); (refine tkB hTab (i := 26) hHeld ?_); (try simp only [nP]))
      (refine stB hTab (i := 27) fun K hK => ?_; go_simp)
      refine (HIJ.out.2 _ hxx).mono ?_
      rintro e w6 ⟨rfl, hx6⟩
      have hxx6 := ext_trans hxx hx6
      have hHeld := HS.out _ hxx6
      refine hK.out _ _ (fun _ => hHeld) ?_
      clear hK K
      (try simp only [nP])
      ((refine tkB hTab (i := 28) hHeld ?_); (try simp only [nP]))
      refine tlB hTab [29] [_] ?_
      clear hTab hHeld
      go_wp2
      go_roundw
      case rel => exact ⟨i + 1, HE.out.2, by go_num, ext_trans HE.out.1 hxx6⟩
      case measure => have := HE.out.2; simp [intOf]; omega
    · have h1 : ¬ (((i : Nat) : Int) < (F.length : Int)) := by omega
      go_wp2
      go_ret
      exact ⟨rfl, hEw⟩
end
end Go.Proofs.YteknjeohbcgpdaaGreatDoor
