/-
  Contracts of the drawing of test inputs: next, pick, one, among.
-/
import Derived.Test.YteknjeohbcgpdaaGreatDoorY1
import Derived.Test.YteknjeohbcgpdaaGreatDoorY4
import Derived.Test.YteknjeohbcgpdaaGreatDoorY7
import Derived.Laws.BitsLemmas
import Derived.Deep.DeepCutAuto
import Derived.Deep.CutBlock
set_option maxRecDepth 100000
namespace Go.Proofs.YteknjeohbcgpdaaGreatDoor
open Go.RowKit

def cds (us : List Nat) : List Value := us.map fun u => .int .u8 ((u : Nat) : Int)

structure Cur (w0 w : World) (pc : Nat) (cv : Value) (us : List Nat) (k : Nat) : Prop where
  code : Vals w0 cv (cds us)
  small : ∀ u, u ∈ us → u < 256
  ext : Ext w0 w
  pcz : w0.heap.size ≤ pc
  blk : ∃ s : Int, w.heap[pc]? = some (.cells #[cv, .int .i64 ((k : Nat) : Int), .int .u64 s] 77 (0, 0))
theorem Cur.open {w0 w : World} {pc : Nat} {cv : Value} {us : List Nat} {k : Nat} (h : Cur w0 w pc cv us k) : ∃ a cap, cv = .slice a us.length cap ∧ us.length ≤ 1152921504606846976 ∧ ∀ i (hi : i < us.length), ∃ b off, a = some ⟨b, off, none⟩ ∧ w.cell? ⟨b, off + i, none⟩ = some (.int .u8 ((us[i] : Nat) : Int)) := by
  obtain ⟨a, cap, e, hcap, hml, hcl⟩ := h.code.ext h.ext
  have hz : (cds us).length = us.length := by simp [cds]
  refine ⟨a, cap, by rw [e, hz], by omega, fun i hi => ?_⟩
  obtain ⟨b, off, e, hc⟩ := hcl (by omega)
  refine ⟨b, off, e, ?_⟩
  rw [hc i (by omega)]; simp [cds]
def CurGo (w0 w w' : World) (pc : Nat) (cv : Value) (us : List Nat) (k n : Nat) : Prop := (∃ k', k' ≤ k + n ∧ Cur w0 w' pc cv us k') ∧ Keep (fun b => b = pc) w w'
theorem low_byte (x : Int) (h0 : 0 ≤ x) (h1 : x < 18446744073709551616) : ∃ n : Nat, n < 256 ∧ wrap64 (bits BinOp.and IntKind.u64 x 255) = ((n : Nat) : Int) := by
  have h := bits_mask .u64 64 (by decide) (fun n h0 h1 => by rw [IntKind.wrap_u64]; omega) 8 (by decide) x h0 (by omega)
  have e : bits BinOp.and IntKind.u64 x 255 = x % 256 := by simpa using h
  refine ⟨(x % 256).toNat, by omega, ?_⟩
  rw [e]; unfold wrap64; omega
theorem Cur.go {w0 w w' : World} {pc : Nat} {cv : Value} {us : List Nat} {k : Nat} {s : Int} (h : Cur w0 w pc cv us k) (hb : w'.heap[pc]? = some (.cells #[cv, .int .i64 (((k : Nat) : Int) + 1), .int .u64 s] 77 (0, 0))) (hk : Keep (fun b => b = pc) w w') : CurGo w0 w w' pc cv us k 1 :=
  ⟨⟨k + 1, Nat.le_refl _, h.code, h.small, ⟨hk.os.trans h.ext.os, hk.tape.trans h.ext.tape, hk.output.trans h.ext.output, Nat.le_trans h.ext.size hk.size, fun b hb => (hk.block b (Nat.lt_of_lt_of_le hb h.ext.size) (fun e => by have := h.pcz; omega)).trans (h.ext.block b hb)⟩, h.pcz, s, by rw [hb, Int.natCast_succ]⟩, hk⟩
def rowsNx2 : List Row := [⟨0, [], 5, [0]⟩, ⟨1, [0], 6, [4]⟩, ⟨2, [1], 7, [5]⟩, ⟨3, [2], 8, [6]⟩, ⟨4, [], 9, [0]⟩, ⟨5, [4], 10, [8]⟩, ⟨6, [5], 11, [9]⟩, ⟨7, [6], 12, [10]⟩, ⟨8, [7], 13, [11]⟩, ⟨9, [3, 8], 14, [7, 12]⟩]
def rowsNx3 : List Row := [⟨0, [], 15, [0]⟩, ⟨1, [0], 16, [14]⟩, ⟨2, [1], 17, [15]⟩, ⟨3, [2], 18, [16]⟩, ⟨4, [], 19, [0]⟩, ⟨5, [4], 20, [18]⟩, ⟨6, [5], 21, [19]⟩, ⟨7, [6], 22, [20]⟩, ⟨8, [3, 7], 23, [17, 21]⟩, ⟨9, [8], 24, [22]⟩, ⟨10, [9], 25, [23]⟩, ⟨11, [10, 0, 1, 2, 3, 4, 5, 6, 7, 8, 9, 10], 4, [24]⟩]
def rowsNx6 : List Row := [⟨0, [], 45, [0]⟩, ⟨1, [0], 46, [44]⟩, ⟨2, [1], 47, [45]⟩, ⟨3, [2], 48, [46]⟩, ⟨4, [], 49, [0]⟩, ⟨5, [4], 50, [48]⟩, ⟨6, [5], 51, [49]⟩, ⟨7, [6], 52, [50]⟩, ⟨8, [7], 53, [51]⟩, ⟨9, [3, 8], 54, [47, 52]⟩]

set_option maxHeartbeats 1000000 in
theorem next_any {w0 w : World} {pc : Nat} {cv : Value} {us : List Nat} {k : Nat} (h : Cur w0 w pc cv us k) (hk : k ≤ 1000000) :
    Calls Tryz.prog 152 #[.pointer (some ⟨pc, 0, none⟩)] w fun e w' => ∃ x : Nat, x < 256 ∧ e = .returned (.int .i64 ((x : Nat) : Int)) ∧ CurGo w0 w w' pc cv us k 1 := by
  obtain ⟨s, hb⟩ := h.blk
  obtain ⟨a, cap, rfl, hml, hcl⟩ := h.open
  have c0 := cell_of_row w pc 0 _ _ _ hb
  have c1 := cell_of_row w pc 1 _ _ _ hb
  have c2 := cell_of_row w pc 2 _ _ _ hb
  simp only [gE] at c0 c1 c2
  have H := Lib.hid h
  go_enter Tryz.func152, Tryz.ntmps152
  have f1 := frozen_of_row w pc 1 _ _ hb
  have f2 := frozen_of_row w pc 2 _ _ hb
  by_cases hlt : k < us.length
  · obtain ⟨b, off, rfl, hu⟩ := hcl k hlt
    have hu8 := h.small _ (List.getElem_mem hlt)
    generalize us[k] = u at hu hu8
    have hli : ((k : Nat) : Int) < ((us.length : Nat) : Int) := by omega
    have hwu : IntKind.i64.wrap ((u : Nat) : Int) = ((u : Nat) : Int) := (Go.IntWalk.i64_left _).trans (by unfold wrap64; omega)
    clear hcl hlt
    go_upto_region 2 with fail
    refine wp_region_L (fun V => V.cell? ⟨pc, 0, none⟩ = some (.slice (some ⟨b, off, none⟩) us.length cap) ∧ V.cell? ⟨pc, 1, none⟩ = some (.int .i64 ((k : Nat) : Int))) [] rowsNx2 (by kernel_rfl) ⟨by kernel_rfl, by kernel_rfl, by kernel_rfl⟩ ⟨c0, c1⟩ (fun hTab hHeld => ?_)
    ((refine tkB hTab (i := 0) hHeld ?_); (try simp only [nP]); (refine tkB hTab (i := 1) hHeld ?_); (try simp only [nP]); (refine tkB hTab (i := 2) hHeld ?_); (try simp only [nP]); (refine tkB hTab (i := 3) hHeld ?_); (try simp only [nP]); (refine tkB hTab (i := 4) hHeld ?_); (try simp only [nP]); (refine tkB hTab (i := 5) hHeld ?_); (try simp only [nP]); (refine tkB hTab (i := 6) hHeld ?_); (try simp only [nP]); (refine tkB hTab (i := 7) hHeld ?_); (try simp only [nP]); (refine tkB hTab (i := 8) hHeld ?_); (try simp only [nP]); (refine tkB hTab (i := 9) hHeld ?_); (try simp only [nP]))
    refine tlB hTab [] [] ?_ (hm := rfl)
    clear hTab hHeld
    go_upto_region 3 with fail
    refine wp_region_L (fun V => V.cell? ⟨pc, 0, none⟩ = some (.slice (some ⟨b, off, none⟩) us.length cap) ∧ V.cell? ⟨pc, 1, none⟩ = some (.int .i64 ((k : Nat) : Int)) ∧ V.cell? ⟨b, off + k, none⟩ = some (.int .u8 ((u : Nat) : Int))) [] rowsNx3 (by kernel_rfl) ⟨by kernel_rfl, by kernel_rfl, by kernel_rfl⟩ ⟨c0, c1, hu⟩ (fun hTab hHeld => ?_)
    ((refine tkB hTab (i := 0) hHeld ?_); (try simp only [nP]); (refine tkB hTab (i := 1) hHeld ?_); (try simp only [nP]); (refine tkB hTab (i := 2) hHeld ?_); (try simp only [nP]); (refine tkB hTab (i := 3) hHeld ?_); (try simp only [nP]); (refine tkB hTab (i := 4) hHeld ?_); (try simp only [nP]); (refine tkB hTab (i := 5) hHeld ?_); (try simp only [nP]); (refine tkB hTab (i := 6) hHeld ?_); (try simp only [nP]); (refine tkB hTab (i := 7) hHeld ?_); (try simp only [nP]); (refine tkB hTab (i := 8) hHeld ?_); (try simp only [nP]); (refine tkB hTab (i := 9) hHeld ?_); (try simp only [nP]); (refine tkB hTab (i := 10) hHeld ?_); (try simp only [nP]); (refine tkB hTab (i := 11) hHeld ?_); (try simp only [nP]))
    refine tlB hTab [] [] ?_ (hm := rfl)
    clear hTab hHeld
    go_upto_region 5 with fail
    have hb1 : ((w.setCell ⟨pc, 1, none⟩ (.int .i64 (((k : Nat) : Int) + 1))).drew.drew).heap[pc]? = some (.cells #[.slice (some ⟨b, off, none⟩) us.length cap, .int .i64 (((k : Nat) : Int) + 1), .int .u64 s] 77 (0, 0)) := by
      have := heap_setCell_same w pc 1 _ _ (.int .i64 (((k : Nat) : Int) + 1)) hb
      simp only [nE] at this; exact this
    have hk1 : Keep (fun x => x = pc) w ((w.setCell ⟨pc, 1, none⟩ (.int .i64 (((k : Nat) : Int) + 1))).drew.drew) := ⟨rfl, rfl, rfl, by simp, fun x _ hn => heap_setCell_other _ _ _ _ (fun e => hn e)⟩
    generalize ((w.setCell ⟨pc, 1, none⟩ (.int .i64 (((k : Nat) : Int) + 1))).drew.drew) = W1 at *
    clear c0 c1 c2 f1 f2
    have c2 := cell_of_row W1 pc 2 _ _ _ hb1
    simp only [gE] at c2
    have f2 := frozen_of_row W1 pc 2 _ _ hb1
    go_upto_region 6 with fail
    generalize IntKind.u64.wrap (IntKind.u64.wrap (IntKind.u64.wrap (s * 6364136223846793005) + ((u : Nat) : Int)) + 868868) = s2 at *
    have hb2 : (W1.setCell ⟨pc, 2, none⟩ (.int .u64 s2)).heap[pc]? = some (.cells #[.slice (some ⟨b, off, none⟩) us.length cap, .int .i64 (((k : Nat) : Int) + 1), .int .u64 s2] 77 (0, 0)) := by
      have := heap_setCell_same W1 pc 2 _ _ (.int .u64 s2) hb1
      simp only [nE] at this; exact this
    have hk2 : Keep (fun x => x = pc) w (W1.setCell ⟨pc, 2, none⟩ (.int .u64 s2)) := hk1.trans ⟨rfl, rfl, rfl, by simp, fun x _ hn => heap_setCell_other _ _ _ _ (fun e => hn e)⟩ (fun _ _ h => h)
    generalize W1.setCell ⟨pc, 2, none⟩ (.int .u64 s2) = W2 at *
    clear c2 f2 hb1 hk1
    have c0 := cell_of_row W2 pc 0 _ _ _ hb2
    have c1 := cell_of_row W2 pc 1 _ _ _ hb2
    simp only [gE] at c0 c1
    have hle : ((k : Nat) : Int) + 1 ≤ ((us.length : Nat) : Int) := by omega
    refine wp_region_L (fun V => V.cell? ⟨pc, 0, none⟩ = some (.slice (some ⟨b, off, none⟩) us.length cap) ∧ V.cell? ⟨pc, 1, none⟩ = some (.int .i64 (((k : Nat) : Int) + 1))) [] rowsNx6 (by kernel_rfl) ⟨by kernel_rfl, by kernel_rfl, by kernel_rfl⟩ ⟨c0, c1⟩ (fun hTab hHeld => ?_)
    ((refine tkB hTab (i := 0) hHeld ?_); (try simp only [nP]); (refine tkB hTab (i := 1) hHeld ?_); (try simp only [nP]); (refine tkB hTab (i := 2) hHeld ?_); (try simp only [nP]); (refine tkB hTab (i := 3) hHeld ?_); (try simp only [nP]); (refine tkB hTab (i := 4) hHeld ?_); (try simp only [nP]); (refine tkB hTab (i := 5) hHeld ?_); (try simp only [nP]); (refine tkB hTab (i := 6) hHeld ?_); (try simp only [nP]); (refine tkB hTab (i := 7) hHeld ?_); (try simp only [nP]); (refine tkB hTab (i := 8) hHeld ?_); (try simp only [nP]); (refine tkB hTab (i := 9) hHeld ?_); (try simp only [nP]))
    refine tlB hTab [] [] ?_ (hm := rfl)
    clear hTab hHeld
    go_wp2
    go_ret
    exact ⟨u, hu8, rfl, H.out.go hb2 ⟨hk2.os, hk2.tape, hk2.output, hk2.size, hk2.block⟩⟩
  · have hli : ¬ (((k : Nat) : Int) < ((us.length : Nat) : Int)) := by omega
    clear hcl hlt
    go_upto_region 2 with fail
    refine wp_region_L (fun V => V.cell? ⟨pc, 0, none⟩ = some (.slice a us.length cap) ∧ V.cell? ⟨pc, 1, none⟩ = some (.int .i64 ((k : Nat) : Int))) [] rowsNx2 (by kernel_rfl) ⟨by kernel_rfl, by kernel_rfl, by kernel_rfl⟩ ⟨c0, c1⟩ (fun hTab hHeld => ?_)
    ((refine tkB hTab (i := 0) hHeld ?_); (try simp only [nP]); (refine tkB hTab (i := 1) hHeld ?_); (try simp only [nP]); (refine tkB hTab (i := 2) hHeld ?_); (try simp only [nP]); (refine tkB hTab (i := 3) hHeld ?_); (try simp only [nP]); (refine tkB hTab (i := 4) hHeld ?_); (try simp only [nP]); (refine tkB hTab (i := 5) hHeld ?_); (try simp only [nP]); (refine tkB hTab (i := 6) hHeld ?_); (try simp only [nP]); (refine tkB hTab (i := 7) hHeld ?_); (try simp only [nP]); (refine tkB hTab (i := 8) hHeld ?_); (try simp only [nP]); (refine tkB hTab (i := 9) hHeld ?_); (try simp only [nP]))
    refine tlB hTab [] [] ?_ (hm := rfl)
    clear hTab hHeld
    go_upto_region 5 with fail
    have hb1 : ((w.setCell ⟨pc, 1, none⟩ (.int .i64 (((k : Nat) : Int) + 1))).drew).heap[pc]? = some (.cells #[.slice a us.length cap, .int .i64 (((k : Nat) : Int) + 1), .int .u64 s] 77 (0, 0)) := by
      have := heap_setCell_same w pc 1 _ _ (.int .i64 (((k : Nat) : Int) + 1)) hb
      simp only [nE] at this; exact this
    have hk1 : Keep (fun x => x = pc) w ((w.setCell ⟨pc, 1, none⟩ (.int .i64 (((k : Nat) : Int) + 1))).drew) := ⟨rfl, rfl, rfl, by simp, fun x _ hn => heap_setCell_other _ _ _ _ (fun e => hn e)⟩
    generalize ((w.setCell ⟨pc, 1, none⟩ (.int .i64 (((k : Nat) : Int) + 1))).drew) = W1 at *
    clear c0 c1 c2 f1 f2
    have c2 := cell_of_row W1 pc 2 _ _ _ hb1
    simp only [gE] at c2
    have f2 := frozen_of_row W1 pc 2 _ _ hb1
    go_upto_region 6 with fail
    obtain ⟨s2, hs2, hs3⟩ : ∃ s2, IntKind.u64.wrap (IntKind.u64.wrap (IntKind.u64.wrap (s * 6364136223846793005)) + 868868) = s2 ∧ 0 ≤ s2 ∧ s2 < 18446744073709551616 := ⟨_, rfl, by rw [IntKind.wrap_u64]; omega, by rw [IntKind.wrap_u64]; omega⟩
    rw [hs2]
    have hb2 : (W1.setCell ⟨pc, 2, none⟩ (.int .u64 s2)).heap[pc]? = some (.cells #[.slice a us.length cap, .int .i64 (((k : Nat) : Int) + 1), .int .u64 s2] 77 (0, 0)) := by
      have := heap_setCell_same W1 pc 2 _ _ (.int .u64 s2) hb1
      simp only [nE] at this; exact this
    have hk2 : Keep (fun x => x = pc) w (W1.setCell ⟨pc, 2, none⟩ (.int .u64 s2)) := hk1.trans ⟨rfl, rfl, rfl, by simp, fun x _ hn => heap_setCell_other _ _ _ _ (fun e => hn e)⟩ (fun _ _ h => h)
    generalize W1.setCell ⟨pc, 2, none⟩ (.int .u64 s2) = W2 at *
    have HS3 := Lib.hid hs3
    clear c2 f2 hb1 hk1 hs2 hs3
    have c0 := cell_of_row W2 pc 0 _ _ _ hb2
    have c1 := cell_of_row W2 pc 1 _ _ _ hb2
    have c2 := cell_of_row W2 pc 2 _ _ _ hb2
    simp only [gE] at c0 c1 c2
    have hle : ¬ (((k : Nat) : Int) + 1 ≤ ((us.length : Nat) : Int)) := by omega
    refine wp_region_L (fun V => V.cell? ⟨pc, 0, none⟩ = some (.slice a us.length cap) ∧ V.cell? ⟨pc, 1, none⟩ = some (.int .i64 (((k : Nat) : Int) + 1))) [] rowsNx6 (by kernel_rfl) ⟨by kernel_rfl, by kernel_rfl, by kernel_rfl⟩ ⟨c0, c1⟩ (fun hTab hHeld => ?_)
    ((refine tkB hTab (i := 0) hHeld ?_); (try simp only [nP]); (refine tkB hTab (i := 1) hHeld ?_); (try simp only [nP]); (refine tkB hTab (i := 2) hHeld ?_); (try simp only [nP]); (refine tkB hTab (i := 3) hHeld ?_); (try simp only [nP]); (refine tkB hTab (i := 4) hHeld ?_); (try simp only [nP]); (refine tkB hTab (i := 5) hHeld ?_); (try simp only [nP]); (refine tkB hTab (i := 6) hHeld ?_); (try simp only [nP]); (refine tkB hTab (i := 7) hHeld ?_); (try simp only [nP]); (refine tkB hTab (i := 8) hHeld ?_); (try simp only [nP]); (refine tkB hTab (i := 9) hHeld ?_); (try simp only [nP]))
    refine tlB hTab [] [] ?_ (hm := rfl)
    clear hTab hHeld
    go_wp2
    have hm := low_byte (s2 / 1099511627776) (by have := HS3.out; omega) (by have := HS3.out; omega)
    generalize wrap64 (bits BinOp.and IntKind.u64 (s2 / 1099511627776) 255) = x at *
    obtain ⟨n, hn, rfl⟩ := hm
    go_ret
    exact ⟨n, hn, rfl, H.out.go hb2 ⟨hk2.os, hk2.tape, hk2.output, hk2.size, hk2.block⟩⟩

end Go.Proofs.YteknjeohbcgpdaaGreatDoor
