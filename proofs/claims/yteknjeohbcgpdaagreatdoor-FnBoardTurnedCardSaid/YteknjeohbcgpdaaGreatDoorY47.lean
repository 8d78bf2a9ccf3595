/-
  Contract of the drawing of test inputs: l21Loose, DrawDominoValue.
-/
import Derived.Test.YteknjeohbcgpdaaGreatDoorY46
set_option maxRecDepth 100000
namespace Go.Proofs.YteknjeohbcgpdaaGreatDoor
open Go.RowKit

theorem own_cellf {w : World} {B e g n cap k : Nat} {xs : List Value} (h : w.ownsRow B e 1 (.slice (some ⟨g, 0, none⟩) n cap) n xs) (hk : k < n) : w.frozen? ⟨g, k, none⟩ = false ∧ w.cell? ⟨g, k, none⟩ = xs[k]? := by
  have hc := World.ownsRow.cellAt h k (by omega)
  refine ⟨?_, hc⟩
  rcases h.2 with ⟨e1, _⟩ | ⟨g', cap', cur, e1, hb, hg, _⟩
  · simp at e1
  · simp only [Value.slice.injEq, Option.some.injEq, Addr.mk.injEq, and_true, true_and] at e1
    obtain ⟨rfl, rfl⟩ := e1
    exact frozen_of_row w g k _ _ hg
section
variable {w0 w wr : World} {pc po k : Nat} {cv ov : Value} {us : List Nat} {out : List ByteArray}
theorem DrM.set {g n cap i : Nat} (m : DrM w wr pc po (.slice (some ⟨g, 0, none⟩) n cap) out) (c : Cur w0 wr pc cv us k) (hn : n = out.length) (hi : i < out.length) (s : ByteArray) :
    DrM w (wr.setCell ⟨g, i, none⟩ (.string s)) pc po (.slice (some ⟨g, 0, none⟩) n cap) (out.set i s) ∧ Cur w0 (wr.setCell ⟨g, i, none⟩ (.string s)) pc cv us k := by
  subst hn
  have hk := keep_set (w := wr) (p := ⟨g, i, none⟩) (v := .string s)
  have hg := m.own.lt g rfl
  have h1 := m.pz; have h2 := m.pcl
  have hgp : g ≠ po := fun e => m.np (by rw [e]; rfl)
  refine ⟨⟨(hk.block _ (blk_lt m.b1) (fun e => by have e' : w.heap.size = g := e; omega)).trans m.b1, (hk.block _ (blk_lt m.b2) (fun e => hgp e.symm)).trans m.b2, ?_, m.np, m.pz, m.pcl, m.keep.trans hk (fun b hb e => by have e' : b = g := e; omega)⟩, c.keep hk (fun b e => by have e' : b = g := e; omega)⟩
  rw [List.length_set, List.map_set]
  exact own_setv m.own hi (.string s)
theorem DrM.nil (m : DrM w wr pc po ov out) (c : Cur w0 wr pc cv us k) : DrM w (wr.setCell ⟨po, 0, none⟩ (.slice none 0 0)) pc po (.slice none 0 0) [] ∧ Cur w0 (wr.setCell ⟨po, 0, none⟩ (.slice none 0 0)) pc cv us k := by
  have hk := keep_set (w := wr) (p := ⟨po, 0, none⟩) (v := .slice none 0 0)
  have h1 := m.pz; have h2 := m.pcl
  exact ⟨⟨(hk.block _ (blk_lt m.b1) (fun e => by have e' : w.heap.size = po := e; omega)).trans m.b1, heap_setCell_same _ _ _ _ _ _ m.b2, ⟨by simp, .inl ⟨rfl, rfl⟩⟩, (by intro e; cases e), m.pz, m.pcl, m.keep.trans hk (fun b hb e => by have e' : b = po := e; omega)⟩, c.keep hk (fun b e => by have e' : b = po := e; omega)⟩
end
def lenAt (w : World) (po : Nat) : Nat := match w.cell? ⟨po, 0, none⟩ with | some (.slice _ n _) => n | _ => 0
theorem lenAt_of {w : World} {po n c : Nat} {a : Option Addr} (h : w.cell? ⟨po, 0, none⟩ = some (.slice a n c)) : lenAt w po = n := by unfold lenAt; rw [h]
theorem set_small {l : List ByteArray} {i : Nat} {s : ByteArray} (h : l.length ≤ 9 ∧ ∀ s, s ∈ l → s.size ≤ 12) (hs : s.size ≤ 12) : (l.set i s).length ≤ 9 ∧ ∀ x, x ∈ l.set i s → x.size ≤ 12 :=
  ⟨by rw [List.length_set]; exact h.1, fun x hx => (List.mem_or_eq_of_mem_set hx).elim (h.2 x) (fun e => by rw [e]; exact hs)⟩
def rowsLo6 : List Row := [⟨0, [], 22, [5]⟩, ⟨1, [0], 23, [21]⟩, ⟨2, [], 24, [6]⟩, ⟨3, [], 25, [0]⟩, ⟨4, [], 26, [5]⟩, ⟨5, [4], 27, [25]⟩, ⟨6, [], 28, [6]⟩, ⟨7, [5, 6], 29, [26, 27]⟩, ⟨8, [7], 30, [28]⟩, ⟨9, [3, 8], 31, [24, 29]⟩, ⟨10, [1, 2, 0, 1, 2, 3, 4, 5, 6, 7, 8, 9], 32, [22, 23]⟩, ⟨11, [10, 9, 9, 0, 1, 2, 3, 4, 5, 6, 7, 8, 9], 0, [31, 30]⟩]
def rowsLo10 : List Row := [⟨0, [], 38, [5]⟩, ⟨1, [0], 39, [37]⟩, ⟨2, [1], 40, [38]⟩, ⟨3, [], 41, [0]⟩, ⟨4, [3], 42, [40]⟩, ⟨5, [4], 43, [41]⟩, ⟨6, [2, 5], 44, [39, 42]⟩]
def rowsLo11 : List Row := [⟨0, [], 45, [5]⟩, ⟨1, [0], 46, [44]⟩, ⟨2, [], 47, [5]⟩, ⟨3, [2], 48, [46]⟩, ⟨4, [3], 49, [47]⟩, ⟨5, [4], 50, [48]⟩, ⟨6, [5], 51, [49]⟩, ⟨7, [1, 6], 52, [45, 50]⟩, ⟨8, [0, 1, 2, 3, 4, 5, 6, 7], 53, [5]⟩, ⟨9, [8, 7, 7, 0, 1, 2, 3, 4, 5, 6, 7], 0, [52, 51]⟩]
def rowsLo13 : List Row := [⟨0, [], 56, [5]⟩, ⟨1, [0], 57, [55]⟩, ⟨2, [], 58, [6]⟩, ⟨3, [], 59, [5]⟩, ⟨4, [3], 60, [58]⟩, ⟨5, [], 61, [6]⟩, ⟨6, [4, 5], 62, [59, 60]⟩, ⟨7, [6], 63, [61]⟩, ⟨8, [7], 64, [62]⟩, ⟨9, [1, 2, 0, 1, 2, 3, 4, 5, 6, 7, 8], 65, [56, 57]⟩, ⟨10, [9, 8, 0, 1, 2, 3, 4, 5, 6, 7, 8], 0, [64, 63]⟩]

theorem loose_end {w0 w wr : World} {pc po k k' : Nat} {cv ov : Value} {us : List Nat} {out : List ByteArray} (m : DrM w wr pc po ov out) (c : Cur w0 wr pc cv us k') (hb : out.length ≤ 9 ∧ ∀ s, s ∈ out → s.size ≤ 12) (hk : k' ≤ k + 99) :
    DrawP w0 w pc cv us k 99 0 9 12 (.returned (.agg #[ov])) (wr.setCell ⟨w.heap.size, 0, none⟩ ov) := by
  have hks := keep_set (w := wr) (p := ⟨w.heap.size, 0, none⟩) (v := ov)
  have h2 := m.pcl
  exact ⟨_, out, rfl, own_lowerB (own_keepG m.own hks (fun b hb e => by have := (m.own.lt b hb).1; have e' : b = w.heap.size := e; omega)) (by omega), ⟨Nat.zero_le _, hb.1⟩, hb.2, ⟨k', hk, c.keep hks (fun b e => by have e' : b = w.heap.size := e; omega)⟩, m.keep.trans hks (fun b hb e => by have e' : b = w.heap.size := e; omega)⟩

set_option maxHeartbeats 1000000 in
theorem loose_any {w0 w : World} {pc : Nat} {cv : Value} {us : List Nat} {k : Nat} (h : Cur w0 w pc cv us k) (hk : k ≤ 1000) (most : Int) (hpc : pc < w.heap.size) :
    Calls Tryz.prog 64 #[.pointer (some ⟨pc, 0, none⟩), .int .i64 most] w (DrawP w0 w pc cv us k 99 0 9 12) := by
  obtain ⟨i0, hi0, hz0, hz1, hz2⟩ := info_parts info_stringG
  have hb1 := heap_alloc_new w (.cells #[.slice none 0 0] 31)
  have hk0 : Keep (fun _ => False) w (w.alloc (.cells #[.slice none 0 0] 31)) := ⟨rfl, rfl, rfl, by simp, fun b hb _ => Below.heap_alloc _ _ _ hb⟩
  have hc1 := h.keep hk0 (fun b e => e.elim)
  have hkp : Keep (fun b => b = pc) w (w.alloc (.cells #[.slice none 0 0] 31)) := keep_up hk0 fun _ e => e.elim
  have hpc1 : pc < (w.alloc (.cells #[.slice none 0 0] 31)).heap.size := by rw [World.size_alloc]; omega
  have hz1' : (w.alloc (.cells #[.slice none 0 0] 31)).heap.size = w.heap.size + 1 := World.size_alloc _ _
  have HZ := Lib.hid hz1'
  go_enter Tryz.func64, Tryz.ntmps64
  go_upto_region 1 with fail
  generalize w.alloc (.cells #[.slice none 0 0] 31) = W at *
  have HPC := Lib.hid hpc
  clear h hk0 hpc hz1'
  go_upto_region 2 with (go_at_call 107; refine (drawBoard_any hc1 (by omega) most hpc1).mono ?_; rintro e w1 ⟨v1, s1, rfl, ho1, hl1, hs1, hg1⟩; obtain ⟨a1, p1, rfl, -, -⟩ := own_len ho1)
  rw [HZ.out] at ho1
  obtain ⟨⟨k1, hk1, hc2⟩, e1⟩ := hg1
  have hkA : Keep (fun _ => False) w1 (w1.alloc (.cells #[.slice a1 s1.length p1] 31)) := ⟨rfl, rfl, rfl, by simp, fun b hb _ => Below.heap_alloc _ _ _ hb⟩
  have hb2 : w1.heap[w.heap.size]? = some (.cells #[.slice none 0 0] 31 (0, 0)) := by
    rw [e1.block _ (blk_lt hb1) (fun e => by have := HPC.out; omega)]; exact hb1
  have hM : DrM w (w1.alloc (.cells #[.slice a1 s1.length p1] 31)) pc w1.heap.size (.slice a1 s1.length p1) s1 :=
    ⟨by rw [Below.heap_alloc _ _ _ (blk_lt hb2)]; exact hb2, heap_alloc_new _ _, own_keepG ho1 hkA (fun b hb e => e.elim), (fun e => by have := (ho1.lt _ e).2; omega), blk_lt hb2, HPC.out, (hkp.trans e1 fun _ _ h => h).trans hkA fun _ _ e => e.elim⟩
  have hC := hc2.keep hkA fun b e => e.elim
  have HB : Hid (s1.length ≤ 9 ∧ ∀ s, s ∈ s1 → s.size ≤ 12) := Lib.hid ⟨by omega, fun s hs => by have := hs1 s hs; omega⟩
  have HS1 := Lib.hid hs1
  have HL1 := Lib.hid hl1
  clear hc1 hc2 hb1 hb2 hkp e1 hkA ho1 hpc1 hs1
  go_upto_region 2 with fail
  generalize w1.alloc (.cells #[.slice a1 s1.length p1] 31) = Wa at *
  generalize w1.heap.size = po at *
  have h1 : 0 < s1.length := hl1.1
  obtain ⟨g, p2, e0, -, -, -⟩ := own_at hM.own h1
  simp only [Value.slice.injEq, true_and] at e0
  obtain ⟨rfl, rfl⟩ := e0
  have HM := Lib.hid hM
  clear hM
  go_upto_region 3 with (go_at_call 94; refine (one_any hC (by omega) 12 (by omega)).mono ?_; rintro e w2 ⟨b12, rfl, hg2⟩; have hM2 := HM.out.cur hg2.2; have k0 := cell_of_row _ po 0 _ _ _ hM2.b2; have q1 := cell_of_row _ w.heap.size 0 _ _ _ hM2.b1; have q2 := frozen_of_row _ w.heap.size 0 _ _ hM2.b1; simp only [gE] at k0 q1)
  rotate_left
  · obtain ⟨⟨k2, hk2, hC2⟩, -⟩ := hg2
    have HH := Lib.hid (heap_setCell_same _ w.heap.size 0 _ _ (.slice (some ⟨g, 0, none⟩) s1.length p1) hM2.b1)
    (try simp only [Exit.inBlock, Exit.then])
    refine bodyPost_ret (results_cell_row rfl _ _ w.heap.size 31 #[.slice (some ⟨g, 0, none⟩) s1.length p1] (0, 0) _ rfl HH.out Tryz.underlying31 rfl (by kernel_rfl)) rfl ?_
    exact loose_end hM2 hC2 HB.out (by omega)
  obtain ⟨⟨k2, hk2, hC2⟩, -⟩ := hg2
  have HM2 := Lib.hid hM2
  have hl4 : s1.length ≤ 200 := by omega
  clear q1 q2 hM2
  go_upto_region 4 with (go_at_call 92; refine (pick_any hC2 (by omega) s1.length hl4).mono ?_; rintro e w3 ⟨i, hi, rfl, hg3⟩)
  have hi1 : i < s1.length := by omega
  have hM3 := HM2.out.cur hg3.2
  obtain ⟨⟨k3, hk3, hC3⟩, -⟩ := hg3
  have HI := Lib.hid hi1
  clear k0 hi hC2
  go_upto_region 5 with (go_at_call 92; refine (pick_any hC3 (by omega) 4 (by omega)).mono ?_; rintro e w4 ⟨z, hz, rfl, hg4⟩)
  have hM := hM3.cur hg4.2
  obtain ⟨⟨k4, hk4, hC⟩, -⟩ := hg4
  have hz4 : z = 0 ∨ z = 1 ∨ z = 2 ∨ z = 3 := by omega
  have hco := own_cellf hM.own hi1
  rw [List.getElem?_map, List.getElem?_eq_getElem hi1] at hco
  obtain ⟨hfz, hce⟩ := hco
  obtain ⟨si, esi⟩ : ∃ si, si = s1[i]'(HI.out) := ⟨_, rfl⟩
  rw [← esi] at hce
  have ESI := Lib.hid esi
  have hsi : si.size ≤ 4 := by rw [esi]; exact HS1.out _ (List.getElem_mem _)
  have hii : ((i : Nat) : Int) < ((s1.length : Nat) : Int) := by omega
  have k0 := cell_of_row _ po 0 _ _ _ hM.b2
  simp only [gE] at k0
  simp only [Option.map_some] at hce
  have HC4 := Lib.hid (And.intro hM hC)
  clear hM3 hC3 hz hM hC esi
  rcases hz4 with rfl | rfl | rfl | rfl
  · go_upto_region 6 with fail
    refine wp_region_L (fun V => V.cell? ⟨po, 0, none⟩ = some (.slice (some ⟨g, 0, none⟩) s1.length p1) ∧ V.cell? ⟨g, i, none⟩ = some (.string si)) [10, 11] rowsLo6 (by kernel_rfl) ⟨by kernel_rfl, by kernel_rfl, by kernel_rfl⟩ ⟨k0, hce⟩ (fun hTab hHeld => ?_)
    ((refine tkB hTab (i := 0) hHeld ?_); (try simp only [nP]); (refine tkB hTab (i := 1) hHeld ?_); (try simp only [nP]); (refine tkB hTab (i := 2) hHeld ?_); (try simp only [nP]); (refine tkB hTab (i := 3) hHeld ?_); (try simp only [nP]); (refine tkB hTab (i := 4) hHeld ?_); (try simp only [nP]); (refine tkB hTab (i := 5) hHeld ?_); (try simp only [nP]); (refine tkB hTab (i := 6) hHeld ?_); (try simp only [nP]); (refine tkB hTab (i := 7) hHeld ?_); (try simp only [nP]); (refine tkB hTab (i := 8) hHeld ?_); (try simp only [nP]))
    (refine stB hTab (i := 9) fun K hK => ?_; go_simp)
    refine (spoilt_any (HC4.out.2.drew 1) (by omega) si _ rfl (by omega)).mono ?_
    rintro e w5 ⟨t, ht, rfl, hg5⟩
    have hM5 := HC4.out.1.cur (w3 := w5) ⟨hg5.2.os, hg5.2.tape, hg5.2.output, hg5.2.size, hg5.2.block⟩
    obtain ⟨⟨k5, hk5, hC5⟩, -⟩ := hg5
    have hco5 := own_cellf hM5.own hi1
    rw [List.getElem?_map, List.getElem?_eq_getElem hi1] at hco5
    have k5' := cell_of_row _ po 0 _ _ _ hM5.b2
    simp only [gE] at k5'
    obtain ⟨hfz5, hce5⟩ := hco5
    simp only [Option.map_some] at hce5
    have HC5 := Lib.hid (And.intro hM5 hC5)
    have HT := Lib.hid ht
    rw [← ESI.out] at hce5
    clear hM5 hC5
    refine hK.out _ _ (fun _ => ?_) ?_
    · exact ⟨k5', hce5⟩
    clear hK K
    (try simp only [nP])
    refine tlB hTab [10, 11] [_, _] ?_
    clear hTab hHeld
    go_upto_region 14 with fail
    obtain ⟨hM, hC⟩ := HC5.out.1.set HC5.out.2 rfl HI.out t
    have HB9 := Lib.hid (set_small (i := i) HB.out (show t.size ≤ 12 by have := HT.out; omega))
    generalize w5.setCell ⟨g, i, none⟩ (.string t) = w6 at *
    clear k0 k5' hce hce5 hfz hfz5
    have k0 := cell_of_row _ po 0 _ _ _ hM.b2
    have q1 := cell_of_row _ w.heap.size 0 _ _ _ hM.b1
    have q2 := frozen_of_row _ w.heap.size 0 _ _ hM.b1
    simp only [gE] at k0 q1
    have HM9 := Lib.hid (And.intro hM hC)
    clear hM hC
    go_wp2
    (try simp only [Exit.inBlock, Exit.then])
    refine bodyPost_ret (results_cell_row rfl _ _ w.heap.size 31 _ (0, 0) _ rfl (heap_setCell_same _ w.heap.size 0 _ _ _ HM9.out.1.b1) Tryz.underlying31 rfl (by kernel_rfl)) rfl ?_
    exact loose_end HM9.out.1 HM9.out.2 HB9.out (by omega)
  · have f0 := frozen_of_row _ po 0 _ _ HC4.out.1.b2
    go_upto_region 14 with fail
    obtain ⟨hM, hC⟩ := HC4.out.1.nil HC4.out.2
    have HB9 : Hid (([] : List ByteArray).length ≤ 9 ∧ ∀ s, s ∈ ([] : List ByteArray) → s.size ≤ 12) := Lib.hid (by simp)
    generalize w4.setCell ⟨po, 0, none⟩ (.slice none 0 0) = w5 at *
    clear k0 f0 hce hfz
    have k0 := cell_of_row _ po 0 _ _ _ hM.b2
    have q1 := cell_of_row _ w.heap.size 0 _ _ _ hM.b1
    have q2 := frozen_of_row _ w.heap.size 0 _ _ hM.b1
    simp only [gE] at k0 q1
    have HM9 := Lib.hid (And.intro hM hC)
    clear hM hC
    go_wp2
    (try simp only [Exit.inBlock, Exit.then])
    refine bodyPost_ret (results_cell_row rfl _ _ w.heap.size 31 _ (0, 0) _ rfl (heap_setCell_same _ w.heap.size 0 _ _ _ HM9.out.1.b1) Tryz.underlying31 rfl (by kernel_rfl)) rfl ?_
    exact loose_end HM9.out.1 HM9.out.2 HB9.out (by omega)
  · clear hce hfz k0
    go_upto_region 10 with fail
    go_loopw [] (fun wr => ∃ (ov : Value) (out : List ByteArray) (k' : Nat), DrM w wr pc po ov out ∧ Cur w0 wr pc cv us k' ∧ 1 ≤ out.length ∧ Hid (out.length ≤ 9 ∧ ∀ s, s ∈ out → s.size ≤ 12) ∧ k' ≤ k4 + out.length) (fun wr => 9 - lenAt wr po)
    case atStart => exact ⟨_, s1, k4, HC4.out.1, HC4.out.2, by omega, HB, by omega⟩
    case round =>
      obtain ⟨ov, out, k', hM, hC, ho1, HB9, hkk⟩ := hrel
      obtain ⟨ao, co, rfl, hco1, hco2⟩ := own_len hM.own
      have k0 := cell_of_row wr po 0 _ _ _ hM.b2
      simp only [gE] at k0
      have HLN := Lib.hid (lenAt_of k0)
      have ho9 : out.length ≤ 9 := HB9.out.1
      have HM := Lib.hid (And.intro hM hC)
      clear hM hC
      go_upto_region 10 with fail
      refine wp_region_L (fun V => V.cell? ⟨po, 0, none⟩ = some (.slice ao out.length co)) [6] rowsLo10 (by kernel_rfl) ⟨by kernel_rfl, by kernel_rfl, by kernel_rfl⟩ k0 (fun hTab hHeld => ?_)
      ((refine tkB hTab (i := 0) hHeld ?_); (try simp only [nP]); (refine tkB hTab (i := 1) hHeld ?_); (try simp only [nP]); (refine tkB hTab (i := 2) hHeld ?_); (try simp only [nP]); (refine tkB hTab (i := 3) hHeld ?_); (try simp only [nP]))
      (refine stB hTab (i := 4) fun K hK => ?_; go_simp)
      refine (pick_any (HM.out.2.drew 1) (by omega) 2 (by omega)).mono ?_
      rintro e w5 ⟨y, hy, rfl, hg5⟩
      have hM5 := HM.out.1.cur (w3 := w5) ⟨hg5.2.os, hg5.2.tape, hg5.2.output, hg5.2.size, hg5.2.block⟩
      obtain ⟨⟨k5, hk5, hC5⟩, -⟩ := hg5
      have k5' := cell_of_row w5 po 0 _ _ _ hM5.b2
      simp only [gE] at k5'
      have hy2 : y < 2 := by omega
      have HM5 := Lib.hid (And.intro hM5 hC5)
      have ho5 := hM5.own
      have hz5 := blk_lt hM5.b2
      have hpz := hM5.pz
      clear hM5 hC5 hy
      have hHeld := k5'
      refine hK.out _ _ (fun _ => hHeld) ?_
      clear hK K
      (try simp only [nP])
      ((refine tkB hTab (i := 5) hHeld ?_); (try simp only [nP]))
      refine tlB hTab [6] [_] ?_
      clear hTab hHeld
      by_cases hcc : out.length < 8 + y
      · have hci : ((out.length : Nat) : Int) < 8 + ((y : Nat) : Int) := by omega
        obtain ⟨g6, p6, e6, -, -, hc6⟩ := own_at ho5 (show 0 < out.length by omega)
        simp only [Value.slice.injEq, true_and] at e6
        obtain ⟨rfl, rfl⟩ := e6
        have hc0 := hc6 0 (by omega)
        rw [List.getElem?_map, List.getElem?_eq_getElem (by omega)] at hc0
        simp only [Option.map_some] at hc0
        have HS0 := Lib.hid (HB9.out.2 _ (List.getElem_mem (show 0 < out.length by omega)))
        obtain ⟨s0, es0⟩ : ∃ s0, s0 = out[0]'(by omega) := ⟨_, rfl⟩
        rw [← es0] at hc0
        have HS1 : Hid (s0.size ≤ 12) := Lib.hid (by rw [es0]; exact HS0.out)
        have h0i : 0 < out.length := by omega
        clear hc6 es0 HS0 k0
        go_upto_region 11 with fail
        refine wp_region_L (fun V => V.cell? ⟨po, 0, none⟩ = some (.slice (some ⟨g6, 0, none⟩) out.length co) ∧ V.cell? ⟨g6, 0, none⟩ = some (.string s0)) [7, 8, 9] rowsLo11 (by kernel_rfl) ⟨by kernel_rfl, by kernel_rfl, by kernel_rfl⟩ ⟨k5', hc0⟩ (fun hTab hHeld => ?_)
        ((refine tkB hTab (i := 0) hHeld ?_); (try simp only [nP]); (refine tkB hTab (i := 1) hHeld ?_); (try simp only [nP]); (refine tkB hTab (i := 2) hHeld ?_); (try simp only [nP]); (refine tkB hTab (i := 3) hHeld ?_); (try simp only [nP]); (refine tkB hTab (i := 4) hHeld ?_); (try simp only [nP]); (refine tkB hTab (i := 5) hHeld ?_); (try simp only [nP]))
        (refine stB hTab (i := 6) fun K hK => ?_; go_simp)
        (refine hK.out _ _ (fun _ => ?_) ?_)
        · exact ⟨alloc_cell k5' _, alloc_cell hc0 _⟩
        clear hK K
        (try simp only [nP])
        refine tlB hTab [7, 8, 9] [_, _, _] ?_
        clear hTab hHeld
        go_wp2_with (at_builtin; refine app_list rfl (.tmp 45) (.tmp 50) 22 rfl (w.heap.size + 1) 9 i0 (.string ⟨#[]⟩) 1 16 Tryz.underlying22 hi0 hz0 hz1 hz2 rfl (by decide) (.slice (some ⟨g6, 0, none⟩) out.length co) out.length (out.map Value.string) rfl (own_drewN (ho5.alloc _) 1) _ 1 _ [.string s0] rfl rfl (.inr ⟨_, rfl, one_src (new_cell _ _ _)⟩) (by intro u hu; simp at hu; subst hu; rfl) (by unfold maxLen; omega) (by omega) (by show _ ≤ (World.alloc _ _).heap.size; rw [World.size_alloc]; omega) ?_; intro v7 w7 ho7 hg7 hl7; obtain ⟨a7, c7, rfl, -⟩ := own_len ho7; obtain ⟨hM7, hC7, g7, f7⟩ := HM5.out.1.put HM5.out.2 ho7 ((grown_drewN _ 1 _).trans hg7) hl7; have HM7 := Lib.hid (And.intro hM7 hC7); clear hM7 hC7)
        go_roundw
        case rel => exact ⟨_, _, _, _, _, _, _, _, _, _, _, _, _, _, _, _, ⟨_, out ++ [s0], k5, HM7.out.1, HM7.out.2, by simp, Lib.hid ⟨by simp; omega, fun x hx => by
          rcases List.mem_append.1 hx with e | e
          · exact HB9.out.2 x e
          · obtain rfl : x = s0 := by simpa using e
            exact HS1.out⟩, by simp; omega⟩, rfl⟩
        case measure =>
          have e7 := cell_of_row _ po 0 _ _ _ HM7.out.1.b2
          simp only [gE] at e7
          rw [lenAt_of e7, HLN.out]; omega
      · have hci : ¬ (((out.length : Nat) : Int) < 8 + ((y : Nat) : Int)) := by omega
        clear k0 k5' ho5
        go_upto_region 14 with fail
        obtain ⟨hM, hC⟩ := HM5.out
        have k0 := cell_of_row _ po 0 _ _ _ hM.b2
        have q1 := cell_of_row _ w.heap.size 0 _ _ _ hM.b1
        have q2 := frozen_of_row _ w.heap.size 0 _ _ hM.b1
        simp only [gE] at k0 q1
        have HM9 := Lib.hid (And.intro hM hC)
        clear hM hC
        go_wp2
        (try simp only [Exit.inBlock, Exit.then])
        refine bodyPost_ret (results_cell_row rfl _ _ w.heap.size 31 _ (0, 0) _ rfl (heap_setCell_same _ w.heap.size 0 _ _ _ HM9.out.1.b1) Tryz.underlying31 rfl (by kernel_rfl)) rfl ?_
        exact loose_end HM9.out.1 HM9.out.2 HB9.out (by omega)
  · have hcat : ¬ (9223372036854775807 < si.size + 8) := by omega
    go_upto_region 13 with fail
    refine wp_region_L (fun V => V.cell? ⟨po, 0, none⟩ = some (.slice (some ⟨g, 0, none⟩) s1.length p1) ∧ V.cell? ⟨g, i, none⟩ = some (.string si)) [9, 10] rowsLo13 (by kernel_rfl) ⟨by kernel_rfl, by kernel_rfl, by kernel_rfl⟩ ⟨k0, hce⟩ (fun hTab hHeld => ?_)
    ((refine tkB hTab (i := 0) hHeld ?_); (try simp only [nP]); (refine tkB hTab (i := 1) hHeld ?_); (try simp only [nP]); (refine tkB hTab (i := 2) hHeld ?_); (try simp only [nP]); (refine tkB hTab (i := 3) hHeld ?_); (try simp only [nP]); (refine tkB hTab (i := 4) hHeld ?_); (try simp only [nP]); (refine tkB hTab (i := 5) hHeld ?_); (try simp only [nP]); (refine tkB hTab (i := 6) hHeld ?_); (try simp only [nP]); (refine tkB hTab (i := 7) hHeld ?_); (try simp only [nP]); (refine tkB hTab (i := 8) hHeld ?_); (try simp only [nP]))
    refine tlB hTab [9, 10] [_, _] ?_
    clear hTab hHeld
    go_upto_region 14 with fail
    obtain ⟨hM, hC⟩ := HC4.out.1.set HC4.out.2 rfl HI.out (si ++ ⟨#[46, 46, 46, 46, 46, 46, 46, 46]⟩)
    have HB9 := Lib.hid (set_small (i := i) HB.out (show (si ++ ⟨#[46, 46, 46, 46, 46, 46, 46, 46]⟩).size ≤ 12 by rw [ByteArray.size_append]; have : (⟨#[46, 46, 46, 46, 46, 46, 46, 46]⟩ : ByteArray).size = 8 := rfl; omega))
    have hM := hM.cur (w3 := (w4.setCell ⟨g, i, none⟩ (.string (si ++ ⟨#[46, 46, 46, 46, 46, 46, 46, 46]⟩))).drew) ⟨rfl, rfl, rfl, Nat.le_refl _, fun _ _ _ => rfl⟩
    have hC := hC.drew 1
    have e9 : (w4.setCell ⟨g, i, none⟩ (.string (si ++ ⟨#[46, 46, 46, 46, 46, 46, 46, 46]⟩))).drewN 1 = (w4.setCell ⟨g, i, none⟩ (.string (si ++ ⟨#[46, 46, 46, 46, 46, 46, 46, 46]⟩))).drew := rfl
    rw [e9] at hC
    generalize (w4.setCell ⟨g, i, none⟩ (.string (si ++ ⟨#[46, 46, 46, 46, 46, 46, 46, 46]⟩))).drew = w6 at *
    clear k0 hce hfz e9
    have k0 := cell_of_row _ po 0 _ _ _ hM.b2
    have q1 := cell_of_row _ w.heap.size 0 _ _ _ hM.b1
    have q2 := frozen_of_row _ w.heap.size 0 _ _ hM.b1
    simp only [gE] at k0 q1
    have HM9 := Lib.hid (And.intro hM hC)
    clear hM hC
    go_wp2
    (try simp only [Exit.inBlock, Exit.then])
    refine bodyPost_ret (results_cell_row rfl _ _ w.heap.size 31 _ (0, 0) _ rfl (heap_setCell_same _ w.heap.size 0 _ _ _ HM9.out.1.b1) Tryz.underlying31 rfl (by kernel_rfl)) rfl ?_
    exact loose_end HM9.out.1 HM9.out.2 HB9.out (by omega)

theorem drawDomino_any (v : Value) (us : List Nat) (w : World) (hv : Vals w v (cds us)) (hs : ∀ u, u ∈ us → u < 256) :
    Calls Tryz.prog 26 #[v] w fun e w' => ∃ (v' : Value) (ss : List ByteArray), e = .returned (.agg #[v']) ∧ Strs w' v' ss ∧ ss.length ≤ 9 ∧ (∀ s, s ∈ ss → s.size ≤ 12) ∧ Ext w w' := by
  obtain ⟨a, cap, rfl, -, -, -⟩ := id hv
  have hb1 : ((w.alloc (.cells #[.slice none 0 0] 31)).alloc (.cells #[.slice a (cds us).length cap, .int .i64 0, .int .u64 0] 77)).heap[w.heap.size]? = some (.cells #[.slice none 0 0] 31 (0, 0)) := by
    rw [Below.heap_alloc _ _ _ (by simp)]; exact heap_alloc_new _ _
  have hb2 : ((w.alloc (.cells #[.slice none 0 0] 31)).alloc (.cells #[.slice a (cds us).length cap, .int .i64 0, .int .u64 0] 77)).heap[w.heap.size + 1]? = some (.cells #[.slice a (cds us).length cap, .int .i64 0, .int .u64 0] 77 (0, 0)) := by
    have h := heap_alloc_new (w.alloc (.cells #[.slice none 0 0] 31)) (.cells #[.slice a (cds us).length cap, .int .i64 0, .int .u64 0] 77); rw [World.size_alloc] at h; exact h
  have hx2 : Ext w ((w.alloc (.cells #[.slice none 0 0] 31)).alloc (.cells #[.slice a (cds us).length cap, .int .i64 0, .int .u64 0] 77)) := by go_grown
  go_enter Tryz.func26, Tryz.ntmps26
  go_upto_region 2 with fail
  generalize ((w.alloc (.cells #[.slice none 0 0] 31)).alloc (.cells #[.slice a (cds us).length cap, .int .i64 0, .int .u64 0] 77)) = W at *
  have hc0 : Cur w W (w.heap.size + 1) (.slice a (cds us).length cap) us 0 := ⟨hv, hs, hx2, by omega, 0, hb2⟩
  have hkA : Keep (fun _ => False) W (W.alloc (.cells #[.int .i64 4, .int .i64 6, .int .i64 7, .int .i64 8, .int .i64 9, .int .i64 10] 3)) := ⟨rfl, rfl, rfl, by simp, fun b hb _ => Below.heap_alloc _ _ _ hb⟩
  have hown : (W.alloc (.cells #[.int .i64 4, .int .i64 6, .int .i64 7, .int .i64 8, .int .i64 9, .int .i64 10] 3)).ownsRow 0 3 1 (.slice (some ⟨W.heap.size, 0, none⟩) 6 6) 6 (([4, 6, 7, 8, 9, 10] : List Int).map (Value.int .i64)) :=
    ⟨by simp, .inr ⟨W.heap.size, 6, #[.int .i64 4, .int .i64 6, .int .i64 7, .int .i64 8, .int .i64 9, .int .i64 10], rfl, Nat.zero_le _, heap_alloc_new W _, Nat.le_refl _, by decide, rfl, by simp⟩⟩
  have hin := Ints.of_own hown (by decide)
  have hpc : w.heap.size + 1 < W.heap.size := blk_lt hb2
  have hne : ∀ b, Value.ownBlock (.slice (some ⟨W.heap.size, 0, none⟩) 6 6) = some b → b ≠ w.heap.size + 1 := fun b hb e => by
    have hb' : W.heap.size = b := by simpa [Value.ownBlock] using hb
    omega
  have hc1 := hc0.keep hkA (fun b e => e.elim)
  have hb3 := (hkA.block _ (blk_lt hb1) (fun e => e)).trans hb1
  have hpc1 : w.heap.size + 1 < (W.alloc (.cells #[.int .i64 4, .int .i64 6, .int .i64 7, .int .i64 8, .int .i64 9, .int .i64 10] 3)).heap.size := by rw [World.size_alloc]; omega
  have H1 := Lib.hid (And.intro hc1 (And.intro hb3 hpc1))
  have H2 := Lib.hid (And.intro hin hne)
  clear hkA hown hin hne hc1 hb3 hpc1 hc0 hb1 hb2 hx2 hpc
  go_wp2_with (first
    | (go_at_call 52; refine (among_any H1.out.1 (by omega) _ [4, 6, 7, 8, 9, 10] H2.out.1 ⟨by decide, by decide⟩ H2.out.2).mono ?_; rintro e w3 ⟨z, hz, rfl, hg3⟩; obtain ⟨⟨k3, hk3, hc3⟩, e3⟩ := hg3; have hz3 := e3.size; have hp3 : w.heap.size + 1 < w3.heap.size := Nat.lt_of_lt_of_le H1.out.2.2 hz3; have hb4 := (e3.block _ (blk_lt H1.out.2.1) (by omega)).trans H1.out.2.1)
    | (go_at_call 64; refine (loose_any hc3 (by omega) z hp3).mono ?_; rintro e w4 ⟨v4, s4, rfl, ho4, hl4, hs4, hg4⟩; obtain ⟨a4, c4, rfl, -, -⟩ := own_len ho4; have hb5 := (hg4.2.block _ (blk_lt hb4) (by omega)).trans hb4; have q1 := cell_of_row _ w.heap.size 0 _ _ _ hb5; have q2 := frozen_of_row _ w.heap.size 0 _ _ hb5))
  (try simp only [Exit.inBlock, Exit.then])
  refine bodyPost_ret (results_cell_row rfl _ _ w.heap.size 31 _ (0, 0) _ rfl (heap_setCell_same _ w.heap.size 0 _ _ _ hb5) Tryz.underlying31 rfl (by kernel_rfl)) rfl ?_
  obtain ⟨⟨k5, hk5, hc5⟩, e5⟩ := hg4
  refine ⟨_, s4, rfl, Strs.of_own (own_keepG ho4 (keep_set (p := ⟨w.heap.size, 0, none⟩)) (fun b hb e => by have := (ho4.lt b hb).1; have e' : b = w.heap.size := e; omega)) (by omega), hl4.2, hs4, hc5.ext.setCell (p := ⟨w.heap.size, 0, none⟩) (Nat.le_refl _) _⟩

end Go.Proofs.YteknjeohbcgpdaaGreatDoor
