/-
  Contract of the reference's l3Make.
  Contract of the reference's l22Signs.
  Contract of the reference's GoodTree.
-/
import Derived.Test.YtjkdanmpihildaaGreatDoorQ21
namespace Go.Proofs.YtjkdanmpihildaaGreatDoor
open Go.RowKit
open Cgt (Dag Nd vl Same)

def MakePost (Ls Rs : List Dag) (w : World) (e : Ending) (w' : World) : Prop :=
  ∃ vN F', e = .returned (.agg #[vN]) ∧ Nodes w' w.heap.size vN F' ∧ Cgt.IsForm F' ∧ Same (Cgt.topOf F') (.mk (Ls.map Cgt.topOf) (Rs.map Cgt.topOf)) ∧ F'.length ≤ sizes Ls + sizes Rs + 1 ∧ Ext w w'

def Took (D : Dag) (Fs : List Dag) (ls : List Nat) : Prop := ∀ j (h : j < ls.length), ls[j] < D.length ∧ Same (vl D ls[j]) (Cgt.topOf (Fs.getD j []))
theorem Took.more {D D' : Dag} {Fs : List Dag} {ls : List Nat} (h : Took D Fs ls) (g : Cgt.WF D) (g' : Cgt.WF D') (hm : ∃ E, D' = D ++ E) : Took D' Fs ls := by
  obtain ⟨E, rfl⟩ := hm
  intro j hj
  obtain ⟨a, b⟩ := h j hj
  exact ⟨by simp; omega, by rw [Cgt.vl_append g g' _ a]; exact b⟩
theorem Took.snoc {D : Dag} {Fs : List Dag} {ls : List Nat} {i : Nat} (h : Took D Fs ls) (hi : i < D.length) (hs : Same (vl D i) (Cgt.topOf (Fs.getD ls.length []))) : Took D Fs (ls ++ [i]) :=
  snoc_all (P := fun a j => a < D.length ∧ Same (vl D a) (Cgt.topOf (Fs.getD j []))) h ⟨hi, hs⟩

set_option maxHeartbeats 4000000 in
set_option maxRecDepth 100000 in
theorem l3Make_any (va vb : Value) (Ls Rs : List Dag) (w : World) (ha : Forms w va Ls) (hb : Forms w vb Rs) (gL : ∀ F, F ∈ Ls → Cgt.Good F ∧ 0 < F.length) (gR : ∀ F, F ∈ Rs → Cgt.Good F ∧ 0 < F.length) (hlL : Ls.length ≤ 1000000) (hlR : Rs.length ≤ 1000000) (hroom : sizes Ls + sizes Rs + 1 ≤ 1000000) :
    Calls Tryz.prog 34 #[va, vb] w (MakePost Ls Rs w) := by
  obtain ⟨i0, hi0, hz0, hz1, hz2⟩ := info_parts info_int
  obtain ⟨aA, capA, rfl, -⟩ := id ha
  obtain ⟨aB, capB, rfl, -⟩ := id hb
  go_enter Tryz.func34, Tryz.ntmps34
  go_wp2
  obtain ⟨we, hwe⟩ : ∃ we, we = (w.alloc (.cells #[.slice none 0 0] 28)).alloc (.cells #[.slice none 0 0, .slice none 0 0] 84) := ⟨_, rfl⟩
  have hze : we.heap.size = w.heap.size + 2 := by rw [hwe]; simp
  have hb0 : we.heap[w.heap.size]? = some (.cells #[.slice none 0 0] 28 (0, 0)) := by
    rw [hwe, Below.heap_alloc _ _ _ (by simp)]; exact heap_alloc_new _ _
  have hb1 : we.heap[w.heap.size + 1]? = some (.cells #[.slice none 0 0, .slice none 0 0] 84 (0, 0)) := by
    rw [hwe]; have h := heap_alloc_new (w.alloc (.cells #[.slice none 0 0] 28)) (.cells #[.slice none 0 0, .slice none 0 0] 84); rw [World.size_alloc] at h; exact h
  have hxe : Ext w we := by rw [hwe]; go_grown
  have hBe := book_empty hb1
  have hB : BookOn w we (w.heap.size + 1) (.slice none 0 0) (.slice none 0 0) [] := ⟨hBe, fun b hb => by
    rcases hb with h | h | h
    · omega
    · simp [Value.ownBlock] at h
    · simp [Value.ownBlock] at h, hxe⟩
  have hsd : ∀ b, b < w.heap.size + 1 → Beside we (w.heap.size + 1) (.slice none 0 0) (.slice none 0 0) [] b := fun b hb => ⟨fun k => by
    rcases k with h | h | h
    · omega
    · simp [Value.ownBlock] at h
    · simp [Value.ownBlock] at h, fun ⟨i, g, cap, v, hi, _⟩ => by simp at hi⟩
  rw [← hwe]
  have hwe1 : w.heap.size + 1 + 1 = we.heap.size := by omega
  rw [hwe1]
  have hxa : Ext we ((we.alloc (.cells #[] 3)).alloc (.cells #[] 3)) := by go_grown
  have hzl : w.heap.size + 1 < we.heap.size := by omega
  clear hwe hze hwe1
  go_loopw [6, 8] (fun lv ii wr => ∃ k vn vb D ls, k ≤ Ls.length ∧ ii = .int .i64 ((k : Nat) : Int) ∧ ls.length = k ∧ wr.ownsRow we.heap.size 3 1 lv k ((toZ ls).map (Value.int .i64)) ∧ BookAt wr (w.heap.size + 1) vn vb D ∧ BookGo we wr (w.heap.size + 1) (.slice none 0 0) (.slice none 0 0) [] vn vb D ∧ D.length ≤ sizes (Ls.take k) ∧
    (∀ b, lv.ownBlock = some b → we.heap.size ≤ b ∧ Beside wr (w.heap.size + 1) vn vb D b) ∧ wr.heap[w.heap.size]? = some (.cells #[.slice none 0 0] 28 (0, 0)) ∧ Beside wr (w.heap.size + 1) vn vb D w.heap.size ∧
    wr.ownsRow we.heap.size 3 1 (.slice (some ⟨we.heap.size + 1, 0, none⟩) 0 0) 0 [] ∧ Beside wr (w.heap.size + 1) vn vb D (we.heap.size + 1) ∧ lv.ownBlock ≠ some (we.heap.size + 1) ∧ Hid (Took D Ls ls)) (fun _ ii _ => Ls.length - (intOf ii).toNat)
  case atStart =>
    refine ⟨0, _, _, [], [], Nat.zero_le _, rfl, rfl, (own_empty we _ (Nat.le_refl _) _).alloc _, hBe.ext hxa, BookGo.ext hBe hxa, Nat.zero_le _, fun b hb => ?_, ?_, (hsd _ (by omega)).goE hBe hxa, own_empty2 we _ _ (Nat.le_refl _) _, (Beside.new hBe (by omega)).goE hBe hxa, by simp [Value.ownBlock], fun j h => absurd h (by simp)⟩
    · simp [Value.ownBlock] at hb; subst hb
      exact ⟨Nat.le_refl _, (Beside.new hBe (b := we.heap.size) (Nat.le_refl _)).goE hBe hxa⟩
    · rw [hxa.block _ (by omega)]; exact hb0
  case round =>
    obtain ⟨k, vn1, vb1, D1, ls, hk, rfl, hal, hown, hB1, hG1, hD1, hbes, hres, hrb, hr0, hrr, hne, HA⟩ := hrel
    have hBO := hB.go hB1 hG1
    by_cases hlt : k < Ls.length
    · have h1 : ((k : Nat) : Int) < (Ls.length : Int) := by omega
      obtain ⟨bA, cA, aN, cN, he, hcA, hcell, hN⟩ := ha.at hlt
      simp only [Value.slice.injEq] at he
      obtain ⟨rfl, -, rfl⟩ := he
      have cc := (hBO.ext.cell (lt_of_cell hcell)).trans hcell
      obtain ⟨g1, g2⟩ := gL _ (List.getElem_mem hlt)
      obtain ⟨aL, cL, rfl, hcL, _⟩ := own_len hown
      have hrm : D1.length + (Ls[k]).length ≤ 1000000 := by have := sizes_take hlt; have := sizes_le Ls (k + 1); omega
      have HT := Lib.hid (sizes_take hlt)
      go_wp2_with (first
        | (go_at_call 50; refine (root_any _ vn1 vb1 D1 _ Ls[k] w _ hBO hN g1 g2 hrm).mono ?_; rintro e w3 ⟨vn2, vb2, D2, i2, rfl, hB3, hgo3, hD3, hi3, hS3⟩
           have hown3 := own_keepG hown hgo3.keep (fun b hb => (hbes b hb).2.ins)
           have hG3 := hG1.trans hgo3
           have hzw := hG3.keep.size
           have hx4 : Ext w3 (w3.alloc (.cells #[.int .i64 ((i2 : Nat) : Int)] 3)) := by go_grown)
        | (at_builtin; refine app_list rfl (.tmp 20) (.tmp 27) 22 rfl we.heap.size 3 i0 (.int .i64 0) 1 8 Tryz.underlying22 hi0 hz0 hz1 hz2 rfl (by decide) (.slice aL k cL) k ((toZ ls).map (Value.int .i64)) rfl (own_keep hown3 hx4) _ 1 _ [.int .i64 ((i2 : Nat) : Int)] rfl rfl (.inr ⟨_, rfl, one_src (new_cell _ _ _)⟩) one_cell (by unfold maxLen; omega) (by omega) (by rw [World.size_alloc]; omega) ?_; intro v5 w5 ho5 hg5 hl5))
      have hbes3 : ∀ b, Value.ownBlock (.slice aL k cL) = some b → we.heap.size ≤ b ∧ Beside w3 (w.heap.size + 1) vn2 vb2 D2 b := fun b hb => ⟨(hbes b hb).1, (hbes b hb).2.go (hown.lt b hb).2 hgo3⟩
      obtain ⟨hB5, hG5, hbes5, hside⟩ := Beside.row hG3 hB3 hbes3 hx4 hg5 hl5
      have hres3 : w3.heap[w.heap.size]? = some (.cells #[.slice none 0 0] 28 (0, 0)) := by rw [hgo3.keep.block _ (blk_lt hres) hrb.ins]; exact hres
      have hres5 : w5.heap[w.heap.size]? = some (.cells #[.slice none 0 0] 28 (0, 0)) := by
        rw [hg5.block _ (by rw [World.size_alloc]; have := blk_lt hres3; omega) (fun e => by have := (hbes3 _ e.symm).1; omega), hx4.block _ (blk_lt hres3)]; exact hres3
      have hrb5 := hside _ (hrb.go (blk_lt hres) hgo3)
      have hrlt := (hr0.lt (we.heap.size + 1) rfl).2
      have hr3 := own_keepG hr0 hgo3.keep (fun b hb => by simp [Value.ownBlock] at hb; subst hb; exact hrr.ins)
      have hrlt3 := (hr3.lt (we.heap.size + 1) rfl).2
      have hk5 : Keep (fun b => Value.ownBlock (.slice aL k cL) = some b) (w3.alloc (.cells #[.int .i64 ((i2 : Nat) : Int)] 3)) w5 := ⟨hg5.os, hg5.tape, hg5.output, hg5.size, fun k hk hn => hg5.block k hk (fun e => hn e.symm)⟩
      have hr5 := own_keepG (own_keep hr3 hx4) hk5 (fun b hb e => by simp [Value.ownBlock] at hb; subst hb; exact hne e)
      have hrr5 := hside _ (hrr.go hrlt hgo3)
      have hne5 : v5.ownBlock ≠ some (we.heap.size + 1) := by
        rcases hl5 with h | ⟨g, h, h2⟩
        · rw [h]; exact hne
        · rw [h]; intro e; injection e with e; rw [World.size_alloc] at h2; omega
      have htk := (HA.out.more hB1.good.wf hB3.good.wf hgo3.more).snoc hi3 (by rw [hal, List.getD_eq_getElem?_getD, List.getElem?_eq_getElem hlt]; exact hS3)
      go_roundw
      case rel => exact ⟨k + 1, vn2, vb2, D2, ls ++ [i2], by omega, by go_num, by rw [List.length_append, hal]; rfl, by simpa [toZ] using ho5, hB5, hG5, by have := HT.out; omega, hbes5, hres5, hrb5, hr5, hrr5, hne5, htk⟩
      case measure => simp [intOf]; omega
    · have hke : k = Ls.length := by omega
      have h1 : ¬ (((k : Nat) : Int) < (Ls.length : Int)) := by omega
      obtain ⟨aL, cL, rfl, hcL, hcL2⟩ := own_len hown
      rw [hke, List.take_of_length_le (Nat.le_refl _)] at hD1
      have hsb : ∀ b, Value.ownBlock (.slice aL k cL) = some b → Value.ownBlock (.slice (some ⟨we.heap.size + 1, 0, none⟩) 0 0) ≠ some b := fun b hb e => hne (by rw [hb, ← e]; rfl)
      have hbesr : ∀ b, Value.ownBlock (.slice (some ⟨we.heap.size + 1, 0, none⟩) 0 0) = some b → we.heap.size ≤ b ∧ Beside wr (w.heap.size + 1) vn1 vb1 D1 b := fun b hb => by
        simp [Value.ownBlock] at hb; subst hb; exact ⟨by omega, hrr⟩
      have HKE := Lib.hid hke
      clear hke hBO
      go_wp2_with fail
      obtain ⟨wl, rfl⟩ : ∃ wl : World, wl = wr := ⟨_, rfl⟩
      go_loopw [7, 9] (fun rv ii wr => ∃ q vn vb D rs, q ≤ Rs.length ∧ ii = .int .i64 ((q : Nat) : Int) ∧ rs.length = q ∧ wr.ownsRow we.heap.size 3 1 rv q ((toZ rs).map (Value.int .i64)) ∧ BookAt wr (w.heap.size + 1) vn vb D ∧ BookGo we wr (w.heap.size + 1) (.slice none 0 0) (.slice none 0 0) [] vn vb D ∧ D.length ≤ sizes Ls + sizes (Rs.take q) ∧
        (∀ b, rv.ownBlock = some b → we.heap.size ≤ b ∧ Beside wr (w.heap.size + 1) vn vb D b) ∧ wr.heap[w.heap.size]? = some (.cells #[.slice none 0 0] 28 (0, 0)) ∧ Beside wr (w.heap.size + 1) vn vb D w.heap.size ∧
        wr.ownsRow we.heap.size 3 1 (.slice aL k cL) k ((toZ ls).map (Value.int .i64)) ∧ (∀ b, Value.ownBlock (.slice aL k cL) = some b → Beside wr (w.heap.size + 1) vn vb D b) ∧ (∀ b, Value.ownBlock (.slice aL k cL) = some b → rv.ownBlock ≠ some b) ∧ Hid (Took D Ls ls) ∧ Hid (Took D Rs rs)) (fun _ ii _ => Rs.length - (intOf ii).toNat)
      case atStart => exact ⟨0, _, _, D1, [], Nat.zero_le _, rfl, rfl, hr0, hB1, hG1, by simpa [sizes] using hD1, hbesr, hres, hrb, hown, fun b hb => (hbes b hb).2, hsb, HA, fun j h => absurd h (by simp)⟩
      case round =>
        clear hB1 hG1 hD1 hbes hres hrb hr0 hrr hne HA hown hsb hbesr
        obtain ⟨q, vn1, vb1, D1, rs, hq, rfl, har, hownr, hB1, hG1, hD1, hbesr, hres, hrb, hownl, hbesl, hsb, HA, HAr⟩ := hrel
        have hBO := hB.go hB1 hG1
        by_cases hlt : q < Rs.length
        · have h2 : ((q : Nat) : Int) < (Rs.length : Int) := by omega
          obtain ⟨bA, cA, aN, cN, he, hcA, hcell, hN⟩ := hb.at hlt
          simp only [Value.slice.injEq] at he
          obtain ⟨rfl, -, rfl⟩ := he
          have cc := (hBO.ext.cell (lt_of_cell hcell)).trans hcell
          obtain ⟨g1, g2⟩ := gR _ (List.getElem_mem hlt)
          obtain ⟨aR, cR, rfl, hcR, _⟩ := own_len hownr
          have hrm : D1.length + (Rs[q]).length ≤ 1000000 := by have := sizes_take hlt; have := sizes_le Rs (q + 1); omega
          have HT := Lib.hid (sizes_take hlt)
          go_wp2_with (first
            | (go_at_call 50; refine (root_any _ vn1 vb1 D1 _ Rs[q] w _ hBO hN g1 g2 hrm).mono ?_; rintro e w3 ⟨vn2, vb2, D2, i2, rfl, hB3, hgo3, hD3, hi3, hS3⟩
               have hown3 := own_keepG hownr hgo3.keep (fun b hb => (hbesr b hb).2.ins)
               have hG3 := hG1.trans hgo3
               have hzw := hG3.keep.size
               have hx4 : Ext w3 (w3.alloc (.cells #[.int .i64 ((i2 : Nat) : Int)] 3)) := by go_grown)
            | (at_builtin; refine app_list rfl (.tmp 35) (.tmp 42) 22 rfl we.heap.size 3 i0 (.int .i64 0) 1 8 Tryz.underlying22 hi0 hz0 hz1 hz2 rfl (by decide) (.slice aR q cR) q ((toZ rs).map (Value.int .i64)) rfl (own_keep hown3 hx4) _ 1 _ [.int .i64 ((i2 : Nat) : Int)] rfl rfl (.inr ⟨_, rfl, one_src (new_cell _ _ _)⟩) one_cell (by unfold maxLen; omega) (by omega) (by rw [World.size_alloc]; omega) ?_; intro v5 w5 ho5 hg5 hl5))
          have hbes3 : ∀ b, Value.ownBlock (.slice aR q cR) = some b → we.heap.size ≤ b ∧ Beside w3 (w.heap.size + 1) vn2 vb2 D2 b := fun b hb => ⟨(hbesr b hb).1, (hbesr b hb).2.go (hownr.lt b hb).2 hgo3⟩
          obtain ⟨hB5, hG5, hbes5, hside⟩ := Beside.row hG3 hB3 hbes3 hx4 hg5 hl5
          have hres3 : w3.heap[w.heap.size]? = some (.cells #[.slice none 0 0] 28 (0, 0)) := by rw [hgo3.keep.block _ (blk_lt hres) hrb.ins]; exact hres
          have hres5 : w5.heap[w.heap.size]? = some (.cells #[.slice none 0 0] 28 (0, 0)) := by
            rw [hg5.block _ (by rw [World.size_alloc]; have := blk_lt hres3; omega) (fun e => by have := (hbes3 _ e.symm).1; omega), hx4.block _ (blk_lt hres3)]; exact hres3
          have hrb5 := hside _ (hrb.go (blk_lt hres) hgo3)
          have hl3 := own_keepG hownl hgo3.keep (fun b hb => (hbesl b hb).ins)
          have hk5 : Keep (fun b => Value.ownBlock (.slice aR q cR) = some b) (w3.alloc (.cells #[.int .i64 ((i2 : Nat) : Int)] 3)) w5 := ⟨hg5.os, hg5.tape, hg5.output, hg5.size, fun k hk hn => hg5.block k hk (fun e => hn e.symm)⟩
          have hl5' := own_keepG (own_keep hl3 hx4) hk5 (fun b hb e => hsb b hb e)
          have hbesl5 : ∀ b, Value.ownBlock (.slice aL k cL) = some b → Beside w5 (w.heap.size + 1) vn2 vb2 D2 b := fun b hb => hside _ ((hbesl b hb).go (hownl.lt b hb).2 hgo3)
          have hsb5 : ∀ b, Value.ownBlock (.slice aL k cL) = some b → v5.ownBlock ≠ some b := fun b hb => by
            rcases hl5 with h | ⟨g, h, h2⟩
            · rw [h]; exact hsb b hb
            · rw [h]; intro e; injection e with e; rw [World.size_alloc] at h2; have := (hl3.lt b hb).2; omega
          have htl := HA.out.more hB1.good.wf hB3.good.wf hgo3.more
          have htk := (HAr.out.more hB1.good.wf hB3.good.wf hgo3.more).snoc hi3 (by rw [har, List.getD_eq_getElem?_getD, List.getElem?_eq_getElem hlt]; exact hS3)
          go_roundw
          case rel => exact ⟨q + 1, vn2, vb2, D2, rs ++ [i2], by omega, by go_num, by rw [List.length_append, har]; rfl, by simpa [toZ] using ho5, hB5, hG5, by have := HT.out; omega, hbes5, hres5, hrb5, hl5', hbesl5, hsb5, htl, htk⟩
          case measure => simp [intOf]; omega
        · have hqe : q = Rs.length := by omega
          have h2 : ¬ (((q : Nat) : Int) < (Rs.length : Int)) := by omega
          obtain ⟨aR, cR, rfl, hcR, hcR2⟩ := own_len hownr
          have hkl := HKE.out
          have hIl := Ints.of_own (l := toZ ls) hownl (by rw [toZ_len]; omega)
          have hIr := Ints.of_own (l := toZ rs) hownr (by rw [toZ_len]; omega)
          rw [hqe, List.take_of_length_le (Nat.le_refl _)] at hD1
          have bl : ∀ x, x ∈ ls → x < D1.length := fun x hx => by obtain ⟨j, hj, rfl⟩ := List.mem_iff_getElem.1 hx; exact (HA.out j hj).1
          have br : ∀ x, x ∈ rs → x < D1.length := fun x hx => by obtain ⟨j, hj, rfl⟩ := List.mem_iff_getElem.1 hx; exact (HAr.out j hj).1
          have HQE := Lib.hid hqe
          have HIL := Lib.hid hIl
          have HIR := Lib.hid hIr
          have HD1 := Lib.hid hD1
          have HG1 := Lib.hid hG1
          have HAL := Lib.hid (hal.trans hkl)
          have HAR := Lib.hid (har.trans hqe)
          clear hqe hkl hIl hIr hownl hownr hbesr hbesl hsb hD1
          go_wp2_with (first
            | (go_at_call 51; refine (put_any _ vn1 vb1 D1 _ _ ls rs _ hB1 HIL.out HIR.out bl br (by have := HAL.out; omega) (by have := HAR.out; omega) (by have := HD1.out; omega)).mono ?_; rintro e w3 ⟨vn2, vb2, D2, i2, rfl, hB3, hK3, hS3, hQ3, hP3⟩
               have hres3 : w3.heap[w.heap.size]? = some (.cells #[.slice none 0 0] 28 (0, 0)) := by rw [hK3.block _ (blk_lt hres) hrb.ins]; exact hres
               have hBO3 := hB.go hB3 (HG1.out.trans (BookGo.of_put hK3 hS3 hQ3 hP3)))
            | (go_at_call 49; refine (form_any _ vn2 vb2 D2 i2 _ hB3 hP3.lt).mono ?_; rintro e w7 ⟨vN, F', rfl, hN7, hIF, hS7, hx7⟩
               obtain ⟨aN, cN, rfl, -⟩ := id hN7
               have hres7 : w7.heap[w.heap.size]? = some (.cells #[.slice none 0 0] 28 (0, 0)) := by rw [hx7.block _ (blk_lt hres3)]; exact hres3
               have cr7 := cell_of_row w7 w.heap.size 0 _ _ _ hres7
               have fr7 := frozen_of_row w7 w.heap.size 0 _ _ hres7
               have HH : Hid ((w7.setCell ⟨w.heap.size, 0, none⟩ (.slice aN F'.length cN)).heap[w.heap.size]? = some (.cells #[.slice aN F'.length cN] 28 (0, 0))) := heap_setCell_same w7 w.heap.size 0 _ _ (.slice aN F'.length cN) hres7))
          (try simp only [Exit.inBlock, Exit.then])
          refine bodyPost_ret (results_cell_row rfl _ _ w.heap.size 28 #[.slice aN F'.length cN] (0, 0) _ rfl HH.out Tryz.underlying28 rfl (by kernel_rfl)) rfl ?_
          have hN8 := (hN7.set (p := ⟨w.heap.size, 0, none⟩) (by show w.heap.size < w3.heap.size; exact blk_lt hres3) (.slice aN F'.length cN)).weaken (base' := w.heap.size) hBO3.ext.size
          have hsm := form_le hB3.good hP3.lt hIF hS7
          have hgm := put_games hB1.good.wf hB3.good.wf HAL.out HAR.out HA.out HAr.out hP3
          exact ⟨_, F', rfl, hN8, hIF, Cgt.same_trans hS7 hgm, by have := hP3.len; have := HD1.out; omega, (ext_trans hBO3.ext hx7).setCell (p := ⟨w.heap.size, 0, none⟩) (Nat.le_refl _) _⟩

end Go.Proofs.YtjkdanmpihildaaGreatDoor

namespace Go.Proofs.YtjkdanmpihildaaGreatDoor
open Go.RowKit

def isSign (b : UInt8) : Bool := b == 76 || b == 82
def signsB (s : ByteArray) (most : Int) : Bool := decide (∀ i (h : i < s.size), isSign s[i] = true) && decide ((s.size : Int) ≤ most)

theorem l22Signs_any (s : ByteArray) (most : Int) (w : World) (hs : s.size ≤ 2000000) : Calls Tryz.prog 29 #[.string s, .int .i64 most] w fun e w' => e = .returned (.bool (signsB s most)) ∧ w' = w := by
  go_enter Tryz.func29, Tryz.ntmps29
  go_wp2
  go_loopw [5] (fun ii wr => wr = w ∧ ∃ k, k ≤ s.size ∧ ii = .int .i64 ((k : Nat) : Int) ∧ Hid (∀ i (h : i < s.size), i < k → isSign s[i] = true)) (fun ii _ => s.size - (intOf ii).toNat)
  case atStart => exact ⟨rfl, 0, Nat.zero_le _, rfl, fun i _ h => absurd h (by omega)⟩
  case round =>
    obtain ⟨rfl, k, hk, rfl, HP⟩ := hrel
    by_cases hlt : k < s.size
    · have h1 : ((k : Nat) : Int) < (s.size : Int) := by omega
      have hsg : isSign s[k] = true ↔ (s[k].toNat = 76 ∨ s[k].toNat = 82) := by
        simp only [isSign, Bool.or_eq_true, beq_iff_eq, ← UInt8.toNat_inj]; rfl
      have HS := Lib.hid hsg
      clear hsg
      by_cases h76 : s[k].toNat = 76
      · have e1 : ((s[k].toNat : Nat) : Int) = 76 := by omega
        have HK := Lib.hid (HS.out.2 (.inl h76))
        clear h76
        go_wp2
        go_roundw
        case rel => exact ⟨trivial, k + 1, by omega, by go_num, fun i hi hik => by
          by_cases e : i = k
          · subst e; exact HK.out
          · exact HP.out i hi (by omega)⟩
        case measure => simp [intOf]; omega
      · by_cases h82 : s[k].toNat = 82
        · have e1 : ((s[k].toNat : Nat) : Int) = 82 := by omega
          have HK := Lib.hid (HS.out.2 (.inr h82))
          clear h76 h82
          go_wp2
          go_roundw
          case rel => exact ⟨trivial, k + 1, by omega, by go_num, fun i hi hik => by
            by_cases e : i = k
            · subst e; exact HK.out
            · exact HP.out i hi (by omega)⟩
          case measure => simp [intOf]; omega
        · have e1 : (((s[k].toNat : Nat) : Int) != 76) = true := by simp; omega
          have e2 : (((s[k].toNat : Nat) : Int) != 82) = true := by simp; omega
          have e3 : ¬ (((s[k].toNat : Nat) : Int) = 76) := by omega
          have e4 : ¬ (((s[k].toNat : Nat) : Int) = 82) := by omega
          have HN : Hid (¬ (isSign s[k] = true)) := fun h => by rcases HS.out.1 h with h | h; exact h76 h; exact h82 h
          clear h76 h82
          go_wp2
          go_ret
          refine ⟨ret_bool ?_, rfl⟩
          have : decide (∀ i (h : i < s.size), isSign s[i] = true) = false := decide_eq_false (fun h => HN.out (h k hlt))
          simp [signsB, this]
    · have h1 : ¬ (((k : Nat) : Int) < (s.size : Int)) := by omega
      go_wp2
      go_ret
      refine ⟨ret_bool ?_, rfl⟩
      have : decide (∀ i (h : i < s.size), isSign s[i] = true) = true := decide_eq_true (fun i hi => HP.out i hi (by omega))
      simp [signsB, this]

end Go.Proofs.YtjkdanmpihildaaGreatDoor

namespace Go.Proofs.YtjkdanmpihildaaGreatDoor
open Go.RowKit

def goodT (us : List Int) (s : ByteArray) : Bool := decide (us.length = s.size) && signsB s 8 && decide (∀ i, i < us.length → inB (zat us i) (-1) ((i : Int) - 1) = true)

set_option maxHeartbeats 2000000 in
theorem GoodTree_any (v : Value) (us : List Int) (s : ByteArray) (w : World) (hv : Ints w v us) (hs : s.size ≤ 2000000) : Calls Tryz.prog 14 #[.agg #[v, .string s]] w fun e w' => e = .returned (.bool (goodT us s)) ∧ Ext w w' := by
  obtain ⟨a, cap, rfl, hcap, hml, hcells⟩ := hv
  have hxb : Ext w (w.alloc (.cells #[.slice a us.length cap, .string s] 31)) := by go_grown
  by_cases hlen : us.length = s.size
  · rw [hlen] at hxb hcap hml hcells ⊢
    have HLEN := Lib.hid hlen
    clear hlen
    have hdl : decide (us.length = s.size) = true := decide_eq_true HLEN.out
    cases hsg : signsB s 8 with
    | false =>
      go_enter Tryz.func14, Tryz.ntmps14
      go_wp2_with (go_at_call 29; refine (l22Signs_any s _ _ hs).mono ?_; rintro e w1 ⟨he, rfl⟩; rw [hsg] at he; subst he)
      go_ret
      exact ⟨ret_bool (by simp [goodT, hsg]), hxb⟩
    | true =>
      go_enter Tryz.func14, Tryz.ntmps14
      go_wp2_with (go_at_call 29; refine (l22Signs_any s _ _ hs).mono ?_; rintro e w1 ⟨he, rfl⟩; rw [hsg] at he; subst he)
      have c0 := cell_of_row (w.alloc (.cells #[.slice a s.size cap, .string s] 31)) w.heap.size 0 _ _ _ (heap_alloc_new w _)
      generalize hW : w.alloc (.cells #[.slice a s.size cap, .string s] 31) = W at *
      clear hW
      go_loopw [3] (fun ii wr => ∃ k n, k ≤ s.size ∧ ii = .int .i64 ((k : Nat) : Int) ∧ wr = W.drewN n ∧ Hid (∀ i, i < k → inB (zat us i) (-1) ((i : Int) - 1) = true)) (fun ii _ => s.size - (intOf ii).toNat)
      case atStart => exact ⟨0, 0, Nat.zero_le _, rfl, rfl, fun i h => absurd h (by omega)⟩
      case round =>
        obtain ⟨k, n, hk, rfl, rfl, HP⟩ := hrel
        by_cases hlt : k < s.size
        · have h1 : ((k : Nat) : Int) < ((s.size : Nat) : Int) := by omega
          obtain ⟨b, off, rfl, hcell⟩ := hcells (by omega)
          have hck := hcell k hlt
          have hck1 := (hxb.cell (lt_of_cell hck)).trans hck
          cases hin : inB (zat us k) (-1) ((k : Int) - 1) with
          | true =>
            have HI := Lib.hid hin
            go_wp2_with (go_at_call 30; refine (l1In_any _ _ _ _).mono ?_; rintro e w1 ⟨he, m, rfl⟩; rw [hin] at he; subst he)
            go_roundw
            case rel => exact ⟨k + 1, n + m, by omega, by go_num, by simp, fun i hik => by
              by_cases e : i = k
              · subst e; exact HI.out
              · exact HP.out i (by omega)⟩
            case measure => simp [intOf]; omega
          | false =>
            have HI := Lib.hid hin
            go_wp2_with (go_at_call 30; refine (l1In_any _ _ _ _).mono ?_; rintro e w1 ⟨he, m, rfl⟩; rw [hin] at he; subst he)
            go_ret
            refine ⟨ret_bool ?_, ext_drewN hxb _⟩
            have hd : decide (∀ i, i < us.length → inB (zat us i) (-1) ((i : Int) - 1) = true) = false := decide_eq_false (fun h => by have := h k (by rw [HLEN.out]; exact hlt); rw [HI.out] at this; cases this)
            simp [goodT, hd]
        · have h1 : ¬ (((k : Nat) : Int) < ((s.size : Nat) : Int)) := by omega
          go_wp2
          go_ret
          refine ⟨ret_bool ?_, ext_drewN hxb _⟩
          have hd : decide (∀ i, i < us.length → inB (zat us i) (-1) ((i : Int) - 1) = true) = true := decide_eq_true (fun i hi => HP.out i (by rw [HLEN.out] at hi; omega))
          rw [goodT, hdl, hsg, hd]; rfl
  · have hne : (((us.length : Nat) : Int) != ((s.size : Nat) : Int)) = true := by simp; omega
    have hne' : ¬ (((us.length : Nat) : Int) = ((s.size : Nat) : Int)) := by omega
    have HL := Lib.hid hlen
    clear hlen
    go_enter Tryz.func14, Tryz.ntmps14
    go_wp2
    go_ret
    exact ⟨ret_bool (by simp [goodT, HL.out]), hxb⟩

end Go.Proofs.YtjkdanmpihildaaGreatDoor
