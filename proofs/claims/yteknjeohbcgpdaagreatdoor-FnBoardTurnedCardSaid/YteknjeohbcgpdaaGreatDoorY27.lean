/-
  Contract of the program's TurnBoard. (2 texts.)
-/
import Derived.Test.YteknjeohbcgpdaaGreatDoorY23
import Derived.Test.YteknjeohbcgpdaaGreatDoorY24
import Derived.Test.YteknjeohbcgpdaaGreatDoorY25
import Derived.Test.YteknjeohbcgpdaaGreatDoorY26
import Derived.Laws.ResultCell
set_option maxRecDepth 100000
namespace Go.Proofs.YteknjeohbcgpdaaGreatDoor
section
open Go.RowKit
open Cgt (Brd GB goodB)

def BrdPost (b : Brd) (f : Brd → Brd) (w : World) (e : Ending) (w' : World) : Prop :=
  ∃ v' ss' ok, e = .returned (.tuple #[.agg #[v'], .bool ok]) ∧ ok = goodB b ∧ (ok = true → bd ss' = f b) ∧ w'.ownsRow w.heap.size 9 1 v' ss'.length (ss'.map Value.string) ∧ Ext w w'
def rowsMir7 : List Row := [⟨0, [], 20, [4]⟩, ⟨1, [0], 21, [19]⟩, ⟨2, [], 22, [6]⟩, ⟨3, [2], 23, [21]⟩, ⟨4, [3], 24, [22]⟩, ⟨5, [1, 4, 3], 25, [20, 23]⟩, ⟨6, [0, 1, 2, 3, 4, 5], 26, [4]⟩, ⟨7, [6, 5, 5, 0, 1, 2, 3, 4, 5], 0, [25, 24]⟩]

set_option maxHeartbeats 1000000 in
theorem mirror_any (v : Value) (ss : List ByteArray) (w : World) (hv : Strs w v ss) (hl : ss.length ≤ 1048576) (hs : ∀ s, s ∈ ss → s.size ≤ 1048576) : Calls Tryz.prog 28 #[.agg #[v]] w (BrdPost (bd ss) Cgt.mirB w) := by
  obtain ⟨i0, hi0, hz0, hz1, hz2⟩ := info_parts info_stringP
  obtain ⟨a, cap, rfl, hcap, hml⟩ := hv.open
  have hb1 : ((w.alloc (.cells #[.slice a ss.length cap] 31)).alloc (.cells #[.slice none 0 0] 31)).heap[w.heap.size]? = some (.cells #[.slice a ss.length cap] 31 (0, 0)) := by
    rw [Below.heap_alloc _ _ _ (by simp)]; exact heap_alloc_new _ _
  have hb2 : ((w.alloc (.cells #[.slice a ss.length cap] 31)).alloc (.cells #[.slice none 0 0] 31)).heap[w.heap.size + 1]? = some (.cells #[.slice none 0 0] 31 (0, 0)) := by
    have h := heap_alloc_new (w.alloc (.cells #[.slice a ss.length cap] 31)) (.cells #[.slice none 0 0] 31); rw [World.size_alloc] at h; exact h
  have hx2 : Ext w ((w.alloc (.cells #[.slice a ss.length cap] 31)).alloc (.cells #[.slice none 0 0] 31)) := by go_grown
  have HV := Lib.hid hv
  have HS := Lib.hid (And.intro hl hs)
  clear hl hs hv
  go_enter Tryz.func28, Tryz.ntmps28
  go_upto_region 1 with fail
  generalize (w.alloc (.cells #[.slice a ss.length cap] 31)).alloc (.cells #[.slice none 0 0] 31) = W at *
  have c0 := cell_of_row W w.heap.size 0 _ _ _ hb1
  simp only [gE] at c0
  cases hg : goodB (bd ss) with
  | false =>
    go_upto_region 2 with (go_at_call 41; refine (pGoodBoard_any _ ss _ (HV.out.ext hx2) HS.out.1 HS.out.2).mono ?_; rintro e w1 ⟨he, hx1⟩; rw [hg] at he; subst he)
    have hr1 : w1.heap[w.heap.size + 1]? = some (.cells #[.slice none 0 0] 31 (0, 0)) := (hx1.block _ (blk_lt hb2)).trans hb2
    have d0 := cell_of_row w1 (w.heap.size + 1) 0 _ _ _ hr1
    have f0 := frozen_of_row w1 (w.heap.size + 1) 0 _ _ hr1
    have HE := Lib.hid (ext_trans hx2 hx1)
    clear c0
    go_wp2
    have HH := Lib.hid (heap_setCell_same w1 (w.heap.size + 1) 0 _ _ (.slice none 0 0) hr1)
    (try simp only [Exit.inBlock, Exit.then])
    refine bodyPost_ret (results_row_tmp rfl _ _ (w.heap.size + 1) 31 #[.slice none 0 0] (0, 0) _ rfl HH.out Tryz.underlying31 rfl (by kernel_rfl) rfl) rfl ?_
    exact ⟨_, [], false, rfl, hg.symm, (fun h => by cases h), ⟨by simp, .inl ⟨rfl, rfl⟩⟩, HE.out.setCell (p := ⟨w.heap.size + 1, 0, none⟩) (by show w.heap.size ≤ w.heap.size + 1; omega) _⟩
  | true =>
    obtain ⟨hh, ww, g⟩ := Cgt.goodB_iff.1 hg
    go_upto_region 4 with (go_at_call 41; refine (pGoodBoard_any _ ss _ (HV.out.ext hx2) HS.out.1 HS.out.2).mono ?_; rintro e w1 ⟨he, hx1⟩; rw [hg] at he; subst he)
    have hM0 : BoM w (w1.alloc (.cells #[.slice none 0 0] 31)) w1.heap.size (.slice a ss.length cap) (.slice none 0 0) [] := by
      have h1 := (hx1.block _ (blk_lt hb1)).trans hb1
      have h2 := (hx1.block _ (blk_lt hb2)).trans hb2
      exact ⟨by rw [Below.heap_alloc _ _ _ (blk_lt h1)]; exact h1, by rw [Below.heap_alloc _ _ _ (blk_lt h2)]; exact h2, heap_alloc_new _ _, ⟨by simp, .inl ⟨rfl, rfl⟩⟩, blk_lt h2, ext_trans (ext_trans hx2 hx1) (ext_alloc (Below.refl _ _) _)⟩
    have HG := Lib.hid g
    have HL := Lib.hid (show ss.length ≤ 8 by have := gb_len g; have := g.h1; omega)
    have hsz : ∀ s, s ∈ ss → 0 < s.size ∧ s.size ≤ 8 := fun s hs => by
      obtain ⟨i, hi, rfl⟩ := List.mem_iff_getElem.1 hs
      have := gb_row g hi; have := g.w1; omega
    have HSZ := Lib.hid hsz
    generalize w1.alloc (.cells #[.slice none 0 0] 31) = We at *
    generalize w1.heap.size = po at *
    clear c0 hb1 hb2 hx2 hx1 hsz g hg
    have c1 := cell_of_row We w.heap.size 0 _ _ _ hM0.b0
    simp only [gE] at c1
    go_wp2
    go_loopw [6, 15] (fun _ ii wr => ∃ (i : Nat) (ov : Value) (out : List ByteArray), ii = .int .i64 ((i : Nat) : Int) ∧ i ≤ ss.length ∧ BoM w wr po (.slice a ss.length cap) ov out ∧ Hid (out.length = i ∧ bd out = (Cgt.mirB (bd ss)).take i)) (fun _ ii _ => ss.length - (intOf ii).toNat)
    case atStart => exact ⟨0, _, [], rfl, Nat.zero_le _, hM0, Lib.hid ⟨rfl, rfl⟩⟩
    case round =>
      clear hM0 c1
      obtain ⟨i, ov, out, rfl, hi, hM, HOUT⟩ := hrel
      have hi8 := HL.out
      by_cases hlt : i < ss.length
      · have hil : ((i : Nat) : Int) < ((ss.length : Nat) : Int) := by omega
        obtain ⟨b, off, rfl, hcl⟩ := (HV.out.ext hM.ext).at hlt
        have ci := hcl i hlt
        have hsi := HSZ.out _ (List.getElem_mem hlt)
        have HLT := Lib.hid hlt
        obtain ⟨si, esi⟩ : ∃ si : ByteArray, si = ss[i]'(HLT.out) := ⟨_, rfl⟩
        rw [← esi] at ci hsi
        have ESI := Lib.hid esi
        clear hcl esi hlt
        obtain ⟨ao, co, rfl, hco1, hco2⟩ := own_len hM.own
        obtain ⟨q, hq⟩ : ∃ q, q = out.length := ⟨_, rfl⟩
        have hq8 : out.length ≤ 8 := by have := HOUT.out.1; omega
        have HM := Lib.hid hM
        have k0 := cell_of_row wr po 0 _ _ _ hM.b2
        simp only [gE] at k0
        clear hM hq
        go_upto_region 7 with fail
        refine wp_region_L (fun V => V.cell? ⟨po, 0, none⟩ = some (.slice ao out.length co)) [5, 6, 7] rowsMir7 (by kernel_rfl) ⟨by kernel_rfl, by kernel_rfl, by kernel_rfl⟩ k0 (fun hTab hHeld => ?_)
        ((refine tkB hTab (i := 0) hHeld ?_); (try simp only [nP]); (refine tkB hTab (i := 1) hHeld ?_); (try simp only [nP]); (refine tkB hTab (i := 2) hHeld ?_); (try simp only [nP]))
        (refine stB hTab (i := 3) fun K hK => ?_; go_simp)
        refine (reversed_any si _ hsi.1 (by omega)).mono ?_
        rintro e w4 ⟨t, rfl, ht, hx4⟩
        have HT := Lib.hid ht
        clear ht
        have hx4' := ext_trans (rd_ext ⟨1, rfl⟩ : Ext wr (wr.drewN 1)) hx4
        have k4 : w4.cell? ⟨po, 0, none⟩ = some (.slice ao out.length co) := (hx4'.cell (lt_of_cell k0)).trans k0
        have hM4 := HM.out.ext' hx4'
        have ho4 := hM4.own
        have hz4 := blk_lt hM4.b2
        have HM4 := Lib.hid hM4
        clear hM4
        (refine hK.out _ _ (fun _ => ?_) ?_)
        · exact k4
        clear hK K
        (try simp only [nP])
        (refine stB hTab (i := 4) fun K hK => ?_; go_simp)
        (refine hK.out _ _ (fun _ => ?_) ?_)
        · exact alloc_cell k4 _
        clear hK K
        (try simp only [nP])
        refine tlB hTab [5, 6, 7] [_, _, _] ?_
        clear hTab hHeld
        go_wp2_with (at_builtin; refine app_list rfl (.tmp 20) (.tmp 23) 22 rfl (po + 1) 9 i0 (.string ⟨#[]⟩) 1 16 Tryz.underlying22 hi0 hz0 hz1 hz2 rfl (by decide) (.slice ao out.length co) out.length (out.map Value.string) rfl (ho4.alloc _) _ 1 _ [.string t] rfl rfl (.inr ⟨_, rfl, one_src (new_cell _ _ _)⟩) (by intro u hu; simp at hu; subst hu; rfl) (by unfold maxLen; omega) (by omega) (by rw [World.size_alloc]; omega) ?_; intro v5 w5 ho5 hg5 hl5; obtain ⟨a5, c5, rfl, -⟩ := own_len ho5; obtain ⟨hM5, g5, f5⟩ := HM4.out.put ho5 hg5; have HM5 := Lib.hid hM5; clear hM5)
        go_roundw
        case rel =>
          have hr : (Cgt.mirB (bd ss))[i]? = some (bdr t) := by
            rw [Cgt.mirB, List.getElem?_map, bd, List.getElem?_map, List.getElem?_eq_getElem HLT.out, HT.out, bd_rev, ESI.out]; rfl
          refine ⟨i + 1, .slice a5 (out.length + 1) c5, out ++ [t], by go_num, HLT.out, HM5.out, Lib.hid ⟨by simp [HOUT.out.1], ?_⟩⟩
          rw [List.take_add_one, hr, ← HOUT.out.2]; simp [bd]
        case measure => have := HLT.out; simp [intOf]; omega
      · have hil : ¬ (((i : Nat) : Int) < ((ss.length : Nat) : Int)) := by omega
        have hie : i = ss.length := by omega
        subst hie
        obtain ⟨ao, co, rfl, hco1, hco2⟩ := own_len hM.own
        have k0 := cell_of_row wr po 0 _ _ _ hM.b2
        have k1 := cell_of_row wr (w.heap.size + 1) 0 _ _ _ hM.b1
        have k2 := frozen_of_row wr (w.heap.size + 1) 0 _ _ hM.b1
        simp only [gE] at k0 k1
        have HM := Lib.hid hM
        have hr1 := hM.b1
        clear hM
        go_wp2
        have HH := Lib.hid (heap_setCell_same wr (w.heap.size + 1) 0 _ _ (.slice ao out.length co) hr1)
        (try simp only [Exit.inBlock, Exit.then])
        refine bodyPost_ret (results_row_tmp rfl _ _ (w.heap.size + 1) 31 #[.slice ao out.length co] (0, 0) _ rfl HH.out Tryz.underlying31 rfl (by kernel_rfl) rfl) rfl ?_
        have hpz := HM.out.pz
        refine ⟨_, out, true, rfl, (Cgt.goodB_iff.2 ⟨hh, ww, HG.out⟩).symm, fun _ => ?_, own_lowerB (own_keepG HM.out.own (keep_set (p := ⟨w.heap.size + 1, 0, none⟩)) (fun b hb e => by have := (HM.out.own.lt b hb).1; have e' : b = w.heap.size + 1 := e; omega)) (by omega), HM.out.ext.setCell (p := ⟨w.heap.size + 1, 0, none⟩) (by show w.heap.size ≤ w.heap.size + 1; omega) _⟩
        rw [HOUT.out.2, List.take_of_length_le (by simp [Cgt.mirB, bd])]
end
section
open Go.RowKit
open Cgt (Brd GB goodB)

def wid (b : Brd) : Nat := (b.headD []).length
theorem _root_.Go.Proofs.YteknjeohbcgpdaaGreatDoor.Cgt.GB.wid {b : Brd} {h w : Nat} (g : GB b h w) : wid b = w := by
  have h1 := g.h1; have h2 := g.hgt
  cases b with
  | nil => simp at h2; omega
  | cons r b => exact (g.row r (by simp)).1
def trnB (b : Brd) : Brd := Cgt.trn b (wid b)

theorem BoM.at_ {w wr : World} {po kI : Nat} {bx ov : Value} {out : List ByteArray} (m : BoM w wr po bx ov out) (hk : po < kI) (nk : ov.ownBlock ≠ some kI) (s : ByteArray) (p : Nat) : BoM w (wr.iterAt kI s p) po bx ov out := by
  have h : Keep (fun b => b = kI) wr (wr.iterAt kI s p) := ⟨rfl, rfl, rfl, by rw [Lib.iterAt_size]; exact Nat.le_refl _, fun k _ hn => Lib.iterAt_other wr kI k s p hn⟩
  have hp := m.pz
  exact ⟨(h.block _ (blk_lt m.b0) (by omega)).trans m.b0, (h.block _ (blk_lt m.b1) (by omega)).trans m.b1, (h.block _ (blk_lt m.b2) (by omega)).trans m.b2, own_keepG m.own h (fun b hb e => nk (by rw [← e]; exact hb)), m.pz, Lib.below_iterAt m.ext (by omega) s p⟩

theorem BoM.putI {wr w5 : World} {po kI : Nat} {ov v5 : Value} {X : Obj} {s : ByteArray} {q : Nat} (hk : po < kI) (nk : ov.ownBlock ≠ some kI) (hi : wr.heap[kI]? = some (.stringIter s q)) (hg : (wr.alloc X).grownBy w5 ov.ownBlock) (hl : Lies (wr.alloc X) ov v5) : (w5.setCell ⟨po, 0, none⟩ v5).heap[kI]? = some (.stringIter s q) ∧ v5.ownBlock ≠ some kI := by
  have h1 := it_lt hi
  refine ⟨?_, fun e => ?_⟩
  · rw [heap_setCell_other _ _ _ _ (by show kI ≠ po; omega), hg.block _ (by rw [World.size_alloc]; omega) (fun e => nk e.symm), Below.heap_alloc _ _ _ h1]; exact hi
  · rcases hl with k | ⟨q, k, k2⟩
    · exact nk (by rw [← k]; exact e)
    · rw [k] at e; injection e with e; rw [World.size_alloc] at k2; omega
theorem bdr_bytes (l : List Nat) : bdr (bytesN l) = l.map UInt8.ofNat := by unfold bdr bytesN; simp

def colN (b : Brd) (c : Nat) : List Nat := b.map fun r => (r.getD c 0).toNat
theorem colN_row (b : Brd) (c : Nat) : (colN b c).map UInt8.ofNat = b.map fun r => r.getD c 0 := by
  unfold colN; rw [List.map_map]; exact List.map_congr_left fun x _ => by simp
theorem colN_len (b : Brd) (c : Nat) : (colN b c).length = b.length := by simp [colN]
theorem colN_next {b : Brd} {c i : Nat} (hi : i < b.length) : (colN b c).take (i + 1) = (colN b c).take i ++ [((b[i]).getD c 0).toNat] := by
  rw [List.take_succ_eq_append_getElem (by rw [colN_len]; exact hi)]; simp [colN]

set_option maxHeartbeats 1000000 in
theorem turn_any (v : Value) (ss : List ByteArray) (w : World) (hv : Strs w v ss) (hl : ss.length ≤ 1048576) (hs : ∀ s, s ∈ ss → s.size ≤ 1048576) : Calls Tryz.prog 27 #[.agg #[v]] w (BrdPost (bd ss) trnB w) := by
  obtain ⟨i0, hi0, hz0, hz1, hz2⟩ := info_parts info_stringP
  obtain ⟨j0, hj0, hy0, hy1, hy2⟩ := info_parts info_u8
  obtain ⟨a, cap, rfl, hcap, hml⟩ := hv.open
  have hb1 : ((w.alloc (.cells #[.slice a ss.length cap] 31)).alloc (.cells #[.slice none 0 0] 31)).heap[w.heap.size]? = some (.cells #[.slice a ss.length cap] 31 (0, 0)) := by
    rw [Below.heap_alloc _ _ _ (by simp)]; exact heap_alloc_new _ _
  have hb2 : ((w.alloc (.cells #[.slice a ss.length cap] 31)).alloc (.cells #[.slice none 0 0] 31)).heap[w.heap.size + 1]? = some (.cells #[.slice none 0 0] 31 (0, 0)) := by
    have h := heap_alloc_new (w.alloc (.cells #[.slice a ss.length cap] 31)) (.cells #[.slice none 0 0] 31); rw [World.size_alloc] at h; exact h
  have hx2 : Ext w ((w.alloc (.cells #[.slice a ss.length cap] 31)).alloc (.cells #[.slice none 0 0] 31)) := by go_grown
  have HV := Lib.hid hv
  have HS := Lib.hid (And.intro hl hs)
  clear hl hs hv
  go_enter Tryz.func27, Tryz.ntmps27
  go_upto_region 1 with fail
  generalize (w.alloc (.cells #[.slice a ss.length cap] 31)).alloc (.cells #[.slice none 0 0] 31) = W at *
  have c0 := cell_of_row W w.heap.size 0 _ _ _ hb1
  simp only [gE] at c0
  cases hg : goodB (bd ss) with
  | false =>
    go_upto_region 2 with (go_at_call 41; refine (pGoodBoard_any _ ss _ (HV.out.ext hx2) HS.out.1 HS.out.2).mono ?_; rintro e w1 ⟨he, hx1⟩; rw [hg] at he; subst he)
    have hr1 : w1.heap[w.heap.size + 1]? = some (.cells #[.slice none 0 0] 31 (0, 0)) := (hx1.block _ (blk_lt hb2)).trans hb2
    have d0 := cell_of_row w1 (w.heap.size + 1) 0 _ _ _ hr1
    have f0 := frozen_of_row w1 (w.heap.size + 1) 0 _ _ hr1
    have HE := Lib.hid (ext_trans hx2 hx1)
    clear c0
    go_wp2
    have HH := Lib.hid (heap_setCell_same w1 (w.heap.size + 1) 0 _ _ (.slice none 0 0) hr1)
    (try simp only [Exit.inBlock, Exit.then])
    refine bodyPost_ret (results_row_tmp rfl _ _ (w.heap.size + 1) 31 #[.slice none 0 0] (0, 0) _ rfl HH.out Tryz.underlying31 rfl (by kernel_rfl) rfl) rfl ?_
    exact ⟨_, [], false, rfl, hg.symm, (fun h => by cases h), ⟨by simp, .inl ⟨rfl, rfl⟩⟩, HE.out.setCell (p := ⟨w.heap.size + 1, 0, none⟩) (by show w.heap.size ≤ w.heap.size + 1; omega) _⟩
  | true =>
    obtain ⟨hh, ww, g⟩ := Cgt.goodB_iff.1 hg
    go_upto_region 4 with (go_at_call 41; refine (pGoodBoard_any _ ss _ (HV.out.ext hx2) HS.out.1 HS.out.2).mono ?_; rintro e w1 ⟨he, hx1⟩; rw [hg] at he; subst he)
    have hM0 : BoM w (w1.alloc (.cells #[.slice none 0 0] 31)) w1.heap.size (.slice a ss.length cap) (.slice none 0 0) [] := by
      have h1 := (hx1.block _ (blk_lt hb1)).trans hb1
      have h2 := (hx1.block _ (blk_lt hb2)).trans hb2
      exact ⟨by rw [Below.heap_alloc _ _ _ (blk_lt h1)]; exact h1, by rw [Below.heap_alloc _ _ _ (blk_lt h2)]; exact h2, heap_alloc_new _ _, ⟨by simp, .inl ⟨rfl, rfl⟩⟩, blk_lt h2, ext_trans (ext_trans hx2 hx1) (ext_alloc (Below.refl _ _) _)⟩
    have hgl := gb_len g
    have hw8 := g.w1
    have hh8 := g.h1
    have HG := Lib.hid g
    have HL := Lib.hid (show ss.length ≤ 8 by omega)
    have HSZ : Hid (∀ s, s ∈ ss → s.size = ww) := Lib.hid fun s hs => by
      obtain ⟨i, hi, rfl⟩ := List.mem_iff_getElem.1 hs
      exact gb_row g hi
    have HASC : Hid (∀ i (hi : i < ss.length) k (hk : k < (ss[i]).size), ((ss[i])[k]).toNat < 128) := Lib.hid fun i hi k hk => by
      refine ascii_row g (r := bdr ss[i]) (List.mem_map.2 ⟨ss[i], List.getElem_mem hi, rfl⟩) ?_
      exact Array.getElem_mem_toList ..
    have h0 : 0 < ss.length := by omega
    have H0 := Lib.hid h0
    generalize w1.alloc (.cells #[.slice none 0 0] 31) = We at *
    generalize w1.heap.size = po at *
    clear c0 hb1 hb2 hx2 hx1 hg hgl hh8
    have c1 := cell_of_row We w.heap.size 0 _ _ _ hM0.b0
    simp only [gE] at c1
    obtain ⟨b, off, rfl, hcl⟩ := (HV.out.ext hM0.ext).at h0
    have ci := hcl 0 h0
    rw [Nat.add_zero] at ci
    obtain ⟨s0, es0⟩ : ∃ s0 : ByteArray, s0 = ss[0]'(H0.out) := ⟨_, rfl⟩
    rw [← es0] at ci
    have hs0 : s0.size = ww := by rw [es0]; exact HSZ.out _ (List.getElem_mem _)
    have HA0 : Hid (∀ k (hk : k < s0.size), (s0[k]).toNat < 128) := Lib.hid (by subst es0; exact HASC.out 0 H0.out)
    have HS0 := Lib.hid hs0
    have hl0 : (0 : Int) < ((ss.length : Nat) : Int) := by omega
    clear hcl g HASC es0 hs0
    go_upto_region 5 with fail
    have hit := World.iter_heap We s0 0
    have hM1 : BoM w (We.iter s0 0) po (.slice (some ⟨b, off, none⟩) ss.length cap) (.slice none 0 0) [] := hM0.ext' (ext_alloc (Below.refl _ _) _)
    have hkI : po < We.heap.size := blk_lt hM0.b2
    clear hM0 c1 ci hl0 h0
    generalize We.iter s0 0 = Wi at *
    generalize We.heap.size = kI at *
    go_loopw [5, 6, 7, 25] (fun _ _ _ _ wr => ∃ (c : Nat) (ov : Value) (out : List ByteArray), c ≤ ww ∧ BoM w wr po (.slice (some ⟨b, off, none⟩) ss.length cap) ov out ∧ ov.ownBlock ≠ some kI ∧ wr.heap[kI]? = some (.stringIter s0 c) ∧ Hid (out.length = c ∧ bd out = (Cgt.trn (bd ss) ww).take c)) (fun _ _ _ _ wr => ww - wr.iterPos kI)
    case atStart => exact ⟨0, _, [], Nat.zero_le _, hM1, (by intro e; cases e), hit, Lib.hid ⟨rfl, rfl⟩⟩
    case round =>
      clear hM1 hit
      obtain ⟨c, ov, out, hc, hM, hnk, hit, HOUT⟩ := hrel
      have HPOS := Lib.hid (iterPos_of hit)
      by_cases hlt : c < s0.size
      · have HLT := Lib.hid (show c < ww by have := HS0.out; omega)
        obtain ⟨rn, hnx⟩ : ∃ rn : Int, ∀ ty, (Instr.next (.pointer (some ⟨kI, 0, none⟩)) true ty).run Tryz.prog wr = .ok (.tuple #[.bool true, .int .i64 ((c : Nat) : Int), .int .i32 rn]) (wr.iterAt kI s0 (c + 1)) := ⟨_, fun ty => Lib.run_next_ascii_at (P := Tryz.prog) wr kI s0 c ty hit hlt (HA0.out c hlt)⟩
        have hMs := hM.at_ hkI hnk s0 (c + 1)
        have hit2 := Lib.iterAt_heap wr kI s0 c (c + 1) hit
        have HNK := Lib.hid hnk
        clear hM hit hlt hnk
        go_upto_region 8 with fail
        clear hnx
        generalize wr.iterAt kI s0 (c + 1) = W0 at *
        have hx0 : Ext W0 (W0.alloc (.cells #[] 5)) := by go_grown
        have hown0 := own_empty W0 W0.heap.size (Nat.le_refl _) 5
        have cb := cell_of_row (W0.alloc (.cells #[] 5)) w.heap.size 0 _ _ _ (hMs.ext' hx0).b0
        simp only [gE] at cb
        have HMS := Lib.hid hMs
        have HIT := Lib.hid hit2
        clear hMs hit2
        generalize W0.alloc (.cells #[] 5) = W1 at *
        go_wp2
        clear cb
        go_loopw [6, 7, 25] (fun kv _ ii wr => ∃ r : Nat, r ≤ ss.length ∧ ii = .int .i64 ((r : Nat) : Int) ∧ wr.ownsRow W0.heap.size 5 1 kv ((colN (bd ss) c).take r).length (u8s ((colN (bd ss) c).take r)) ∧ Ext W0 wr) (fun _ _ ii _ => ss.length - (intOf ii).toNat)
        case atStart => exact ⟨0, Nat.zero_le _, by go_num, hown0, hx0⟩
        case round =>
          clear hown0 hx0
          obtain ⟨r, hr, rfl, hown, hx⟩ := hrel
          have hr8 := HL.out
          have hkl : ((colN (bd ss) c).take r).length ≤ 8 := by rw [List.length_take]; omega
          have hMr := HMS.out.ext' hx
          by_cases hrl : r < ss.length
          · have h1 : ((r : Nat) : Int) < ((ss.length : Nat) : Int) := by omega
            obtain ⟨b', off', e', hcl⟩ := (HV.out.ext hMr.ext).at hrl
            simp only [Option.some.injEq, Addr.mk.injEq, and_true] at e'
            obtain ⟨rfl, rfl⟩ := e'
            have ci := hcl r hrl
            have cb := cell_of_row wr w.heap.size 0 _ _ _ hMr.b0
            simp only [gE] at cb
            have HRL := Lib.hid hrl
            obtain ⟨sr, esr⟩ : ∃ sr : ByteArray, sr = ss[r]'(HRL.out) := ⟨_, rfl⟩
            rw [← esr] at ci
            have hsr : c < sr.size := by rw [esr, HSZ.out _ (List.getElem_mem _)]; exact HLT.out
            have hsc : ((c : Nat) : Int) < ((sr.size : Nat) : Int) := by omega
            have ESR := Lib.hid esr
            obtain ⟨ak, ck, rfl, hck1, hck2⟩ := own_len hown
            obtain ⟨K, hK0⟩ : ∃ K, K = (colN (bd ss) c).take r := ⟨_, rfl⟩
            rw [← hK0] at hown hck1 hkl ⊢
            have HK := Lib.hid hK0
            have hzx := hx.size
            have HX := Lib.hid hx
            clear hcl hMr esr hK0 hrl hx
            go_wp2_with (at_builtin; refine app_list rfl (.tmp 28) (.tmp 36) 38 rfl W0.heap.size 5 j0 (.int .u8 0) 1 1 Tryz.underlying38 hj0 hy0 hy1 hy2 rfl (by decide) (.slice ak K.length ck) K.length _ rfl (hown.alloc _) _ 1 _ [.int .u8 ((sr[c]'hsr).toNat : Int)] rfl rfl (.inr ⟨_, rfl, one_src (new_cell _ _ _)⟩) one_cell (by unfold maxLen; omega) (by omega) (by rw [World.size_alloc]; omega) ?_; intro v5 w5 ho5 hg5 hl5)
            go_roundw
            case rel =>
              have e : (colN (bd ss) c).take (r + 1) = K ++ [(sr[c]'hsr).toNat] := by
                rw [HK.out, colN_next (by rw [bd_len]; exact HRL.out)]
                have e1 : (bd ss)[r]'(by rw [bd_len]; exact HRL.out) = bdr sr := by rw [ESR.out]; simp [bd]
                rw [e1, Cgt.getD_at 0 (by rw [bdr_len]; exact hsr)]; rfl
              refine ⟨r + 1, HRL.out, by go_num, ?_, ext_keep (ext_trans HX.out (ext_alloc (Below.refl _ _) _)) (keep_grownO hg5) (fun b hb => (hown.lt b hb).1)⟩
              rw [e]
              exact own_cast ho5 (by simp) (by rw [u8s_app]; rfl)
            case measure => have := HRL.out; simp [intOf]; omega
          · have h1 : ¬ (((r : Nat) : Int) < ((ss.length : Nat) : Int)) := by omega
            have hre : r = ss.length := by omega
            subst hre
            rw [List.take_of_length_le (by rw [colN_len, bd_len]; exact Nat.le_refl _)] at hown hkl
            obtain ⟨K, hK0⟩ : ∃ K, K = colN (bd ss) c := ⟨_, rfl⟩
            rw [← hK0] at hown hkl
            have HK := Lib.hid hK0
            obtain ⟨g, ck, rfl, hg, hconv⟩ := key_conv hown (by rw [hK0, colN_len, bd_len]; exact H0.out)
            have HC := hconv wr rfl
            obtain ⟨ao, co, rfl, -, -⟩ := own_len hMr.own
            have k0 := cell_of_row wr po 0 _ _ _ hMr.b2
            simp only [gE] at k0
            have hol : out.length ≤ 8 := by have := HOUT.out.1; have := HLT.out; omega
            have ho4 := hMr.own
            have hz4 := blk_lt hMr.b2
            have HMr := Lib.hid hMr
            have HX := Lib.hid hx
            clear hconv hK0 hMr hx hown
            go_wp2_with (at_builtin; refine app_list rfl (.tmp 40) (.tmp 43) 22 rfl (po + 1) 9 i0 (.string ⟨#[]⟩) 1 16 Tryz.underlying22 hi0 hz0 hz1 hz2 rfl (by decide) (.slice ao out.length co) out.length (out.map Value.string) rfl (ho4.alloc _) _ 1 _ [.string (bytesN K)] rfl rfl (.inr ⟨_, rfl, one_src (new_cell _ _ _)⟩) (by intro u hu; simp at hu; subst hu; rfl) (by unfold maxLen; omega) (by omega) (by rw [World.size_alloc]; omega) ?_; intro v5 w5 ho5 hg5 hl5; obtain ⟨a5, c5, rfl, -⟩ := own_len ho5; obtain ⟨hM5, g5, f5⟩ := HMr.out.put ho5 hg5; have HM5 := Lib.hid hM5; clear hM5)
            have hit6 := BoM.putI hkI HNK.out ((HX.out.block _ (it_lt HIT.out)).trans HIT.out) hg5 hl5
            go_roundw
            case rel =>
              refine ⟨c + 1, _, out ++ [bytesN K], HLT.out, HM5.out, hit6.2, hit6.1, Lib.hid ⟨by simp [HOUT.out.1], ?_⟩⟩
              have hr : (Cgt.trn (bd ss) ww)[c]? = some (K.map UInt8.ofNat) := by
                rw [HK.out, colN_row, Cgt.trn, List.getElem?_map, List.getElem?_range HLT.out]; rfl
              rw [List.take_add_one, hr, ← HOUT.out.2, bd_snoc, bdr_bytes]; rfl
            case measure => have := iterPos_of hit6.1; have := HPOS.out; have := HLT.out; omega
      · have hnx := fun ty => Lib.run_next_end_at (P := Tryz.prog) wr kI s0 c ty hit hlt
        have hce : c = ww := by have := HS0.out; omega
        obtain ⟨ao, co, rfl, hco1, hco2⟩ := own_len hM.own
        have k0 := cell_of_row wr po 0 _ _ _ hM.b2
        have k1 := cell_of_row wr (w.heap.size + 1) 0 _ _ _ hM.b1
        have k2 := frozen_of_row wr (w.heap.size + 1) 0 _ _ hM.b1
        simp only [gE] at k0 k1
        have HM := Lib.hid hM
        have hr1 := hM.b1
        have HCE := Lib.hid hce
        clear hM hce hit hlt
        go_wp2
        have HH := Lib.hid (heap_setCell_same wr (w.heap.size + 1) 0 _ _ (.slice ao out.length co) hr1)
        (try simp only [Exit.inBlock, Exit.then])
        refine bodyPost_ret (results_row_tmp rfl _ _ (w.heap.size + 1) 31 #[.slice ao out.length co] (0, 0) _ rfl HH.out Tryz.underlying31 rfl (by kernel_rfl) rfl) rfl ?_
        have hpz := HM.out.pz
        refine ⟨_, out, true, rfl, (Cgt.goodB_iff.2 ⟨hh, ww, HG.out⟩).symm, fun _ => ?_, own_lowerB (own_keepG HM.out.own (keep_set (p := ⟨w.heap.size + 1, 0, none⟩)) (fun b hb e => by have := (HM.out.own.lt b hb).1; have e' : b = w.heap.size + 1 := e; omega)) (by omega), HM.out.ext.setCell (p := ⟨w.heap.size + 1, 0, none⟩) (by show w.heap.size ≤ w.heap.size + 1; omega) _⟩
        rw [HOUT.out.2, trnB, HG.out.wid, List.take_of_length_le (by simp [Cgt.trn, HCE.out])]
end
end Go.Proofs.YteknjeohbcgpdaaGreatDoor
