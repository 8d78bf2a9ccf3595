/-
  Contract of the program's cuts.
  Contracts of the program's text of a tree.
  The text of a tree, split at its blanks; plain law.
  Contract of the program's treeOf.
-/
import Derived.Test.YtjkdanmpihildaaGreatDoorQ1
import Derived.Test.YtjkdanmpihildaaGreatDoorQ25
import Derived.Test.YtjkdanmpihildaaGreatDoorQ32
import Derived.Lib.AppendIntMem
import Derived.Lib.AtoiErrMem
namespace Go.Proofs.YtjkdanmpihildaaGreatDoor
open Go.RowKit
open Cgt (Dag Nd vl Same)

set_option maxHeartbeats 2000000 in
set_option maxRecDepth 100000 in
theorem cuts_any (vu : Value) (us : List Int) (sb : ByteArray) (left : Bool) (w : World) (hv : Ints w vu us) (g : GT us sb.data.toList) :
    Calls Tryz.prog 23 #[.agg #[vu, .string sb], .bool left] w (CutsPost us sb.data.toList left w) := by
  obtain ⟨i0, hi0, hz0, hz1, hz2⟩ := info_parts info_tree
  obtain ⟨au, capu, rfl, hlc, hcap, hc⟩ := id hv
  have hn8 := g.small
  generalize hn : us.length = n at *
  go_enter Tryz.func23, Tryz.ntmps23
  go_wp2
  have hxb : Ext w (w.alloc (.cells #[.slice au n capu, .string sb] 31)) := by go_grown
  have hbb := heap_alloc_new w (.cells #[.slice au n capu, .string sb] 31)
  have hze : (w.alloc (.cells #[.slice au n capu, .string sb] 31)).heap.size = w.heap.size + 1 := by simp
  generalize w.alloc (.cells #[.slice au n capu, .string sb] 31) = W0 at *
  have hx0 := hxb.size
  have hzb := blk_lt hbb
  have hr0 : (W0.alloc (.cells #[] 31)).ownsRow w.heap.size 31 2 (.slice (some ⟨W0.heap.size, 0, none⟩) 0 0) 0 [] := World.ownsRow_made W0 #[] 0 (by omega) (by decide) (by simp)
  rw [hze] at hr0
  clear hze
  have hxc : Ext w (W0.alloc (.cells #[] 31)) := ext_alloc hxb _
  have hbc : (W0.alloc (.cells #[] 31)).heap[w.heap.size]? = some (.cells #[.slice au n capu, .string sb] 31 (0, 0)) := by rw [Below.heap_alloc _ _ _ hzb]; exact hbb
  go_loopw [5, 6, 11] (fun ov _ ii wr => ∃ k Ts xs, k ≤ n ∧ ii = .int .i64 ((k : Nat) : Int) ∧ Ext w wr ∧ wr.heap[w.heap.size]? = some (.cells #[.slice au n capu, .string sb] 31 (0, 0)) ∧ wr.ownsRow w.heap.size 31 2 ov Ts.length xs ∧ (∀ b, ov.ownBlock = some b → w.heap.size < b) ∧ Items TreeR (KS w wr ov) 2 xs Ts wr ∧ Hid (CutsOf us sb.data.toList left k Ts)) (fun _ _ ii _ => n - (intOf ii).toNat)
  case atStart => exact ⟨0, [], [], Nat.zero_le _, rfl, hxc, hbc, hr0, fun b hb => by simp [Value.ownBlock] at hb; omega, Items.nil fun b hb => hb.2.1, by simp [Hid, CutsOf, edges]⟩
  case round =>
    clear hr0 hxc hbc hbb hxb
    obtain ⟨k, Ts, xs, hk, rfl, hE, hbox, hown, hsep, hit, HT⟩ := hrel
    have c0 := cell_of_row wr w.heap.size 0 _ _ _ hbox
    have c1 := cell_of_row wr w.heap.size 1 _ _ _ hbox
    by_cases hlt : k < n
    · have h1 : ((k : Nat) : Int) < (n : Int) := by omega
      have hsl : k < sb.data.toList.length := by have := g.len; omega
      have hkb : k < sb.size := by have : sb.size = sb.data.size := rfl; simp at hsl; omega
      have hgd : sb.data.toList.getD k 0 = sb[k] := by rw [List.getD_eq_getElem?_getD, List.getElem?_eq_getElem hsl]; rfl
      have h76 : (sb.data.toList.getD k 0 == 76) = (((sb[k].toNat : Nat) : Int) == 76) := by
        rw [hgd, Bool.eq_iff_iff, beq_iff_eq, beq_iff_eq, ← UInt8.toNat_inj]
        constructor
        · intro h; rw [h]; rfl
        · intro h; show sb[k].toNat = 76; omega
      cases hcc : (((((sb[k].toNat : Nat) : Int) == 76)) == left) with
      | false =>
        have HR := Lib.hid (HT.out.skip (by rw [h76]; exact hcc))
        clear h76 hgd
        go_wp2
        go_roundw
        case rel => exact ⟨k + 1, Ts, xs, by omega, by go_num, hE, hbox, hown, hsep, hit, HR.out⟩
        case measure => simp [intOf]; omega
      | true =>
        have HR := fun so => Lib.hid (HT.out.take (so := so) (by rw [h76]; exact hcc))
        clear h76 hgd
        have hlen := HT.out.len
        have hle := (edges_len sb.data.toList k)
        have hTl : Ts.length ≤ k := by rw [hlen]; cases left <;> omega
        clear hlen hle
        obtain ⟨ao, co, rfl, hco, _⟩ := own_len hown
        have hvk := hv.ext hE
        go_wp2_with (first
          | (go_at_call 43; refine (cut_any _ us sb k _ hvk g (by omega)).mono ?_; rintro e w1 ⟨vo, so, rfl, hI, hso, hfr, hx1⟩
             obtain ⟨av, cv, rfl, -⟩ := id hI
             have hit1 := hit.ext hx1
             have hE1 := ext_trans hE hx1
             have hown1 := own_keep hown hx1
             have hzw := hE1.size)
          | (at_builtin; refine app_list rfl (.tmp 21) (.tmp 25) 50 rfl w.heap.size 31 i0 (.agg #[.slice none 0 0, .string ⟨#[]⟩]) 2 40 Tryz.underlying50 hi0 hz0 hz1 hz2 rfl (by decide) (.slice ao Ts.length co) Ts.length xs rfl (hown1.alloc _) _ 1 _ [.slice av (cutU us sb.data.toList k).length cv, .string so] rfl rfl (.inr ⟨_, rfl, two_src (w := w1)⟩) tree_cell (by unfold maxLen; omega) (by omega) (by rw [World.size_alloc]; omega) ?_; intro v5 w5 ho5 hg5 hl5))
        go_roundw
        case rel =>
          have hE5 : Ext w w5 := ext_grown (ext_alloc hE1 _) hg5 (fun b hb => by have := hsep b hb; omega)
          have hbox5 : w5.heap[w.heap.size]? = some (.cells #[.slice au n capu, .string sb] 31 (0, 0)) := by
            have hb1 := hbox
            rw [← hx1.block _ (blk_lt hbox)] at hb1
            rw [hg5.block _ (by rw [World.size_alloc]; have := blk_lt hb1; omega) (fun e => by have := hsep _ e.symm; omega), Below.heap_alloc _ _ _ (blk_lt hb1)]; exact hb1
          have hsep5 : ∀ b, v5.ownBlock = some b → w.heap.size < b := fun b hb => by
            rcases hl5 with h | ⟨q, h, h2⟩
            · exact hsep b (by rw [← h]; exact hb)
            · rw [h] at hb; injection hb with hb; subst hb; rw [World.size_alloc] at h2; have := blk_lt hbox; have := hx1.size; omega
          exact ⟨k + 1, Ts ++ [(cutU us sb.data.toList k, so)], xs ++ [.slice av (cutU us sb.data.toList k).length cv, .string so], by omega, by go_num, hE5, hbox5, by rw [List.length_append]; exact ho5, hsep5, Items.push hit hE hx1 hown rfl (Sup.mono (hI.sup (S := fun b => wr.heap.size ≤ b ∧ b < w1.heap.size) (fun b hb => hb.2) (fun b hb => hfr b hb)) (fun _ h => h) (fun b hb => hb.2) (fun W hW => ⟨av, cv, rfl, hW⟩)) hg5 hl5, (HR so).out hso⟩
        case measure => simp [intOf]; omega
    · have h1 : ¬ (((k : Nat) : Int) < (n : Int)) := by omega
      have hke : k = n := by omega
      subst hke
      have hz := hE.size
      go_wp2
      go_ret
      exact ⟨_, Ts, rfl, Rows.of_own hown rfl hit (fun b hb => ⟨hb.1, hb.2.1⟩) (fun b hb => ⟨by have := hsep b hb; omega, (hown.lt b hb).2⟩) (fun b hb => hb.2), by rw [hn]; exact HT.out, hE⟩

end Go.Proofs.YtjkdanmpihildaaGreatDoor

namespace Go.Proofs.YtjkdanmpihildaaGreatDoor
open Go.RowKit

def Tab10 (w : World) : Prop := Lib.TabBelow Tryz.prog w.heap.size w "internal/strconv.uint64pow10" .u64 Lib.pow10Tab
theorem Tab10.ext {w w' : World} (h : Tab10 w) (hx : Ext w w') : Tab10 w' := fun w2 h2 => h w2 (ext_trans hx h2)

theorem itoa_num (n : Int) (h1 : -1 ≤ n) (h2 : n < 10) : Lib.itoa n = numS n := by
  have : n = -1 ∨ n = 0 ∨ n = 1 ∨ n = 2 ∨ n = 3 ∨ n = 4 ∨ n = 5 ∨ n = 6 ∨ n = 7 ∨ n = 8 ∨ n = 9 := by omega
  rcases this with rfl | rfl | rfl | rfl | rfl | rfl | rfl | rfl | rfl | rfl | rfl <;> (unfold Lib.itoa Lib.decDigits numS; rfl)
theorem Itoa_any (n : Int) (h1 : -1 ≤ n) (h2 : n < 10) (w : World) (hT : Tab10 w) : Calls Tryz.prog 40 #[.int .i64 n] w fun e w' => e = .returned (.string (numB n)) ∧ Ext w w' := by
  refine (Tryz.strconv_Itoa n (by omega) (by omega) w hT.here).mono ?_
  rintro e w' ⟨rfl, k, os, rfl⟩
  exact ⟨by rw [itoa_num n h1 h2]; rfl, Lib.below_grow _ w (Nat.le_refl _) k os⟩

theorem numS_len (n : Int) : (numS n).length ≤ 2 := by unfold numS; split <;> simp
theorem txt_len (c : UInt8) : ∀ us : List Int, (txt c us).length ≤ 3 * us.length
  | [] => by simp [txt]
  | u :: us => by have := txt_len c us; have := numS_len u; simp [txt]; omega
theorem txt_take (c : UInt8) (us : List Int) (k : Nat) (h : k < us.length) : txt c (us.take (k + 1)) = txt c (us.take k) ++ (c :: numS (zat us k)) := by
  rw [List.take_succ_eq_append_getElem h, txt_snoc, ← zat_lt h]

set_option maxHeartbeats 2000000 in
theorem text_any (v : Value) (us : List Int) (sb : ByteArray) (w : World) (hv : Ints w v us) (g : GT us sb.data.toList) (hT : Tab10 w) :
    Calls Tryz.prog 20 #[.agg #[v, .string sb]] w fun e w' => ∃ so, e = .returned (.string so) ∧ so.data.toList = sb.data.toList ++ txt 32 us ∧ Ext w w' := by
  obtain ⟨a, cap, rfl, hcap, hml, hcells⟩ := id hv
  have hn8 := g.small
  have hxb : Ext w (w.alloc (.cells #[.slice a us.length cap, .string sb] 31)) := by go_grown
  have hs8 : sb.size ≤ 8 := by have := g.len; have e : sb.size = sb.data.size := rfl; simp at this; omega
  go_enter Tryz.func20, Tryz.ntmps20
  go_wp2
  generalize w.alloc (.cells #[.slice a us.length cap, .string sb] 31) = W at *
  go_loopw [3, 5, 11] (fun sv _ ii wr => ∃ k so, k ≤ us.length ∧ ii = .int .i64 ((k : Nat) : Int) ∧ sv = .string so ∧ so.data.toList = sb.data.toList ++ txt 32 (us.take k) ∧ Ext w wr) (fun _ _ ii _ => us.length - (intOf ii).toNat)
  case atStart => exact ⟨0, sb, Nat.zero_le _, rfl, rfl, by simp [txt], hxb⟩
  case round =>
    clear hxb
    obtain ⟨k, so, hk, rfl, rfl, hso, hE⟩ := hrel
    by_cases hlt : k < us.length
    · have h1 : ((k : Nat) : Int) < ((us.length : Nat) : Int) := by omega
      obtain ⟨b, off, rfl, hcell⟩ := hcells (by omega)
      have hck := hcell k hlt
      have hck1 := (hE.cell (lt_of_cell hck)).trans hck
      have hu := g.up k hlt
      have hso1 : so.size ≤ 8 + 3 * 8 := by
        have e : so.size = so.data.size := rfl
        have := congrArg List.length hso
        have h3 := txt_len 32 (us.take k)
        rw [List.length_append] at this
        rw [List.length_take] at h3
        have e2 : sb.size = sb.data.size := rfl
        simp at this; omega
      have hnb : (numB (zat us k)).size ≤ 2 := by have := numS_len (zat us k); unfold numB; simpa [ByteArray.size] using this
      have HC1 := fun W : World => run_string_add_sum (P := Tryz.prog) (w := W) ⟨#[32]⟩ (numB (zat us k)) (by have : (⟨#[32]⟩ : ByteArray).size = 1 := rfl; omega)
      have hs3 : ((⟨#[32]⟩ : ByteArray) ++ numB (zat us k)).size ≤ 3 := by rw [ByteArray.size_append]; have : (⟨#[32]⟩ : ByteArray).size = 1 := rfl; omega
      have HC2 := fun W : World => run_string_add_sum (P := Tryz.prog) (w := W) so ((⟨#[32]⟩ : ByteArray) ++ numB (zat us k)) (by omega)
      have HS : Hid ((so ++ ((⟨#[32]⟩ : ByteArray) ++ numB (zat us k))).data.toList = sb.data.toList ++ txt 32 (us.take (k + 1))) := by
        show _ = _
        rw [txt_take _ _ _ hlt, ByteArray.data_append, Array.toList_append, hso, ByteArray.data_append, Array.toList_append, numB_list, List.append_assoc]; rfl
      clear hs3 hnb hso1 hso
      go_wp2_with (go_at_call 40; refine (Itoa_any _ (by omega) (by omega) _ (hT.ext hE)).mono ?_; rintro e w1 ⟨rfl, hx1⟩)
      go_roundw
      case rel => exact ⟨k + 1, _, by omega, by go_num, rfl, HS.out, ext_trans hE hx1⟩
      case measure => simp [intOf]; omega
    · have h1 : ¬ (((k : Nat) : Int) < ((us.length : Nat) : Int)) := by omega
      have hke : k = us.length := by omega
      go_wp2
      go_ret
      exact ⟨so, rfl, by rw [hso, hke, List.take_length], hE⟩

end Go.Proofs.YtjkdanmpihildaaGreatDoor

namespace Go.Proofs.YtjkdanmpihildaaGreatDoor
open Go.RowKit

theorem indexByte_app {c : UInt8} : ∀ {a : List UInt8} (r : List UInt8), c ∉ a → Lib.indexByte (a ++ c :: r) c = (a.length : Int)
  | [], r, _ => by simp [Lib.indexByte]
  | b :: a, r, h => by
    have hb : (b == c) = false := by rw [beq_eq_false_iff_ne]; rintro rfl; exact h (List.mem_cons_self ..)
    have ih := indexByte_app (a := a) r (fun e => h (List.mem_cons_of_mem _ e))
    rw [List.cons_append, Lib.indexByte, hb, ih]
    have : ((a.length : Int) == -1) = false := by simp
    simp [this]
theorem splitK_none {c : UInt8} {a : List UInt8} (h : c ∉ a) : Lib.splitK [c] 0 (Lib.count a [c]) a = [a] := by
  rw [Lib.count_one, List.count_eq_zero.2 h]; rfl
theorem splitK_cons {c : UInt8} {a r : List UInt8} (h : c ∉ a) : Lib.splitK [c] 0 (Lib.count (a ++ c :: r) [c]) (a ++ c :: r) = a :: Lib.splitK [c] 0 (Lib.count r [c]) r := by
  have e : Lib.count (a ++ c :: r) [c] = Lib.count r [c] + 1 := by
    rw [Lib.count_one, Lib.count_one, List.count_append, List.count_eq_zero.2 h, List.count_cons_self]; omega
  rw [e, Lib.splitK, Lib.index_one, indexByte_app r h]
  have : ((a.length : Int) == -1) = false := by simp
  rw [this]
  simp
theorem numS_no32 (u : Int) (h1 : -1 ≤ u) (h2 : u < 10) : (32 : UInt8) ∉ numS u := by
  have : u = -1 ∨ u = 0 ∨ u = 1 ∨ u = 2 ∨ u = 3 ∨ u = 4 ∨ u = 5 ∨ u = 6 ∨ u = 7 ∨ u = 8 ∨ u = 9 := by omega
  rcases this with rfl | rfl | rfl | rfl | rfl | rfl | rfl | rfl | rfl | rfl | rfl <;> decide
theorem split_txt : ∀ {us : List Int} {a : List UInt8}, (32 : UInt8) ∉ a → (∀ u, u ∈ us → -1 ≤ u ∧ u < 10) → Lib.splitK [32] 0 (Lib.count (a ++ txt 32 us) [32]) (a ++ txt 32 us) = a :: us.map numS
  | [], a, h, _ => by simp only [txt, List.append_nil, List.map_nil]; exact splitK_none h
  | u :: us, a, h, hu => by
    have e : a ++ txt 32 (u :: us) = a ++ 32 :: (numS u ++ txt 32 us) := by simp [txt]
    rw [e, splitK_cons h, split_txt (numS_no32 u (hu u (by simp)).1 (hu u (by simp)).2) (fun v hv => hu v (by simp [hv]))]; rfl
theorem count_txt {us : List Int} {a : List UInt8} (h : (32 : UInt8) ∉ a) (hu : ∀ u, u ∈ us → -1 ≤ u ∧ u < 10) : Lib.count (a ++ txt 32 us) [32] = us.length := by
  induction us generalizing a with
  | nil => rw [Lib.count_one, txt, List.append_nil, List.count_eq_zero.2 h]; rfl
  | cons u us ih =>
    have e : a ++ txt 32 (u :: us) = a ++ 32 :: (numS u ++ txt 32 us) := by simp [txt]
    have h3 := ih (a := numS u) (numS_no32 u (hu u (by simp)).1 (hu u (by simp)).2) (fun v hv => hu v (by simp [hv]))
    rw [Lib.count_one] at h3 ⊢
    rw [e, List.count_append, List.count_eq_zero.2 h, List.count_cons_self, h3]; simp
theorem GT.no32 {us : List Int} {s : List UInt8} (g : GT us s) : (32 : UInt8) ∉ s := fun h => by rcases g.sign _ h with h | h <;> cases h
theorem GT.ups {us : List Int} {s : List UInt8} (g : GT us s) : ∀ u, u ∈ us → -1 ≤ u ∧ u < 10 := fun u hu => by
  obtain ⟨i, hi, rfl⟩ := List.mem_iff_getElem.1 hu
  have := g.up i hi
  have := g.small
  rw [zat_lt hi] at *
  omega

theorem split_text {us : List Int} {sg : List UInt8} {s : ByteArray} (g : GT us sg) (hs : s.data.toList = sg ++ txt 32 us) :
    Lib.countB s ⟨#[32]⟩ = us.length ∧ (Lib.splitB ⟨#[32]⟩ 0 (Lib.countB s ⟨#[32]⟩) s).map (·.data.toList) = sg :: us.map numS := by
  have hc : Lib.countB s ⟨#[32]⟩ = Lib.count (sg ++ txt 32 us) [32] := by unfold Lib.countB; rw [hs]
  refine ⟨by rw [hc, count_txt g.no32 g.ups], ?_⟩
  rw [Lib.splitB_data, hs, hc]
  exact split_txt g.no32 g.ups
theorem atoi_num (u : Int) (h1 : -1 ≤ u) (h2 : u < 10) : Lib.atoi (numS u) = some u := by
  have : u = -1 ∨ u = 0 ∨ u = 1 ∨ u = 2 ∨ u = 3 ∨ u = 4 ∨ u = 5 ∨ u = 6 ∨ u = 7 ∨ u = 8 ∨ u = 9 := by omega
  rcases this with rfl | rfl | rfl | rfl | rfl | rfl | rfl | rfl | rfl | rfl | rfl <;> decide

end Go.Proofs.YtjkdanmpihildaaGreatDoor

namespace Go.Proofs.YtjkdanmpihildaaGreatDoor
open Go.RowKit

def Glb (w : World) : Prop := Tab10 w ∧ ∃ m, w.cell? ⟨3, 0, none⟩ = some (.int .i64 m)
theorem Glb.ext {w w' : World} (h : Glb w) (hx : Ext w w') : Glb w' := by
  obtain ⟨h1, m, h2⟩ := h
  exact ⟨h1.ext hx, m, (hx.cell (lt_of_cell h2)).trans h2⟩

structure TO (w wr : World) (ws : Array Value) (vo : Value) (ou : List Int) (so : ByteArray) : Prop where
  ext : Ext w wr
  res : wr.heap[w.heap.size]? = some (.cells #[.slice none 0 0, .string ⟨#[]⟩] 31 (0, 0))
  row : wr.heap[w.heap.size + 1]? = some (.cells ws 9 (0, 0))
  out : wr.heap[w.heap.size + 1 + 1]? = some (.cells #[vo, .string so] 31 (0, 0))
  ou : wr.ownsRow w.heap.size 3 1 vo ou.length (ou.map (Value.int .i64))
  sep : ∀ b, vo.ownBlock = some b → w.heap.size + 1 + 1 < b

theorem TO.keep {w wr w1 : World} {ws : Array Value} {vo : Value} {ou : List Int} {so : ByteArray} (h : TO w wr ws vo ou so) (hx : Ext wr w1) : TO w w1 ws vo ou so :=
  ⟨ext_trans h.ext hx, (hx.block _ (blk_lt h.res)).trans h.res, (hx.block _ (blk_lt h.row)).trans h.row, (hx.block _ (blk_lt h.out)).trans h.out, own_keep h.ou hx, h.sep⟩
theorem TO.put {w wr w1 : World} {ws : Array Value} {vo vo' : Value} {ou : List Int} {so : ByteArray} {X : Obj} {x : Int} (h : TO w wr ws vo ou so)
    (ho : w1.ownsRow w.heap.size 3 1 vo' (ou.length + 1) (ou.map (Value.int .i64) ++ [.int .i64 x])) (hg : (wr.alloc X).grownBy w1 vo.ownBlock) (hl : Lies (wr.alloc X) vo vo') :
    TO w (w1.setCell ⟨w.heap.size + 1 + 1, 0, none⟩ vo') ws vo' (ou ++ [x]) so ∧ w1.cell? ⟨w.heap.size + 1 + 1, 0, none⟩ = some vo ∧ w1.frozen? ⟨w.heap.size + 1 + 1, 0, none⟩ = false := by
  have hz := blk_lt h.res
  have z1 := blk_lt h.row
  have z2 := blk_lt h.out
  have zz := hg.size
  rw [World.size_alloc] at zz
  have hbk : ∀ k, k < w.heap.size + 1 + 1 + 1 → w1.heap[k]? = wr.heap[k]? := fun k hk => by
    rw [hg.block k (by rw [World.size_alloc]; omega) (fun e => by have := h.sep k e.symm; omega), Below.heap_alloc _ _ _ (by omega)]
  have hsep' : ∀ b, vo'.ownBlock = some b → w.heap.size + 1 + 1 < b := fun b hb => by
    rcases hl with h1 | ⟨g, h1, h2⟩
    · exact h.sep b (by rw [← h1]; exact hb)
    · rw [h1] at hb; injection hb with hb; subst hb; rw [World.size_alloc] at h2; omega
  have hx : w1.heap[w.heap.size + 1 + 1]? = some (.cells #[vo, .string so] 31 (0, 0)) := by rw [hbk _ (by omega)]; exact h.out
  refine ⟨?_, cell_of_row w1 (w.heap.size + 1 + 1) 0 _ _ _ hx, frozen_of_row w1 (w.heap.size + 1 + 1) 0 _ _ hx⟩
  refine ⟨(ext_grown (ext_alloc h.ext X) hg (fun k hk => by have := h.sep k hk; omega)).setCell (p := ⟨w.heap.size + 1 + 1, 0, none⟩) (by show w.heap.size ≤ w.heap.size + 1 + 1; omega) _, ?_, ?_, ?_, ?_, hsep'⟩
  · rw [heap_setCell_other _ _ _ _ (by simp <;> omega), hbk _ (by omega)]; exact h.res
  · rw [heap_setCell_other _ _ _ _ (by simp <;> omega), hbk _ (by omega)]; exact h.row
  · have := h.out; rw [← hbk _ (by omega)] at this
    exact heap_setCell_same _ _ _ _ _ _ this
  · have : (ou ++ [x]).map (Value.int .i64) = ou.map (Value.int .i64) ++ [.int .i64 x] := by simp
    rw [this, List.length_append]
    exact own_keepG ho (keep_set (p := ⟨w.heap.size + 1 + 1, 0, none⟩)) (fun b hb e => by have := hsep' b hb; simp at e; omega)

theorem Atoi_any (s : ByteArray) (u : Int) (h1 : -1 ≤ u) (h2 : u < 10) (hs : s.data.toList = numS u) (w : World) : Calls Tryz.prog 42 #[.string s] w fun e w' => e = .returned (.tuple #[.int .i64 u, .nilIface]) ∧ Ext w w' := by
  have hl : s.size ≤ 18 := by have := numS_len u; rw [← hs] at this; have e : s.size = s.data.size := rfl; simp at this; omega
  refine (Tryz.strconv_Atoi s u hl (by rw [hs]; exact atoi_num u h1 h2) w).mono ?_
  rintro e w' ⟨rfl, t, rfl⟩
  exact ⟨rfl, Lib.bytesWorld_below _ _ _⟩

def TreePost (us : List Int) (sg : List UInt8) (w : World) (en : Ending) (w' : World) : Prop :=
  ∃ vo so, en = .returned (.agg #[vo, .string so]) ∧ Ints w' vo us ∧ so.data.toList = sg ∧ (∀ b, vo.ownBlock = some b → w.heap.size ≤ b ∧ b < w'.heap.size) ∧ Ext w w'

theorem Split_text (s : ByteArray) (us : List Int) (sg : List UInt8) (g : GT us sg) (hs : s.data.toList = sg ++ txt 32 us) (w : World) (hG : Glb w) :
    Calls Tryz.prog 41 #[.string s, .string ⟨#[32]⟩] w fun e w' => ∃ ws : List ByteArray, e = .returned (.slice (some ⟨w.heap.size, 0, none⟩) (us.length + 1) (us.length + 1)) ∧ w' = w.alloc (.cells (ws.map Value.string).toArray 9) ∧ ws.map (·.data.toList) = sg :: us.map numS := by
  obtain ⟨m, hm⟩ := hG.2
  have h8 := g.small
  have hl := txt_len 32 us
  have hsz : s.size < 4294967281 := by
    have e : s.size = s.data.size := rfl
    have h1 := congrArg List.length hs
    have h2 := g.len
    rw [List.length_append] at h1
    simp at h1; omega
  have ⟨e1, e2⟩ := split_text g hs
  refine (Tryz.strings_Split s ⟨#[32]⟩ m w hsz hm (by decide)).mono ?_
  rintro e w' ⟨rfl, rfl⟩
  exact ⟨_, by rw [e1], rfl, e2⟩

set_option maxHeartbeats 2000000 in
set_option maxRecDepth 100000 in
theorem treeOf_any (s : ByteArray) (us : List Int) (sg : List UInt8) (g : GT us sg) (hs : s.data.toList = sg ++ txt 32 us) (w : World) (hG : Glb w) :
    Calls Tryz.prog 22 #[.string s] w (TreePost us sg w) := by
  obtain ⟨i0, hi0, hz0, hz1, hz2⟩ := info_parts info_int
  have hn8 := g.small
  have hx0 : Ext w (w.alloc (.cells #[.slice none 0 0, .string ⟨#[]⟩] 31)) := by go_grown
  have hb0 := heap_alloc_new w (.cells #[.slice none 0 0, .string ⟨#[]⟩] 31)
  have hz : (w.alloc (.cells #[.slice none 0 0, .string ⟨#[]⟩] 31)).heap.size = w.heap.size + 1 := by simp
  go_enter Tryz.func22, Tryz.ntmps22
  go_upto_region 2 with (go_at_call 41; refine (Split_text s us sg g hs _ (hG.ext hx0)).mono ?_; rintro e w1 ⟨ws, rfl, rfl, hws⟩)
  generalize hW0 : w.alloc (.cells #[.slice none 0 0, .string ⟨#[]⟩] 31) = W0 at *
  obtain ⟨s0, ws1, rfl⟩ : ∃ s0 ws1, ws = s0 :: ws1 := by cases ws with
    | nil => simp at hws
    | cons a b => exact ⟨a, b, rfl⟩
  rw [List.map_cons, List.cons.injEq] at hws
  obtain ⟨hs0, hws1⟩ := hws
  have hlen : ws1.length = us.length := by have := congrArg List.length hws1; simpa using this
  have hb1 := heap_alloc_new W0 (.cells ((s0 :: ws1).map Value.string).toArray 9)
  have hb0' : (W0.alloc (.cells ((s0 :: ws1).map Value.string).toArray 9)).heap[w.heap.size]? = some (.cells #[.slice none 0 0, .string ⟨#[]⟩] 31 (0, 0)) := by rw [Below.heap_alloc _ _ _ (blk_lt hb0)]; exact hb0
  have hx1 := ext_alloc hx0 (.cells ((s0 :: ws1).map Value.string).toArray 9)
  have hz1' : (W0.alloc (.cells ((s0 :: ws1).map Value.string).toArray 9)).heap.size = w.heap.size + 1 + 1 := by rw [World.size_alloc, hz]
  rw [hz] at hb1
  have hwl : ((s0 :: ws1).map Value.string).toArray.size = us.length + 1 := by simp [hlen]
  have hwi : ∀ i u, ws1[i]? = some u → ((s0 :: ws1).map Value.string).toArray[1 + i]? = some (.string u) := fun i u h => by rw [Nat.add_comm 1 i]; simp [h]
  have hw0 : ((s0 :: ws1).map Value.string).toArray[0]? = some (.string s0) := by simp
  generalize ((s0 :: ws1).map Value.string).toArray = WS at *
  generalize W0.alloc (.cells WS 9) = W1 at *
  have c00 := (cell_of_row W1 (w.heap.size + 1) 0 _ _ _ hb1).trans hw0
  have hTO : TO w (W1.alloc (.cells #[.slice none 0 0, .string s0] 31)) WS (.slice none 0 0) [] s0 := by
    refine ⟨ext_alloc hx1 _, ?_, ?_, ?_, ⟨by simp, .inl ⟨rfl, rfl⟩⟩, by simp [Value.ownBlock]⟩
    · rw [Below.heap_alloc _ _ _ (blk_lt hb0')]; exact hb0'
    · rw [Below.heap_alloc _ _ _ (blk_lt hb1)]; exact hb1
    · have h := heap_alloc_new W1 (.cells #[.slice none 0 0, .string s0] 31); rw [hz1'] at h; exact h
  by_cases hnz : us.length = 0
  · rw [hnz]
    have HN := Lib.hid hnz
    go_wp2
    generalize W1.alloc (.cells #[.slice none 0 0, .string s0] 31) = W2 at *
    go_loopw [6, 7, 8, 18] (fun _ _ _ ii wr => ii = .int .i64 0 ∧ TO w wr WS (.slice none 0 0) [] s0) (fun _ _ _ _ _ => 0)
    case atStart => exact ⟨rfl, hTO⟩
    case round =>
      clear hTO
      obtain ⟨rfl, hM⟩ := hrel
      generalize hvo : Value.slice none 0 0 = vo at hM
      obtain ⟨q, hke⟩ : ∃ q, q = us.length := ⟨_, rfl⟩
      have hou : ([] : List Int) = us.take q := by rw [hke, List.take_length]; exact (List.length_eq_zero_iff.1 HN.out).symm
      generalize hoo : ([] : List Int) = ou at hM hou
      clear hnz hoo
      clear hvo
      have HOU := Lib.hid hou
      have HKE := Lib.hid hke
      clear hou hke
      have c0 := cell_of_row wr (w.heap.size + 1 + 1) 0 _ _ _ hM.out
      have c1 := cell_of_row wr (w.heap.size + 1 + 1) 1 _ _ _ hM.out
      have r0 := cell_of_row wr w.heap.size 0 _ _ _ hM.res
      have r1 := cell_of_row wr w.heap.size 1 _ _ _ hM.res
      have f0 := frozen_of_row wr w.heap.size 0 _ _ hM.res
      have f1 := frozen_of_row wr w.heap.size 1 _ _ hM.res
      obtain ⟨av, cv, rfl, -⟩ := own_len hM.ou
      have HM := Lib.hid hM
      have hr := hM.res
      have HH : Hid (((wr.setCell ⟨w.heap.size, 0, none⟩ (.slice av ou.length cv)).setCell ⟨w.heap.size, 1, none⟩ (.string s0)).heap[w.heap.size]? = some (.cells #[.slice av ou.length cv, .string s0] 31 (0, 0))) :=
        heap_setCell_same _ _ _ _ _ _ (heap_setCell_same _ _ _ _ _ _ hr)
      clear hM hr
      go_wp2
      (try simp only [Exit.inBlock, Exit.then])
      refine bodyPost_ret (results_cell_row rfl _ _ w.heap.size 31 #[.slice av ou.length cv, .string s0] (0, 0) _ rfl HH.out Tryz.underlying31 rfl (by kernel_rfl)) rfl ?_
      have hM := HM.out
      have hou := HOU.out
      have hke := HKE.out
      have hI := Ints.of_own hM.ou (by rw [hou, List.length_take]; omega)
      have hsz := hM.ou.lt
      refine ⟨_, s0, rfl, ?_, hs0, fun b hb => ⟨by have := hM.sep b hb; omega, by simp; exact (hsz b hb).2⟩, (hM.ext.setCell (p := ⟨w.heap.size, 0, none⟩) (Nat.le_refl _) _).setCell (p := ⟨w.heap.size, 1, none⟩) (Nat.le_refl _) _⟩
      have e : ou = us := by rw [hou, hke, List.take_length]
      clear hou HOU HKE hke
      subst e
      exact hI.keep (fun b _ hb => by rw [heap_setCell_other _ _ _ _ (by have := hM.sep b hb; simp <;> omega), heap_setCell_other _ _ _ _ (by have := hM.sep b hb; simp <;> omega)])
  · have hnz1 : ¬ (us.length + 1 = 1) := by omega
    go_wp2
    generalize W1.alloc (.cells #[.slice none 0 0, .string s0] 31) = W2 at *
    go_loopw [6, 7, 8, 18] (fun _ _ _ ii wr => ∃ k vo ou, k ≤ us.length ∧ ii = .int .i64 ((k : Nat) : Int) ∧ TO w wr WS vo ou s0 ∧ ou = us.take k) (fun _ _ _ ii _ => us.length - (intOf ii).toNat)
    case atStart => exact ⟨0, _, _, Nat.zero_le _, rfl, hTO, rfl⟩
    case round =>
      clear hTO hb0 hb1 hb0' hx1
      obtain ⟨k, vo, ou, hk, rfl, hM, hou⟩ := hrel
      by_cases hlt : k < us.length
      · have h1 : ((k : Nat) : Int) < ((us.length : Nat) : Int) := by omega
        have hol : ou.length ≤ us.length := by rw [hou, List.length_take]; omega
        have HOU := Lib.hid hou
        clear hou
        have hk1 : k < ws1.length := by omega
        have hwk := hwi k _ (List.getElem?_eq_getElem hk1)
        have hwd : (ws1[k]).data.toList = numS (zat us k) := by
          have := congrArg (fun l => l[k]?) hws1
          simp only [List.getElem?_map, List.getElem?_eq_getElem hk1, List.getElem?_eq_getElem hlt, Option.map_some, Option.some.injEq] at this
          rw [this, zat_lt hlt]
        generalize ws1[k] = sk at *
        have ck := (cell_of_row wr (w.heap.size + 1) (1 + k) _ _ _ hM.row).trans hwk
        have hu := g.up k hlt
        obtain ⟨av, cv, rfl, hcv, _⟩ := own_len hM.ou
        have HW := Lib.hid hwd
        clear hwd hwk
        go_upto_region 7 with (go_at_call 42; refine (Atoi_any _ _ (by omega) (by omega) HW.out _).mono ?_; rintro e w1 ⟨rfl, hx2⟩)
        have hM1 := hM.keep hx2
        have c0 := cell_of_row w1 (w.heap.size + 1 + 1) 0 _ _ _ hM1.out
        have hE2 := hM1.ext.size
        clear hM ck
        go_upto_region 8 with (at_builtin; (refine app_list rfl (.tmp 28) (.tmp 30) 22 rfl w.heap.size 3 i0 (.int .i64 0) 1 8 Tryz.underlying22 hi0 hz0 hz1 hz2 rfl (by decide) (.slice av ou.length cv) ou.length (ou.map (Value.int .i64)) rfl (hM1.ou.alloc _) _ 1 _ [.int .i64 (zat us k)] rfl rfl (.inr ⟨_, rfl, one_src (new_cell _ _ _)⟩) one_cell (by unfold maxLen; omega) (by omega) (by rw [World.size_alloc]; omega) ?_; intro v5 w5 ho5 hg5 hl5; obtain ⟨a5, c5, rfl, -⟩ := own_len ho5; obtain ⟨hM3, c50, f50⟩ := hM1.put ho5 hg5 hl5))
        generalize w5.setCell ⟨w.heap.size + 1 + 1, 0, none⟩ (.slice a5 (ou.length + 1) c5) = W3 at *
        have HM := Lib.hid hM3
        clear hM3 hM1
        go_wp2_with (fail)
        go_roundw
        case rel => exact ⟨k + 1, _, _, by omega, by go_num, HM.out, by rw [HOU.out, take_zat hlt]⟩
        case measure => simp [intOf]; omega
      · have h1 : ¬ (((k : Nat) : Int) < ((us.length : Nat) : Int)) := by omega
        have hke : k = us.length := by omega
        have HOU := Lib.hid hou
        have HKE := Lib.hid hke
        clear hou hke
        have c0 := cell_of_row wr (w.heap.size + 1 + 1) 0 _ _ _ hM.out
        have c1 := cell_of_row wr (w.heap.size + 1 + 1) 1 _ _ _ hM.out
        have r0 := cell_of_row wr w.heap.size 0 _ _ _ hM.res
        have r1 := cell_of_row wr w.heap.size 1 _ _ _ hM.res
        have f0 := frozen_of_row wr w.heap.size 0 _ _ hM.res
        have f1 := frozen_of_row wr w.heap.size 1 _ _ hM.res
        obtain ⟨av, cv, rfl, -⟩ := own_len hM.ou
        have HM := Lib.hid hM
        have hr := hM.res
        have HH : Hid (((wr.setCell ⟨w.heap.size, 0, none⟩ (.slice av ou.length cv)).setCell ⟨w.heap.size, 1, none⟩ (.string s0)).heap[w.heap.size]? = some (.cells #[.slice av ou.length cv, .string s0] 31 (0, 0))) :=
          heap_setCell_same _ _ _ _ _ _ (heap_setCell_same _ _ _ _ _ _ hr)
        clear hM hr
        go_wp2
        (try simp only [Exit.inBlock, Exit.then])
        refine bodyPost_ret (results_cell_row rfl _ _ w.heap.size 31 #[.slice av ou.length cv, .string s0] (0, 0) _ rfl HH.out Tryz.underlying31 rfl (by kernel_rfl)) rfl ?_
        have hM := HM.out
        have hou := HOU.out
        have hke := HKE.out
        have hI := Ints.of_own hM.ou (by rw [hou, List.length_take]; omega)
        have hsz := hM.ou.lt
        refine ⟨_, s0, rfl, ?_, hs0, fun b hb => ⟨by have := hM.sep b hb; omega, by simp; exact (hsz b hb).2⟩, (hM.ext.setCell (p := ⟨w.heap.size, 0, none⟩) (Nat.le_refl _) _).setCell (p := ⟨w.heap.size, 1, none⟩) (Nat.le_refl _) _⟩
        have e : ou = us := by rw [hou, hke, List.take_length]
        clear hou HOU HKE hke
        subst e
        exact hI.keep (fun b _ hb => by rw [heap_setCell_other _ _ _ _ (by have := hM.sep b hb; simp <;> omega), heap_setCell_other _ _ _ _ (by have := hM.sep b hb; simp <;> omega)])

end Go.Proofs.YtjkdanmpihildaaGreatDoor
