/-
  Contract of the reference's l22Cut.
-/
import Derived.Test.YtjkdanmpihildaaGreatDoorQ15
import Derived.Test.YtjkdanmpihildaaGreatDoorQ23
import Derived.Deep.DeepCutAuto
import Derived.Deep.CutBlock
import Derived.Laws.Concat
namespace Go.Proofs.YtjkdanmpihildaaGreatDoor
open Go.RowKit
open Cgt (Dag Nd vl Same)

def CutPost (us : List Int) (s : List UInt8) (e : Nat) (w : World) (en : Ending) (w' : World) : Prop :=
  ∃ vo so, en = .returned (.agg #[vo, .string so]) ∧ Ints w' vo (cutU us s e) ∧ so.data.toList = cutS us s e ∧ (∀ b, vo.ownBlock = some b → w.heap.size ≤ b ∧ b < w'.heap.size) ∧ Ext w w'

structure CM (w wr : World) (vu : Value) (sb : ByteArray) (n : Nat) (al : List Int) (vo : Value) (ou : List Int) (so : ByteArray) : Prop where
  ext : Ext w wr
  box : wr.heap[w.heap.size]? = some (.cells #[vu, .string sb] 31 (0, 0))
  res : wr.heap[w.heap.size + 1]? = some (.cells #[.slice none 0 0, .string ⟨#[]⟩] 31 (0, 0))
  out : wr.heap[w.heap.size + 1 + 1]? = some (.cells #[vo, .string so] 31 (0, 0))
  at_ : wr.ownsRow w.heap.size 3 1 (.slice (some ⟨w.heap.size + 1 + 1 + 1, 0, none⟩) n n) n (al.map (Value.int .i64))
  ou : wr.ownsRow w.heap.size 3 1 vo ou.length (ou.map (Value.int .i64))
  sep : ∀ b, vo.ownBlock = some b → w.heap.size + 1 + 1 + 1 < b

theorem CM.set {w wr : World} {vu : Value} {sb : ByteArray} {n : Nat} {al : List Int} {vo : Value} {ou : List Int} {so : ByteArray} (h : CM w wr vu sb n al vo ou so) (k : Nat) (x : Int) :
    CM w (wr.setCell ⟨w.heap.size + 1 + 1 + 1, k, none⟩ (.int .i64 x)) vu sb n (al.set k x) vo ou so := by
  have hs := (h.at_.stored k (.int .i64 x)).1
  rw [← List.map_set] at hs
  refine ⟨h.ext.setCell (p := ⟨w.heap.size + 1 + 1 + 1, k, none⟩) (by show w.heap.size ≤ w.heap.size + 1 + 1 + 1; omega) _, ?_, ?_, ?_, hs, ?_, h.sep⟩
  · rw [heap_setCell_other _ _ _ _ (by simp <;> omega)]; exact h.box
  · rw [heap_setCell_other _ _ _ _ (by simp <;> omega)]; exact h.res
  · rw [heap_setCell_other _ _ _ _ (by simp <;> omega)]; exact h.out
  · exact own_keepG h.ou (keep_set (p := ⟨w.heap.size + 1 + 1 + 1, k, none⟩)) (fun b hb e => by have := h.sep b hb; simp at e; omega)

theorem CM.put {w wr w1 : World} {vu : Value} {sb : ByteArray} {n : Nat} {al : List Int} {vo vo' : Value} {ou : List Int} {so : ByteArray} {X : Obj} {x : Int} (h : CM w wr vu sb n al vo ou so)
    (ho : w1.ownsRow w.heap.size 3 1 vo' (ou.length + 1) (ou.map (Value.int .i64) ++ [.int .i64 x])) (hg : (wr.alloc X).grownBy w1 vo.ownBlock) (hl : Lies (wr.alloc X) vo vo') :
    CM w (w1.setCell ⟨w.heap.size + 1 + 1, 0, none⟩ vo') vu sb n al vo' (ou ++ [x]) so ∧ w1.cell? ⟨w.heap.size + 1 + 1, 0, none⟩ = some vo ∧ w1.frozen? ⟨w.heap.size + 1 + 1, 0, none⟩ = false := by
  have hz := blk_lt h.box
  have z1 := blk_lt h.res
  have z2 := blk_lt h.out
  have z3 := (h.at_.lt (w.heap.size + 1 + 1 + 1) rfl).2
  have zz := hg.size
  rw [World.size_alloc] at zz
  have hbk : ∀ k, k < w.heap.size + 4 → w1.heap[k]? = wr.heap[k]? := fun k hk => by
    rw [hg.block k (by rw [World.size_alloc]; omega) (fun e => by have := h.sep k e.symm; omega), Below.heap_alloc _ _ _ (by omega)]
  have hsep' : ∀ b, vo'.ownBlock = some b → w.heap.size + 1 + 1 + 1 < b := fun b hb => by
    rcases hl with h1 | ⟨g, h1, h2⟩
    · exact h.sep b (by rw [← h1]; exact hb)
    · rw [h1] at hb; injection hb with hb; subst hb; rw [World.size_alloc] at h2; omega
  have hx : w1.heap[w.heap.size + 1 + 1]? = some (.cells #[vo, .string so] 31 (0, 0)) := by rw [hbk _ (by omega)]; exact h.out
  refine ⟨?_, cell_of_row w1 (w.heap.size + 1 + 1) 0 _ _ _ hx, frozen_of_row w1 (w.heap.size + 1 + 1) 0 _ _ hx⟩
  refine ⟨(ext_grown (ext_alloc h.ext X) hg (fun k hk => by have := h.sep k hk; omega)).setCell (p := ⟨w.heap.size + 1 + 1, 0, none⟩) (by show w.heap.size ≤ w.heap.size + 1 + 1; omega) _, ?_, ?_, ?_, ?_, ?_, hsep'⟩
  · rw [heap_setCell_other _ _ _ _ (by simp <;> omega), hbk _ (by omega)]; exact h.box
  · rw [heap_setCell_other _ _ _ _ (by simp <;> omega), hbk _ (by omega)]; exact h.res
  · have := h.out; rw [← hbk _ (by omega)] at this
    exact heap_setCell_same _ _ _ _ _ _ this
  · refine own_keepG (own_keepG (own_keep h.at_ (ext_alloc (Below.refl _ _) X)) (G := fun b => vo.ownBlock = some b) ⟨hg.os, hg.tape, hg.output, hg.size, fun k hk hn => hg.block k hk (fun e => hn e.symm)⟩ (fun b hb e => ?_)) (keep_set (p := ⟨w.heap.size + 1 + 1, 0, none⟩)) (fun b hb e => ?_)
    · have := h.sep b e; simp [Value.ownBlock] at hb; omega
    · simp [Value.ownBlock] at hb; simp at e; omega
  · have : (ou ++ [x]).map (Value.int .i64) = ou.map (Value.int .i64) ++ [.int .i64 x] := by simp
    rw [this, List.length_append]
    exact own_keepG ho (keep_set (p := ⟨w.heap.size + 1 + 1, 0, none⟩)) (fun b hb e => by have := hsep' b hb; simp at e; omega)

theorem CM.sign {w wr : World} {vu : Value} {sb : ByteArray} {n : Nat} {al : List Int} {vo : Value} {ou : List Int} {so : ByteArray} (h : CM w wr vu sb n al vo ou so) (so' : ByteArray) :
    CM w (wr.setCell ⟨w.heap.size + 1 + 1, 1, none⟩ (.string so')) vu sb n al vo ou so' := by
  refine ⟨h.ext.setCell (p := ⟨w.heap.size + 1 + 1, 1, none⟩) (by show w.heap.size ≤ w.heap.size + 1 + 1; omega) _, ?_, ?_, ?_, ?_, ?_, h.sep⟩
  · rw [heap_setCell_other _ _ _ _ (by simp <;> omega)]; exact h.box
  · rw [heap_setCell_other _ _ _ _ (by simp <;> omega)]; exact h.res
  · exact heap_setCell_same _ _ _ _ _ _ h.out
  · exact own_keepG h.at_ (keep_set (p := ⟨w.heap.size + 1 + 1, 1, none⟩)) (fun b hb e => by simp [Value.ownBlock] at hb; simp at e; omega)
  · exact own_keepG h.ou (keep_set (p := ⟨w.heap.size + 1 + 1, 1, none⟩)) (fun b hb e => by have := h.sep b hb; simp at e; omega)
theorem CM.drew {w wr : World} {vu : Value} {sb : ByteArray} {n : Nat} {al : List Int} {vo : Value} {ou : List Int} {so : ByteArray} (h : CM w wr vu sb n al vo ou so) : CM w wr.drew vu sb n al vo ou so :=
  ⟨ext_drewN h.ext 1, h.box, h.res, h.out, h.at_, h.ou, h.sep⟩

theorem ext1 {sb : ByteArray} {k : Nat} (h : k + 1 ≤ sb.size) : (sb.extract k (k + 1)).data.toList = [sb.data.toList.getD k 0] := by
  have hk : k < sb.data.toList.length := by have : sb.size = sb.data.size := rfl; simp; omega
  rw [ByteArray.data_extract, Array.toList_extract, List.getD_eq_getElem?_getD, List.getElem?_eq_getElem hk, Option.getD_some]
  rw [List.extract, show k + 1 - k = 1 by omega, List.drop_eq_getElem_cons hk]; rfl
theorem set_next {A : List Int} {n k : Nat} (x : Int) (hA : A.length = k) (hk : k < n) : (A ++ List.replicate (n - k) (0 : Int)).set k x = (A ++ [x]) ++ List.replicate (n - (k + 1)) 0 := by
  subst hA
  rw [List.set_append_right _ _ (Nat.le_refl _), Nat.sub_self, show n - A.length = (n - (A.length + 1)) + 1 by omega, List.replicate_succ, List.set_cons_zero, List.append_assoc]; rfl
theorem cut_drop {us : List Int} {s : List UInt8} {e k : Nat} (h : k = e ∨ (0 ≤ zat us k ∧ zat (cutAt us s e k).1 (zat us k).toNat = -2)) : cutAt us s e (k + 1) = ((cutAt us s e k).1 ++ [-2], (cutAt us s e k).2.1, (cutAt us s e k).2.2) := by
  rw [cutAt, if_pos h]
theorem cut_keep {us : List Int} {s : List UInt8} {e k : Nat} (h : ¬ (k = e ∨ (0 ≤ zat us k ∧ zat (cutAt us s e k).1 (zat us k).toNat = -2))) : cutAt us s e (k + 1) = ((cutAt us s e k).1 ++ [((cutAt us s e k).2.1.length : Int)], (cutAt us s e k).2.1 ++ [if 0 ≤ zat us k then zat (cutAt us s e k).1 (zat us k).toNat else -1], (cutAt us s e k).2.2 ++ [s.getD k 0]) := by
  rw [cutAt, if_neg h]
theorem CM.dropped {w wr : World} {vu : Value} {sb so : ByteArray} {vo : Value} {us : List Int} {s : List UInt8} {e k n : Nat} (hM : CM w wr vu sb n (((cutAt us s e k).1 ++ List.replicate (n - k) (0 : Int)).set k (-2)) vo (cutAt us s e k).2.1 so) (hA : (cutAt us s e k).1.length = k) (hk : k < n) (hso : so.data.toList = (cutAt us s e k).2.2)
    (h : k = e ∨ (0 ≤ zat us k ∧ zat (cutAt us s e k).1 (zat us k).toNat = -2)) : CM w wr vu sb n ((cutAt us s e (k + 1)).1 ++ List.replicate (n - (k + 1)) 0) vo (cutAt us s e (k + 1)).2.1 so ∧ so.data.toList = (cutAt us s e (k + 1)).2.2 := by
  rw [set_next _ hA hk] at hM
  rw [cut_drop h]; exact ⟨hM, hso⟩

set_option maxHeartbeats 2000000 in
set_option maxRecDepth 100000 in
theorem l22Cut_any (vu : Value) (us : List Int) (sb : ByteArray) (e : Nat) (w : World) (hv : Ints w vu us) (g : GT us sb.data.toList) (he : e < us.length) :
    Calls Tryz.prog 46 #[.agg #[vu, .string sb], .int .i64 (e : Int)] w (CutPost us sb.data.toList e w) := by
  obtain ⟨i0, hi0, hz0, hz1, hz2⟩ := info_parts info_int
  obtain ⟨au, capu, rfl, hlc, hcap, hc⟩ := id hv
  have hn8 := g.small
  generalize hn : us.length = n at *
  have hmk := fun w : World => run_make (P := Tryz.prog) w 22 3 i0 (.int .i64 0) Tryz.underlying22 hi0 hz0 .i64 .i64 (n : Int) (n : Int) (by omega) (by omega) (by rw [hz2]; omega) (by omega)
  simp only [hz1, Nat.mul_one, Int.toNat_natCast] at hmk
  go_enter Tryz.func46, Tryz.ntmps46
  go_wp2
  generalize hs : sb.data.toList = s at *
  have hst : CM w ((((w.alloc (.cells #[.slice au n capu, .string sb] 31)).alloc (.cells #[.slice none 0 0, .string ⟨#[]⟩] 31)).alloc (.cells #[.slice none 0 0, .string ⟨#[]⟩] 31)).alloc (.cells (madeCells #[Value.int .i64 0] n) 3)) (.slice au n capu) sb n (List.replicate n 0) (.slice none 0 0) [] ⟨#[]⟩ := by
    refine ⟨by go_grown, ?_, ?_, ?_, ?_, ?_, by simp [Value.ownBlock]⟩
    · rw [Below.heap_alloc _ _ _ (by simp <;> omega), Below.heap_alloc _ _ _ (by simp <;> omega), Below.heap_alloc _ _ _ (by simp)]; exact heap_alloc_new _ _
    · rw [Below.heap_alloc _ _ _ (by simp <;> omega), Below.heap_alloc _ _ _ (by simp)]; have h := heap_alloc_new (w.alloc (.cells #[.slice au n capu, .string sb] 31)) (.cells #[.slice none 0 0, .string ⟨#[]⟩] 31); rw [World.size_alloc] at h; exact h
    · rw [Below.heap_alloc _ _ _ (by simp)]; have h := heap_alloc_new ((w.alloc (.cells #[.slice au n capu, .string sb] 31)).alloc (.cells #[.slice none 0 0, .string ⟨#[]⟩] 31)) (.cells #[.slice none 0 0, .string ⟨#[]⟩] 31); rw [World.size_alloc, World.size_alloc] at h; exact h
    · have h := World.ownsRow_lit (((w.alloc (.cells #[.slice au n capu, .string sb] 31)).alloc (.cells #[.slice none 0 0, .string ⟨#[]⟩] 31)).alloc (.cells #[.slice none 0 0, .string ⟨#[]⟩] 31)) (base := w.heap.size) (madeCells #[Value.int .i64 0] n) n (e := 3) (size := 1) (by simp; omega) (by unfold maxLen; omega) (by rw [size_madeCells]; simp)
      rw [made_zeros] at h
      simpa using h
    · exact ⟨by simp, .inl ⟨rfl, rfl⟩⟩
  generalize ((((w.alloc (.cells #[.slice au n capu, .string sb] 31)).alloc (.cells #[.slice none 0 0, .string ⟨#[]⟩] 31)).alloc (.cells #[.slice none 0 0, .string ⟨#[]⟩] 31)).alloc (.cells (madeCells #[Value.int .i64 0] n) 3)) = W0 at *
  clear hmk
  go_loopw [7] (fun ii wr => ∃ k vo so, k ≤ n ∧ ii = .int .i64 ((k : Nat) : Int) ∧ CM w wr (.slice au n capu) sb n ((cutAt us s e k).1 ++ List.replicate (n - k) 0) vo (cutAt us s e k).2.1 so ∧ so.data.toList = (cutAt us s e k).2.2) (fun ii _ => n - (intOf ii).toNat)
  case atStart => exact ⟨0, _, _, Nat.zero_le _, rfl, by simpa [cutAt] using hst, rfl⟩
  case round =>
    clear hst
    obtain ⟨k, vo, so, hk, rfl, hM, hso⟩ := hrel
    have cbx := cell_of_row wr w.heap.size 0 _ _ _ hM.box
    by_cases hlt : k < n
    · have h1 : ((k : Nat) : Int) < (n : Int) := by omega
      have I := cut_inv g e k (by omega)
      have hu := g.up k (by omega)
      obtain ⟨b, off, rfl, hcell⟩ := hc (by omega)
      have hal : ((cutAt us s e k).1 ++ List.replicate (n - k) (0 : Int)).length = n := by simp [I.len]; omega
      have ck := hM.at_.cellAt k (by omega)
      rw [List.getElem?_map, List.getElem?_eq_getElem (by omega), Option.map_some] at ck
      have fk := hM.at_.frozenAt k
      have hM1 := hM.set k (-2)
      go_upto_region 7 with (fail)
      generalize wr.setCell ⟨w.heap.size + 1 + 1 + 1, k, none⟩ (.int .i64 (-2)) = W1 at *
      clear ck fk
      have hEx := hM1.ext
      have cb0 := cell_of_row W1 w.heap.size 0 _ _ _ hM1.box
      have cb1 := cell_of_row W1 w.heap.size 1 _ _ _ hM1.box
      have cu := (hEx.cell (lt_of_cell (hcell k hlt))).trans (hcell k hlt)
      by_cases hke : k = e
      · subst hke
        have HR := Lib.hid (hM1.dropped I.len hlt hso (.inl rfl))
        clear hM1 hM
        go_wp2
        go_roundw
        case rel => exact ⟨k + 1, _, so, by omega, by go_num, HR.out.1, HR.out.2⟩
        case measure => simp [intOf]; omega
      · have e1 : ((k : Int) == (e : Int)) = false := by simp; omega
        by_cases hu0 : 0 ≤ zat us k
        · obtain ⟨j, hj⟩ : ∃ j : Nat, zat us k = (j : Int) := ⟨(zat us k).toNat, by omega⟩
          rw [hj] at cu hu0 hu
          have hjk : j < k := by omega
          have ca := hM1.at_.cellAt j (by omega)
          rw [List.getElem?_map, List.getElem?_set_ne (by omega), List.getElem?_append_left (by rw [I.len]; omega), List.getElem?_eq_getElem (by rw [I.len]; omega), Option.map_some, ← zat_lt] at ca
          by_cases hd : zat (cutAt us s e k).1 j = -2
          · have HR := Lib.hid (hM1.dropped I.len hlt hso (.inr (by rw [hj]; exact ⟨hu0, by rw [Int.toNat_natCast]; exact hd⟩)))
            rw [hd] at ca
            clear hM1 hM
            go_wp2
            go_roundw
            case rel => exact ⟨k + 1, _, so, by omega, by go_num, HR.out.1, HR.out.2⟩
            case measure => simp [intOf]; omega
          · have hd1 : (zat (cutAt us s e k).1 j == -2) = false := by simpa using hd
            have HD := Lib.hid hd
            clear hd
            have HC : Hid (cutAt us s e (k + 1) = ((cutAt us s e k).1 ++ [((cutAt us s e k).2.1.length : Int)], (cutAt us s e k).2.1 ++ [zat (cutAt us s e k).1 j], (cutAt us s e k).2.2 ++ [s.getD k 0])) := by
              have := cut_keep (us := us) (s := s) (e := e) (k := k) (by rw [hj, Int.toNat_natCast]; exact fun h => h.elim hke (fun h => HD.out h.2))
              rw [hj, if_pos hu0, Int.toNat_natCast] at this; exact this
            generalize zat (cutAt us s e k).1 j = X at *
            obtain ⟨av, cv, rfl, hcv, _⟩ := own_len hM1.ou
            have c0 := cell_of_row W1 (w.heap.size + 1 + 1) 0 _ _ _ hM1.out
            have ck1 := hM1.at_.cellAt k (by omega)
            rw [List.getElem?_map, List.getElem?_eq_getElem (by rw [List.length_set]; omega), Option.map_some] at ck1
            have fk1 := hM1.at_.frozenAt k
            have hM2 := hM1.set k ((cutAt us s e k).2.1.length : Int)
            have hol := I.le
            go_upto_region 12 with (fail)
            generalize W1.setCell ⟨w.heap.size + 1 + 1 + 1, k, none⟩ (.int .i64 ((cutAt us s e k).2.1.length : Int)) = W2 at *
            clear c0 ck1 fk1 cb0 cb1 cu hEx
            have c0 := cell_of_row W2 (w.heap.size + 1 + 1) 0 _ _ _ hM2.out
            have hE2 := hM2.ext.size
            go_upto_region 13 with (at_builtin; (refine app_list rfl (.tmp 67) (.tmp 69) 22 rfl w.heap.size 3 i0 (.int .i64 0) 1 8 Tryz.underlying22 hi0 hz0 hz1 hz2 rfl (by decide) (.slice av (cutAt us s e k).2.1.length cv) (cutAt us s e k).2.1.length ((cutAt us s e k).2.1.map (Value.int .i64)) rfl (hM2.ou.alloc _) _ 1 _ [.int .i64 X] rfl rfl (.inr ⟨_, rfl, one_src (new_cell _ _ _)⟩) one_cell (by unfold maxLen; omega) (by omega) (by rw [World.size_alloc]; omega) ?_; intro v5 w5 ho5 hg5 hl5; obtain ⟨a5, c5, rfl, -⟩ := own_len ho5; obtain ⟨hM3, c50, f50⟩ := hM2.put ho5 hg5 hl5))
            generalize w5.setCell ⟨w.heap.size + 1 + 1, 0, none⟩ (.slice a5 ((cutAt us s e k).2.1.length + 1) c5) = W3 at *
            have hdr : W3.heap[w.heap.size]? = W3.heap[w.heap.size]? := rfl
            have d0 := cell_of_row W3 w.heap.size 1 _ _ _ hM3.box
            have d1 := cell_of_row W3 (w.heap.size + 1 + 1) 1 _ _ _ hM3.out
            have f1 := frozen_of_row W3 (w.heap.size + 1 + 1) 1 _ _ hM3.out
            have hkb : k + 1 ≤ sb.size := by have := g.len; rw [← hs] at this; simp at this; rw [hn] at this; have : sb.size = sb.data.size := rfl; omega
            have hsz : so.size ≤ 8 := by have := I.same; rw [← hso] at this; simp at this; have : so.size = so.data.size := rfl; omega
            have hez : (sb.extract k (k + 1)).size = 1 := by rw [ByteArray.size_extract]; omega
            have hcat : so.size + (sb.extract k (k + 1)).size ≤ 9223372036854775807 := by omega
            have HCAT := fun W : World => run_string_add_sum (P := Tryz.prog) (w := W) so (sb.extract k (k + 1)) hcat
            clear hez
            clear c50 f50 ho5 hg5 hl5 hdr c0
            have HM3 := Lib.hid hM3
            clear hM3 hM2 hM1 hM
            have HR : Hid (∀ W, CM w W (.slice (some ⟨b, off, none⟩) n capu) sb n ((((cutAt us s e k).1 ++ List.replicate (n - k) (0 : Int)).set k (-2)).set k ((cutAt us s e k).2.1.length : Int)) (.slice a5 ((cutAt us s e k).2.1.length + 1) c5) ((cutAt us s e k).2.1 ++ [X]) (so ++ sb.extract k (k + 1)) → CM w W (.slice (some ⟨b, off, none⟩) n capu) sb n ((cutAt us s e (k + 1)).1 ++ List.replicate (n - (k + 1)) 0) (.slice a5 ((cutAt us s e k).2.1.length + 1) c5) (cutAt us s e (k + 1)).2.1 (so ++ sb.extract k (k + 1)) ∧ (so ++ sb.extract k (k + 1)).data.toList = (cutAt us s e (k + 1)).2.2) := fun W h => by
              rw [List.set_set, set_next _ I.len hlt] at h
              rw [HC.out]
              refine ⟨h, ?_⟩
              rw [ByteArray.data_append, Array.toList_append, hso]
              congr 1
              rw [ext1 (by omega), hs]
            go_region
            go_wp2_with (fail)
            go_roundw
            case rel => exact ⟨k + 1, _, _, by omega, by go_num, (HR.out _ (HM3.out.sign _).drew).1, (HR.out _ (HM3.out.sign _).drew).2⟩
            case measure => simp [intOf]; omega
        · have hu1 : decide (0 ≤ zat us k) = false := by simpa using hu0
          have HC : Hid (cutAt us s e (k + 1) = ((cutAt us s e k).1 ++ [((cutAt us s e k).2.1.length : Int)], (cutAt us s e k).2.1 ++ [-1], (cutAt us s e k).2.2 ++ [s.getD k 0])) := by
            have := cut_keep (us := us) (s := s) (e := e) (k := k) (fun h => h.elim hke (fun h => hu0 h.1))
            rw [if_neg hu0] at this; exact this
          obtain ⟨av, cv, rfl, hcv, _⟩ := own_len hM1.ou
          have c0 := cell_of_row W1 (w.heap.size + 1 + 1) 0 _ _ _ hM1.out
          have ck1 := hM1.at_.cellAt k (by omega)
          rw [List.getElem?_map, List.getElem?_eq_getElem (by rw [List.length_set]; omega), Option.map_some] at ck1
          have fk1 := hM1.at_.frozenAt k
          have hM2 := hM1.set k ((cutAt us s e k).2.1.length : Int)
          have hol := I.le
          go_upto_region 12 with (fail)
          generalize W1.setCell ⟨w.heap.size + 1 + 1 + 1, k, none⟩ (.int .i64 ((cutAt us s e k).2.1.length : Int)) = W2 at *
          clear c0 ck1 fk1 cb0 cb1 cu hEx
          have c0 := cell_of_row W2 (w.heap.size + 1 + 1) 0 _ _ _ hM2.out
          have hE2 := hM2.ext.size
          go_upto_region 13 with (at_builtin; (refine app_list rfl (.tmp 67) (.tmp 69) 22 rfl w.heap.size 3 i0 (.int .i64 0) 1 8 Tryz.underlying22 hi0 hz0 hz1 hz2 rfl (by decide) (.slice av (cutAt us s e k).2.1.length cv) (cutAt us s e k).2.1.length ((cutAt us s e k).2.1.map (Value.int .i64)) rfl (hM2.ou.alloc _) _ 1 _ [.int .i64 (-1)] rfl rfl (.inr ⟨_, rfl, one_src (new_cell _ _ _)⟩) one_cell (by unfold maxLen; omega) (by omega) (by rw [World.size_alloc]; omega) ?_; intro v5 w5 ho5 hg5 hl5; obtain ⟨a5, c5, rfl, -⟩ := own_len ho5; obtain ⟨hM3, c50, f50⟩ := hM2.put ho5 hg5 hl5))
          generalize w5.setCell ⟨w.heap.size + 1 + 1, 0, none⟩ (.slice a5 ((cutAt us s e k).2.1.length + 1) c5) = W3 at *
          have hdr : W3.heap[w.heap.size]? = W3.heap[w.heap.size]? := rfl
          have d0 := cell_of_row W3 w.heap.size 1 _ _ _ hM3.box
          have d1 := cell_of_row W3 (w.heap.size + 1 + 1) 1 _ _ _ hM3.out
          have f1 := frozen_of_row W3 (w.heap.size + 1 + 1) 1 _ _ hM3.out
          have hkb : k + 1 ≤ sb.size := by have := g.len; rw [← hs] at this; simp at this; rw [hn] at this; have : sb.size = sb.data.size := rfl; omega
          have hsz : so.size ≤ 8 := by have := I.same; rw [← hso] at this; simp at this; have : so.size = so.data.size := rfl; omega
          have hez : (sb.extract k (k + 1)).size = 1 := by rw [ByteArray.size_extract]; omega
          have hcat : so.size + (sb.extract k (k + 1)).size ≤ 9223372036854775807 := by omega
          have HCAT := fun W : World => run_string_add_sum (P := Tryz.prog) (w := W) so (sb.extract k (k + 1)) hcat
          clear hez
          clear c50 f50 ho5 hg5 hl5 hdr c0
          have HM3 := Lib.hid hM3
          clear hM3 hM2 hM1 hM
          have HR : Hid (∀ W, CM w W (.slice (some ⟨b, off, none⟩) n capu) sb n ((((cutAt us s e k).1 ++ List.replicate (n - k) (0 : Int)).set k (-2)).set k ((cutAt us s e k).2.1.length : Int)) (.slice a5 ((cutAt us s e k).2.1.length + 1) c5) ((cutAt us s e k).2.1 ++ [-1]) (so ++ sb.extract k (k + 1)) → CM w W (.slice (some ⟨b, off, none⟩) n capu) sb n ((cutAt us s e (k + 1)).1 ++ List.replicate (n - (k + 1)) 0) (.slice a5 ((cutAt us s e k).2.1.length + 1) c5) (cutAt us s e (k + 1)).2.1 (so ++ sb.extract k (k + 1)) ∧ (so ++ sb.extract k (k + 1)).data.toList = (cutAt us s e (k + 1)).2.2) := fun W h => by
            rw [List.set_set, set_next _ I.len hlt] at h
            rw [HC.out]
            refine ⟨h, ?_⟩
            rw [ByteArray.data_append, Array.toList_append, hso]
            congr 1
            rw [ext1 (by omega), hs]
          go_region
          go_wp2_with (fail)
          go_roundw
          case rel => exact ⟨k + 1, _, _, by omega, by go_num, (HR.out _ (HM3.out.sign _).drew).1, (HR.out _ (HM3.out.sign _).drew).2⟩
          case measure => simp [intOf]; omega
    · have h1 : ¬ (((k : Nat) : Int) < (n : Int)) := by omega
      have c0 := cell_of_row wr (w.heap.size + 1 + 1) 0 _ _ _ hM.out
      have c1 := cell_of_row wr (w.heap.size + 1 + 1) 1 _ _ _ hM.out
      have r0 := cell_of_row wr (w.heap.size + 1) 0 _ _ _ hM.res
      have r1 := cell_of_row wr (w.heap.size + 1) 1 _ _ _ hM.res
      have f0 := frozen_of_row wr (w.heap.size + 1) 0 _ _ hM.res
      have f1 := frozen_of_row wr (w.heap.size + 1) 1 _ _ hM.res
      have hke : k = n := by omega
      subst hke
      obtain ⟨av, cv, rfl, -⟩ := own_len hM.ou
      have HM := Lib.hid hM
      have hr := hM.res
      have HH : Hid (((wr.setCell ⟨w.heap.size + 1, 0, none⟩ (.slice av (cutAt us s e k).2.1.length cv)).setCell ⟨w.heap.size + 1, 1, none⟩ (.string so)).heap[w.heap.size + 1]? = some (.cells #[.slice av (cutAt us s e k).2.1.length cv, .string so] 31 (0, 0))) :=
        heap_setCell_same _ _ _ _ _ _ (heap_setCell_same _ _ _ _ _ _ hr)
      clear hM hr
      go_wp2
      (try simp only [Exit.inBlock, Exit.then])
      refine bodyPost_ret (results_cell_row rfl _ _ (w.heap.size + 1) 31 #[.slice av (cutAt us s e k).2.1.length cv, .string so] (0, 0) _ rfl HH.out Tryz.underlying31 rfl (by kernel_rfl)) rfl ?_
      have hM := HM.out
      have hI := Ints.of_own hM.ou (by have := (cut_inv g e k (by omega)).le; omega)
      have hsz := hM.ou.lt
      refine ⟨_, so, rfl, ?_, ?_, fun b hb => ⟨by have := hM.sep b hb; omega, by simp; exact (hsz b hb).2⟩, (hM.ext.setCell (p := ⟨w.heap.size + 1, 0, none⟩) (by show w.heap.size ≤ w.heap.size + 1; omega) _).setCell (p := ⟨w.heap.size + 1, 1, none⟩) (by show w.heap.size ≤ w.heap.size + 1; omega) _⟩
      · unfold cutU
        rw [hn]
        exact hI.keep (fun b _ hb => by rw [heap_setCell_other _ _ _ _ (by have := hM.sep b hb; simp <;> omega), heap_setCell_other _ _ _ _ (by have := hM.sep b hb; simp <;> omega)])
      · unfold cutS
        rw [hn, hso]

end Go.Proofs.YtjkdanmpihildaaGreatDoor
