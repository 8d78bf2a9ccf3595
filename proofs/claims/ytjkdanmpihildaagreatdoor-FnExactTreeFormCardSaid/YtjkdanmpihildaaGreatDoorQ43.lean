/-
  Contracts of the statement's own functions on trees: toTree, szTree, eqTree, markTree; on forms: eqForm; no condition.
  Contracts of the statement's own functions on forms: eqForm, markForm, heldForm; no condition.
-/
import Derived.Test.YtjkdanmpihildaaGreatDoorQ31
namespace Go.Proofs.YtjkdanmpihildaaGreatDoor
open Go.RowKit
open Cgt (Dag Nd vl Same)

set_option maxHeartbeats 1000000 in
theorem toTree_any (v : Value) (us : List Int) (sb : ByteArray) (w : World) (h : Ints w v us) (hl : us.length ≤ 1048576) :
    Calls Tryz.prog 6 #[.agg #[v, .string sb]] w fun e w' => ∃ v', e = .returned (.agg #[v', .string sb]) ∧ w'.ownsRow w.heap.size 3 1 v' us.length (us.map (Value.int .i64)) ∧ Ext w w' := by
  obtain ⟨a, cap, rfl, hlc, hcap, hc⟩ := id h
  go_enter Tryz.func6, Tryz.ntmps6
  go_upto_region 2 with fail
  have hE : Ext w (((w.alloc (.cells #[.slice a us.length cap, .string sb] 24)).alloc (.cells #[.slice none 0 0, .string ⟨#[]⟩] 31)).alloc (.cells #[.slice none 0 0, .string ⟨#[]⟩] 31)) := by go_grown
  have b0 : (((w.alloc (.cells #[.slice a us.length cap, .string sb] 24)).alloc (.cells #[.slice none 0 0, .string ⟨#[]⟩] 31)).alloc (.cells #[.slice none 0 0, .string ⟨#[]⟩] 31)).heap[w.heap.size]? = some (.cells #[.slice a us.length cap, .string sb] 24 (0, 0)) := by
    rw [Below.heap_alloc _ _ _ (by simp <;> omega), Below.heap_alloc _ _ _ (by simp)]; exact heap_alloc_new _ _
  have b1 : (((w.alloc (.cells #[.slice a us.length cap, .string sb] 24)).alloc (.cells #[.slice none 0 0, .string ⟨#[]⟩] 31)).alloc (.cells #[.slice none 0 0, .string ⟨#[]⟩] 31)).heap[w.heap.size + 1]? = some (.cells #[.slice none 0 0, .string ⟨#[]⟩] 31 (0, 0)) := by
    rw [Below.heap_alloc _ _ _ (by simp)]; have h := heap_alloc_new (w.alloc (.cells #[.slice a us.length cap, .string sb] 24)) (.cells #[.slice none 0 0, .string ⟨#[]⟩] 31); rw [World.size_alloc] at h; exact h
  have b2 : (((w.alloc (.cells #[.slice a us.length cap, .string sb] 24)).alloc (.cells #[.slice none 0 0, .string ⟨#[]⟩] 31)).alloc (.cells #[.slice none 0 0, .string ⟨#[]⟩] 31)).heap[w.heap.size + 1 + 1]? = some (.cells #[.slice none 0 0, .string ⟨#[]⟩] 31 (0, 0)) := by
    have h := heap_alloc_new ((w.alloc (.cells #[.slice a us.length cap, .string sb] 24)).alloc (.cells #[.slice none 0 0, .string ⟨#[]⟩] 31)) (.cells #[.slice none 0 0, .string ⟨#[]⟩] 31); rw [World.size_alloc, World.size_alloc] at h; exact h
  have hzz : w.heap.size + 1 + 1 + 1 ≤ (((w.alloc (.cells #[.slice a us.length cap, .string sb] 24)).alloc (.cells #[.slice none 0 0, .string ⟨#[]⟩] 31)).alloc (.cells #[.slice none 0 0, .string ⟨#[]⟩] 31)).heap.size := by simp
  generalize ((w.alloc (.cells #[.slice a us.length cap, .string sb] 24)).alloc (.cells #[.slice none 0 0, .string ⟨#[]⟩] 31)).alloc (.cells #[.slice none 0 0, .string ⟨#[]⟩] 31) = W at *
  have c0 := cell_of_row W w.heap.size 0 _ _ _ b0
  go_upto_region 3 with (go_at_call 17; refine (toIntS_any _ us _ (h.ext hE) hl).mono ?_; rintro e w1 ⟨v', rfl, ho, hx⟩; obtain ⟨a', c', rfl, -⟩ := own_len ho; have e2 := (hx.block _ (blk_lt b2)).trans b2; have d20 := cell_of_row w1 (w.heap.size + 1 + 1) 0 _ _ _ e2; have f20 := frozen_of_row w1 (w.heap.size + 1 + 1) 0 _ _ e2)
  have e0 := (hx.block _ (blk_lt b0)).trans b0
  have e1 := (hx.block _ (blk_lt b1)).trans b1
  have g2 := heap_setCell_same w1 (w.heap.size + 1 + 1) 0 _ _ (.slice a' us.length c') e2
  have g0 : (w1.setCell ⟨w.heap.size + 1 + 1, 0, none⟩ (.slice a' us.length c')).heap[w.heap.size]? = some (.cells #[.slice a us.length cap, .string sb] 24 (0, 0)) := by rw [heap_setCell_other _ _ _ _ (by simp <;> omega)]; exact e0
  have g1 : (w1.setCell ⟨w.heap.size + 1 + 1, 0, none⟩ (.slice a' us.length c')).heap[w.heap.size + 1]? = some (.cells #[.slice none 0 0, .string ⟨#[]⟩] 31 (0, 0)) := by rw [heap_setCell_other _ _ _ _ (by simp <;> omega)]; exact e1
  have hsep : ∀ b, Value.ownBlock (.slice a' us.length c') = some b → w.heap.size + 1 + 1 < b := fun b hb => by have := (ho.lt b hb).1; omega
  have ho2 := own_keepG ho (keep_set (p := ⟨w.heap.size + 1 + 1, 0, none⟩) (v := .slice a' us.length c')) (fun b hb e => by have := hsep b hb; simp at e; omega)
  have hE2 := (ext_trans hE hx).setCell (p := ⟨w.heap.size + 1 + 1, 0, none⟩) (by show w.heap.size ≤ w.heap.size + 1 + 1; omega) (.slice a' us.length c')
  generalize w1.setCell ⟨w.heap.size + 1 + 1, 0, none⟩ (.slice a' us.length c') = W2 at *
  have h01 := cell_of_row W2 w.heap.size 1 _ _ _ g0
  have h21 := cell_of_row W2 (w.heap.size + 1 + 1) 1 _ _ _ g2
  have k21 := frozen_of_row W2 (w.heap.size + 1 + 1) 1 _ _ g2
  clear d20 f20 e0 e1 e2 ho c0
  go_upto_region 4 with fail
  have j2 := heap_setCell_same W2 (w.heap.size + 1 + 1) 1 _ _ (.string sb) g2
  have j1 : (W2.setCell ⟨w.heap.size + 1 + 1, 1, none⟩ (.string sb)).heap[w.heap.size + 1]? = some (.cells #[.slice none 0 0, .string ⟨#[]⟩] 31 (0, 0)) := by rw [heap_setCell_other _ _ _ _ (by simp <;> omega)]; exact g1
  have ho3 := own_keepG ho2 (keep_set (p := ⟨w.heap.size + 1 + 1, 1, none⟩) (v := .string sb)) (fun b hb e => by have := hsep b hb; simp at e; omega)
  have hE3 := hE2.setCell (p := ⟨w.heap.size + 1 + 1, 1, none⟩) (by show w.heap.size ≤ w.heap.size + 1 + 1; omega) (.string sb)
  generalize W2.setCell ⟨w.heap.size + 1 + 1, 1, none⟩ (.string sb) = W3 at *
  have q20 := cell_of_row W3 (w.heap.size + 1 + 1) 0 _ _ _ j2
  have q21 := cell_of_row W3 (w.heap.size + 1 + 1) 1 _ _ _ j2
  have q10 := cell_of_row W3 (w.heap.size + 1) 0 _ _ _ j1
  have q11 := cell_of_row W3 (w.heap.size + 1) 1 _ _ _ j1
  have r10 := frozen_of_row W3 (w.heap.size + 1) 0 _ _ j1
  have r11 := frozen_of_row W3 (w.heap.size + 1) 1 _ _ j1
  have HH := Lib.hid (heap_setCell_same _ _ 1 _ _ (.string sb) (heap_setCell_same W3 (w.heap.size + 1) 0 _ _ (.slice a' us.length c') j1))
  clear h01 h21 k21 g0 g1 g2
  go_wp2
  (try simp only [Exit.inBlock, Exit.then])
  refine bodyPost_ret (results_cell_row rfl _ _ (w.heap.size + 1) 31 #[.slice a' us.length c', .string sb] (0, 0) _ rfl HH.out Tryz.underlying31 rfl (by kernel_rfl)) rfl ?_
  refine ⟨_, rfl, ?_, (hE3.setCell (p := ⟨w.heap.size + 1, 0, none⟩) (by show w.heap.size ≤ w.heap.size + 1; omega) _).setCell (p := ⟨w.heap.size + 1, 1, none⟩) (by show w.heap.size ≤ w.heap.size + 1; omega) _⟩
  exact own_base (own_keepG (own_keepG ho3 (keep_set (p := ⟨w.heap.size + 1, 0, none⟩)) (fun b hb e => by have := hsep b hb; simp at e; omega)) (keep_set (p := ⟨w.heap.size + 1, 1, none⟩)) (fun b hb e => by have := hsep b hb; simp at e; omega)) hE.size

def szT (us : List Int) (sb : ByteArray) (left : Int) : Int := if left < us.length then -1 else if left - us.length < sb.size then -1 else left - us.length - sb.size
theorem szTree_any (v : Value) (us : List Int) (sb : ByteArray) (left : Int) (w : World) (h : Ints w v us) (h0 : 0 ≤ left) (h1 : left ≤ 1048576) (hs : sb.size ≤ 9223372036854775807) :
    Calls Tryz.prog 4 #[.agg #[v, .string sb], .int .i64 left] w fun e w' => e = .returned (.int .i64 (szT us sb left)) ∧ Ext w w' := by
  obtain ⟨a, cap, rfl, hlc, hcap, hc⟩ := id h
  have hE : Ext w (w.alloc (.cells #[.slice a us.length cap, .string sb] 24)) := by go_grown
  have b0 := heap_alloc_new w (.cells #[.slice a us.length cap, .string sb] 24)
  go_enter Tryz.func4, Tryz.ntmps4
  go_upto_region 1 with fail
  generalize w.alloc (.cells #[.slice a us.length cap, .string sb] 24) = W at *
  have c0 := cell_of_row W w.heap.size 0 _ _ _ b0
  have c1 := cell_of_row W w.heap.size 1 _ _ _ b0
  by_cases hl : left < us.length
  · have e1 : (if left < us.length then (-1 : Int) else left - us.length) = -1 := if_pos hl
    go_wp2_with (go_at_call 13; refine (szIntS_any _ us _ _ (h.ext hE) h0 h1).mono ?_; rintro e w1 ⟨he, n, rfl⟩; rw [e1] at he; subst he)
    go_ret
    exact ⟨ret_int (by unfold szT; rw [if_pos hl]), ext_drewN hE _⟩
  · have e1 : (if left < us.length then (-1 : Int) else left - us.length) = left - us.length := if_neg hl
    by_cases hl2 : left - us.length < sb.size
    · go_wp2_with (go_at_call 13; refine (szIntS_any _ us _ _ (h.ext hE) h0 h1).mono ?_; rintro e w1 ⟨he, n, rfl⟩; rw [e1] at he; subst he)
      go_ret
      exact ⟨ret_int (by unfold szT; rw [if_neg (by omega), if_pos (by omega)]), ext_drewN hE _⟩
    · go_wp2_with (go_at_call 13; refine (szIntS_any _ us _ _ (h.ext hE) h0 h1).mono ?_; rintro e w1 ⟨he, n, rfl⟩; rw [e1] at he; subst he)
      go_ret
      exact ⟨ret_int (by unfold szT; rw [if_neg (by omega), if_neg (by omega)]), ext_drewN hE _⟩

theorem same2_refl (l : List Int) : same2 l l = true := by simp [same2]
theorem eqTree_any (v u : Value) (us : List Int) (sb : ByteArray) (w : World) (h : Ints w v us) (k : Ints w u us) :
    Calls Tryz.prog 9 #[.agg #[v, .string sb], .agg #[u, .string sb]] w fun e w' => e = .returned (.bool true) ∧ Ext w w' := by
  obtain ⟨a, cap, rfl, -⟩ := id h
  obtain ⟨a2, cap2, rfl, -⟩ := id k
  have hE : Ext w ((w.alloc (.cells #[.slice a us.length cap, .string sb] 31)).alloc (.cells #[.slice a2 us.length cap2, .string sb] 31)) := by go_grown
  have b0 : ((w.alloc (.cells #[.slice a us.length cap, .string sb] 31)).alloc (.cells #[.slice a2 us.length cap2, .string sb] 31)).heap[w.heap.size]? = some (.cells #[.slice a us.length cap, .string sb] 31 (0, 0)) := by
    rw [Below.heap_alloc _ _ _ (by simp)]; exact heap_alloc_new _ _
  have b1 : ((w.alloc (.cells #[.slice a us.length cap, .string sb] 31)).alloc (.cells #[.slice a2 us.length cap2, .string sb] 31)).heap[w.heap.size + 1]? = some (.cells #[.slice a2 us.length cap2, .string sb] 31 (0, 0)) := by
    have h := heap_alloc_new (w.alloc (.cells #[.slice a us.length cap, .string sb] 31)) (.cells #[.slice a2 us.length cap2, .string sb] 31); rw [World.size_alloc] at h; exact h
  have hbb : (sb.toList == sb.toList) = true := (Lib.bytes_beq_iff _ _).2 rfl
  have hbn : (sb.toList != sb.toList) = false := by simp
  go_enter Tryz.func9, Tryz.ntmps9
  go_upto_region 1 with fail
  generalize (w.alloc (.cells #[.slice a us.length cap, .string sb] 31)).alloc (.cells #[.slice a2 us.length cap2, .string sb] 31) = W at *
  have c00 := cell_of_row W w.heap.size 0 _ _ _ b0
  have c01 := cell_of_row W w.heap.size 1 _ _ _ b0
  have c10 := cell_of_row W (w.heap.size + 1) 0 _ _ _ b1
  have c11 := cell_of_row W (w.heap.size + 1) 1 _ _ _ b1
  go_wp2_with (go_at_call 25; refine (eqIntS_any _ _ us us _ (h.ext hE) (k.ext hE)).mono ?_; rintro e w1 ⟨he, n, rfl⟩; rw [same2_refl] at he; subst he)
  go_ret
  exact ⟨rfl, ext_drewN hE _⟩

theorem markTree_any (v : Value) (us : List Int) (sb : ByteArray) (k : Int) (B : Nat) (w : World) (h : w.ownsRow B 3 1 v us.length (us.map (Value.int .i64))) (h0 : 0 ≤ k) (h1 : k + us.length ≤ 4611686018427387904) :
    Calls Tryz.prog 10 #[.agg #[v, .string sb], .int .i64 k] w fun e w' => e = .returned (.int .i64 (k + us.length)) ∧ Keep (fun b => v.ownBlock = some b) w w' := by
  obtain ⟨a, cap, rfl, -⟩ := own_len h
  have hE : Ext w (w.alloc (.cells #[.slice a us.length cap, .string sb] 31)) := by go_grown
  have b0 := heap_alloc_new w (.cells #[.slice a us.length cap, .string sb] 31)
  go_enter Tryz.func10, Tryz.ntmps10
  go_upto_region 1 with fail
  generalize w.alloc (.cells #[.slice a us.length cap, .string sb] 31) = W at *
  have c0 := cell_of_row W w.heap.size 0 _ _ _ b0
  go_wp2_with (go_at_call 26; refine (markIntS_any _ us _ B _ (own_keep h hE) h0 h1).mono ?_; rintro e w1 ⟨rfl, -, hk⟩)
  go_ret
  exact ⟨rfl, (keep_ext (F := fun b => Value.ownBlock (.slice a us.length cap) = some b) hE).trans hk (fun _ _ h => h)⟩

end Go.Proofs.YtjkdanmpihildaaGreatDoor

namespace Go.Proofs.YtjkdanmpihildaaGreatDoor
open Go.RowKit
open Cgt (Dag Nd vl Same)

theorem eqNode_any (vl1 vr1 vl2 vr2 : Value) (l r : List Int) (w : World) (h1 : Ints w vl1 l) (h2 : Ints w vr1 r) (h3 : Ints w vl2 l) (h4 : Ints w vr2 r) :
    Calls Tryz.prog 44 #[.agg #[vl1, vr1], .agg #[vl2, vr2]] w fun e w' => e = .returned (.bool true) ∧ Ext w w' := by
  obtain ⟨a1, c1, rfl, -⟩ := id h1
  obtain ⟨a2, c2, rfl, -⟩ := id h2
  obtain ⟨a3, c3, rfl, -⟩ := id h3
  obtain ⟨a4, c4, rfl, -⟩ := id h4
  have hE : Ext w ((w.alloc (.cells #[.slice a1 l.length c1, .slice a2 r.length c2] 80)).alloc (.cells #[.slice a3 l.length c3, .slice a4 r.length c4] 80)) := by go_grown
  have b0 : ((w.alloc (.cells #[.slice a1 l.length c1, .slice a2 r.length c2] 80)).alloc (.cells #[.slice a3 l.length c3, .slice a4 r.length c4] 80)).heap[w.heap.size]? = some (.cells #[.slice a1 l.length c1, .slice a2 r.length c2] 80 (0, 0)) := by
    rw [Below.heap_alloc _ _ _ (by simp)]; exact heap_alloc_new _ _
  have b1 : ((w.alloc (.cells #[.slice a1 l.length c1, .slice a2 r.length c2] 80)).alloc (.cells #[.slice a3 l.length c3, .slice a4 r.length c4] 80)).heap[w.heap.size + 1]? = some (.cells #[.slice a3 l.length c3, .slice a4 r.length c4] 80 (0, 0)) := by
    have h := heap_alloc_new (w.alloc (.cells #[.slice a1 l.length c1, .slice a2 r.length c2] 80)) (.cells #[.slice a3 l.length c3, .slice a4 r.length c4] 80); rw [World.size_alloc] at h; exact h
  go_enter Tryz.func44, Tryz.ntmps44
  go_upto_region 1 with fail
  generalize (w.alloc (.cells #[.slice a1 l.length c1, .slice a2 r.length c2] 80)).alloc (.cells #[.slice a3 l.length c3, .slice a4 r.length c4] 80) = W at *
  have c00 := cell_of_row W w.heap.size 0 _ _ _ b0
  have c01 := cell_of_row W w.heap.size 1 _ _ _ b0
  have c10 := cell_of_row W (w.heap.size + 1) 0 _ _ _ b1
  have c11 := cell_of_row W (w.heap.size + 1) 1 _ _ _ b1
  go_upto_region 3 with (go_at_call 25; refine (eqIntS_any _ _ l l _ (h1.ext hE) (h3.ext hE)).mono ?_; rintro e w1 ⟨he, n, rfl⟩; rw [same2_refl] at he; subst he)
  go_wp2_with (go_at_call 25; refine (eqIntS_any _ _ r r _ (ints_dn (h2.ext hE) _) (ints_dn (h4.ext hE) _)).mono ?_; rintro e w1 ⟨he, m, rfl⟩; rw [same2_refl] at he; subst he)
  go_ret
  exact ⟨rfl, by first | exact ext_drewN hE _ | exact ext_drewN (ext_drewN hE _) _⟩

set_option maxHeartbeats 1000000 in
set_option maxRecDepth 100000 in
theorem eqNodeS_any (v u : Value) (F : Dag) (w : World) (h : Nodes w 0 v F) (k : Nodes w 0 u F) :
    Calls Tryz.prog 24 #[v, u] w fun e w' => e = .returned (.bool true) ∧ Ext w w' := by
  obtain ⟨a, cap, rfl, hc1, hm1, -⟩ := id h
  obtain ⟨a2, cap2, rfl, hc2, hm2, -⟩ := id k
  have hbn : (((F.length : Nat) : Int) != ((F.length : Nat) : Int)) = false := by simp
  have hml : maxLen = 9223372036854775807 := by simp [maxLen]
  go_enter Tryz.func24, Tryz.ntmps24
  go_wp2
  go_loopw [5] (fun ii wr => ∃ i, i ≤ F.length ∧ ii = .int .i64 ((i : Nat) : Int) ∧ Ext w wr) (fun ii _ => F.length - (intOf ii).toNat)
  case atStart => exact ⟨0, Nat.zero_le _, rfl, Below.refl _ _⟩
  case round =>
    obtain ⟨i, hi, rfl, hE⟩ := hrel
    by_cases hlt : i < F.length
    · have h1 : ((i : Nat) : Int) < (F.length : Int) := by omega
      obtain ⟨b1, d1, aL, cL, aR, cR, he1, -, l1, r1, iL, iR⟩ := (h.ext hE).at hlt
      obtain ⟨b2, d2, aL2, cL2, aR2, cR2, he2, -, l2, r2, iL2, iR2⟩ := (k.ext hE).at hlt
      simp only [Value.slice.injEq] at he1 he2
      obtain ⟨rfl, -, rfl⟩ := he1
      obtain ⟨rfl, -, rfl⟩ := he2
      have hSx : ∀ W : World, Ext wr W → W.cell? ⟨b1, i * 2, none⟩ = some (.slice aL (F[i]).1.length cL) ∧ W.cell? ⟨b1, i * 2 + 1, none⟩ = some (.slice aR (F[i]).2.length cR) ∧ W.cell? ⟨b2, i * 2, none⟩ = some (.slice aL2 (F[i]).1.length cL2) ∧ W.cell? ⟨b2, i * 2 + 1, none⟩ = some (.slice aR2 (F[i]).2.length cR2) := fun W hW =>
        ⟨(hW.cell (lt_of_cell l1)).trans l1, (hW.cell (lt_of_cell r1)).trans r1, (hW.cell (lt_of_cell l2)).trans l2, (hW.cell (lt_of_cell r2)).trans r2⟩
      have hxd : Ext wr wr.drew := ⟨rfl, rfl, rfl, Nat.le_refl _, fun _ _ => rfl⟩
      have HE := Lib.hid hE
      clear l1 r1 l2 r2 hE
      go_wp2_with fail
      refine wp_region_T (fun W => W.cell? ⟨b1, i * 2, none⟩ = some (.slice aL (F[i]).1.length cL) ∧ W.cell? ⟨b1, i * 2 + 1, none⟩ = some (.slice aR (F[i]).2.length cR) ∧ W.cell? ⟨b2, i * 2, none⟩ = some (.slice aL2 (F[i]).1.length cL2) ∧ W.cell? ⟨b2, i * 2 + 1, none⟩ = some (.slice aR2 (F[i]).2.length cR2)) [9] (by kernel_rfl) (hSx _ hxd) (fun hHeld => ?_)
      ((refine tkT (i := 0) (v := ?v1) (by simp only [gE]; rfl) hHeld (Or.inl ⟨by rfl, ?hy1⟩) ?r1; case hy1 => (intro w' hSw; (try dsimp only at hSw); go_simp; (try with_reducible rfl))); (try simp only [Act.put, nE]); (refine tkT (i := 1) (v := ?v2) (by simp only [gE]; rfl) hHeld (Or.inl ⟨by rfl, ?hy2⟩) ?r2; case hy2 => (intro w' hSw; (try dsimp only at hSw); go_simp; (try with_reducible rfl))); (try simp only [Act.put, nE]); (refine tkT (i := 2) (v := ?v3) (by simp only [gE]; rfl) hHeld (Or.inl ⟨by rfl, ?hy3⟩) ?r3; case hy3 => (intro w' hSw; (try dsimp only at hSw); go_simp; (try with_reducible rfl))); (try simp only [Act.put, nE]); (refine tkT (i := 3) (v := ?v4) (by simp only [gE]; rfl) hHeld (Or.inl ⟨by rfl, ?hy4⟩) ?r4; case hy4 => (intro w' hSw; (try dsimp only at hSw); go_simp; (try with_reducible rfl))); (try simp only [Act.put, nE]); (refine tkT (i := 4) (v := ?v5) (by simp only [gE]; rfl) hHeld (Or.inl ⟨by rfl, ?hy5⟩) ?r5; case hy5 => (intro w' hSw; (try dsimp only at hSw); go_simp; (try with_reducible rfl))); (try simp only [Act.put, nE]); (refine tkT (i := 5) (v := ?v6) (by simp only [gE]; rfl) hHeld (Or.inl ⟨by rfl, ?hy6⟩) ?r6; case hy6 => (intro w' hSw; (try dsimp only at hSw); go_simp; (try with_reducible rfl))); (try simp only [Act.put, nE]); (refine tkT (i := 6) (v := ?v7) (by simp only [gE]; rfl) hHeld (Or.inl ⟨by rfl, ?hy7⟩) ?r7; case hy7 => (intro w' hSw; (try dsimp only at hSw); go_simp; (try with_reducible rfl))); (try simp only [Act.put, nE]); (refine tkT (i := 7) (v := ?v8) (by simp only [gE]; rfl) hHeld (Or.inl ⟨by rfl, ?hy8⟩) ?r8; case hy8 => (intro w' hSw; (try dsimp only at hSw); go_simp; (try with_reducible rfl))); (try simp only [Act.put, nE]))
      (refine wpAnyT_step (i := 8) (o := _) (by kernel_rfl) (by simp only [gE]; rfl) (fun K hK => ?_); go_simp)
      refine (eqNode_any _ _ _ _ _ _ _ (iL.ext hxd) (iR.ext hxd) (iL2.ext hxd) (iR2.ext hxd)).mono ?_
      rintro e w1 ⟨rfl, hx⟩
      have hx2 := ext_trans hxd hx
      have hHeld := hSx _ hx2
      refine hK.out _ _ (fun _ => hHeld) ?_
      clear hK K
      (try simp only [Act.put, nE])
      refine wpAnyT_tail [9] [?o9_9] _ _ _ _ (by simp) (by kernel_rfl) (by rfl) (by simp only [List.map_cons, List.map_nil, gE]; rfl) ?_
      go_wp2_with fail
      go_roundw
      case rel => exact ⟨i + 1, by omega, by go_num, ext_trans HE.out hx2⟩
      case measure => simp [intOf]; omega
    · have h1 : ¬ (((i : Nat) : Int) < (F.length : Int)) := by omega
      go_wp2
      go_ret
      exact ⟨rfl, hE⟩

theorem eqForm_any (v u : Value) (F : Dag) (w : World) (h : Nodes w 0 v F) (k : Nodes w 0 u F) :
    Calls Tryz.prog 8 #[.agg #[v], .agg #[u]] w fun e w' => e = .returned (.bool true) ∧ Ext w w' := by
  obtain ⟨a, c, rfl⟩ := h.slice
  obtain ⟨a2, c2, rfl⟩ := k.slice
  have hE : Ext w ((w.alloc (.cells #[.slice a (List.length F) c] 28)).alloc (.cells #[.slice a2 (List.length F) c2] 28)) := by go_grown
  have b0 : ((w.alloc (.cells #[.slice a (List.length F) c] 28)).alloc (.cells #[.slice a2 (List.length F) c2] 28)).heap[w.heap.size]? = some (.cells #[.slice a (List.length F) c] 28 (0, 0)) := by
    rw [Below.heap_alloc _ _ _ (by simp)]; exact heap_alloc_new _ _
  have b1 : ((w.alloc (.cells #[.slice a (List.length F) c] 28)).alloc (.cells #[.slice a2 (List.length F) c2] 28)).heap[w.heap.size + 1]? = some (.cells #[.slice a2 (List.length F) c2] 28 (0, 0)) := by
    have h := heap_alloc_new (w.alloc (.cells #[.slice a (List.length F) c] 28)) (.cells #[.slice a2 (List.length F) c2] 28); rw [World.size_alloc] at h; exact h
  go_enter Tryz.func8, Tryz.ntmps8
  go_upto_region 1 with fail
  generalize (w.alloc (.cells #[.slice a (List.length F) c] 28)).alloc (.cells #[.slice a2 (List.length F) c2] 28) = W at *
  have c00 := cell_of_row W w.heap.size 0 _ _ _ b0
  have c10 := cell_of_row W (w.heap.size + 1) 0 _ _ _ b1
  go_wp2_with (go_at_call 24; refine (eqNodeS_any _ _ F _ (h.ext hE) (k.ext hE)).mono ?_; rintro e w1 ⟨rfl, hx⟩)
  go_ret
  exact ⟨rfl, ext_trans hE hx⟩

end Go.Proofs.YtjkdanmpihildaaGreatDoor
