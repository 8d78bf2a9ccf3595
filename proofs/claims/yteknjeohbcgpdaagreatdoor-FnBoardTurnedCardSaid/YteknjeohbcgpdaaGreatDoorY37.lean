/-
  Contracts of the comparisons: slices.Compare and cmp.Or at int, and the two function literals of order.
-/
import Derived.Test.YteknjeohbcgpdaaGreatDoorY35
set_option maxRecDepth 100000
namespace Go.Proofs.YteknjeohbcgpdaaGreatDoor
open Go.RowKit
open Cgt (Dag Nd vl)
open Go.Sort (grow grow_grow alloc_eq_grow grow_empty)

def Grew (w w' : World) : Prop := ∃ q os, w' = grow (w.drewN q) os
theorem Grew.refl (w : World) : Grew w w := ⟨0, #[], by rw [grow_empty]; rfl⟩
theorem Grew.drewN {w w1 : World} (h : Grew w w1) (n : Nat) : Grew w (w1.drewN n) := by
  obtain ⟨q, os, rfl⟩ := h
  exact ⟨q + n, os, by rw [← World.drewN_drewN]; rfl⟩
theorem Grew.alloc {w w1 : World} (h : Grew w w1) (X : Obj) : Grew w (w1.alloc X) := by
  obtain ⟨q, os, rfl⟩ := h
  exact ⟨q, os ++ #[X], by rw [alloc_eq_grow, grow_grow]⟩
theorem Grew.ext {w w1 : World} (h : Grew w w1) : Ext w w1 := by
  obtain ⟨q, os, rfl⟩ := h
  refine ⟨rfl, rfl, rfl, ?_, fun k hk => ?_⟩
  · show w.heap.size ≤ (w.heap ++ os).size; rw [Array.size_append]; omega
  · show (w.heap ++ os)[k]? = w.heap[k]?; rw [Array.getElem?_append_left hk]

theorem cl_prefix (p a b : List Nat) : Cgt.cl (p ++ a) (p ++ b) = Cgt.cl a b := by
  induction p with
  | nil => rfl
  | cons x p ih => simp [Cgt.cl, ih]
theorem cl_at {a b : List Nat} {k : Nat} (h : a.take k = b.take k) : Cgt.cl a b = Cgt.cl (a.drop k) (b.drop k) := by
  have e1 : a = a.take k ++ a.drop k := (List.take_append_drop k a).symm
  have e2 : b = a.take k ++ b.drop k := by rw [h]; exact (List.take_append_drop k b).symm
  conv => lhs; rw [e1, e2]
  exact cl_prefix _ _ _

set_option maxHeartbeats 2000000 in
theorem slicesCompare_any (v u : Value) (a b : List Nat) (w : World) (hv : Ints w v (toZ a)) (hu : Ints w u (toZ b)) (ha : ∀ x, x ∈ a → x < 900000000) (hb : ∀ x, x ∈ b → x < 900000000) :
    Calls Tryz.prog 114 #[v, u] w fun e w' => e = .returned (.int .i64 (Cgt.cl a b)) ∧ RD w w' := by
  obtain ⟨av, cv, rfl, hv1, hv2, hv3⟩ := hv
  obtain ⟨au, cu, rfl, hu1, hu2, hu3⟩ := hu
  rw [toZ_len] at hv1 hv2 hv3 hu1 hu2 hu3 ⊢
  rw [toZ_len]
  go_enter Tryz.func114, Tryz.ntmps114
  go_wp2
  go_loopw [5, 6, 7, 8, 11] (fun _ _ _ _ ii wr => ∃ k : Nat, k ≤ a.length ∧ ii = .int .i64 ((k : Nat) : Int) ∧ RD w wr ∧ Hid (a.take k = b.take k)) (fun _ _ _ _ ii _ => a.length - (intOf ii).toNat)
  case atStart => exact ⟨0, Nat.zero_le _, rfl, rd0 _, by simp [Hid]⟩
  case round =>
    obtain ⟨k, hk, rfl, ⟨n, rfl⟩, HE⟩ := hrel
    by_cases hlt : k < a.length
    · have h1 : ((k : Nat) : Int) < ((a.length : Nat) : Int) := by omega
      obtain ⟨b1, o1, rfl, hc1⟩ := hv3 (by omega)
      have hck := hc1 k hlt
      rw [toZ_zat hlt] at hck
      have hax := ha _ (List.getElem_mem hlt)
      by_cases hkb : k < b.length
      · have h2 : ¬ (((b.length : Nat) : Int) ≤ ((k : Nat) : Int)) := by omega
        obtain ⟨b2, o2, rfl, hc2⟩ := hu3 (by omega)
        have hck2 := hc2 k hkb
        rw [toZ_zat hkb] at hck2
        have hbx := hb _ (List.getElem_mem hkb)
        have HD := Lib.hid (cl_at HE.out)
        have e1 : a.drop k = a[k] :: a.drop (k + 1) := List.drop_eq_getElem_cons hlt
        have e2 : b.drop k = b[k] :: b.drop (k + 1) := List.drop_eq_getElem_cons hkb
        have ht1 : a.take (k + 1) = a.take k ++ [a[k]] := List.take_succ_eq_append_getElem hlt
        have ht2 : b.take (k + 1) = b.take k ++ [b[k]] := List.take_succ_eq_append_getElem hkb
        obtain ⟨x, hx⟩ : ∃ x, x = a[k] := ⟨_, rfl⟩
        obtain ⟨y, hy⟩ : ∃ y, y = b[k] := ⟨_, rfl⟩
        rw [← hx] at e1 ht1 hck hax
        rw [← hy] at e2 ht2 hck2 hbx
        have HEQ := Lib.hid (And.intro e1 (And.intro e2 (And.intro ht1 ht2)))
        clear hc1 hc2 e1 e2 ht1 ht2 hx hy
        by_cases hxy : x = y
        · subst hxy
          have e0 : Lib.compareInt (x : Int) (x : Int) = 0 := by simp [Lib.compareInt]
          go_wp2_with (go_at_call 113; refine (Tryz.cmp_Compare_int _ _ _).mono ?_; rw [e0]; rintro e w2 ⟨rfl, hw2⟩; subst hw2)
          go_roundw
          case rel => exact ⟨k + 1, by omega, by go_num, ⟨_, rfl⟩, Lib.hid (by rw [HEQ.out.2.2.1, HEQ.out.2.2.2, HE.out])⟩
          case measure => simp [intOf]; omega
        · obtain ⟨c, hc⟩ : ∃ c, c = Lib.compareInt (x : Int) (y : Int) := ⟨_, rfl⟩
          have hc0 : (c == 0) = false := by rw [hc]; unfold Lib.compareInt; simp; split <;> (try split) <;> omega
          have HC := Lib.hid (show Cgt.cl a b = c by
            rw [HD.out, HEQ.out.1, HEQ.out.2.1, hc]
            simp only [Cgt.cl, Lib.compareInt]
            by_cases l1 : x < y
            · rw [if_pos l1, if_pos (by omega)]
            · rw [if_neg l1, if_pos (show y < x by omega), if_neg (show ¬ ((x : Int) < (y : Int)) by omega), if_pos (show (x : Int) > (y : Int) by omega)])
          have HCE := Lib.hid hc
          clear hc
          go_wp2_with (go_at_call 113; refine (Tryz.cmp_Compare_int _ _ _).mono ?_; rw [← HCE.out]; rintro e w2 ⟨rfl, hw2⟩; subst hw2)
          go_ret
          exact ⟨ret_int HC.out.symm, ⟨_, rfl⟩⟩
      · have h2 : ((b.length : Nat) : Int) ≤ ((k : Nat) : Int) := by omega
        have HD := Lib.hid (show Cgt.cl a b = 1 by
          rw [cl_at HE.out, List.drop_eq_nil_of_le (show b.length ≤ k by omega), List.drop_eq_getElem_cons hlt]; rfl)
        clear hc1
        go_wp2
        go_ret
        exact ⟨ret_int HD.out.symm, ⟨_, rfl⟩⟩
    · have h1 : ¬ (((k : Nat) : Int) < ((a.length : Nat) : Int)) := by omega
      have hke : k = a.length := by omega
      subst hke
      by_cases hlb : a.length < b.length
      · have h2 : ((a.length : Nat) : Int) < ((b.length : Nat) : Int) := by omega
        have HD := Lib.hid (show Cgt.cl a b = -1 by
          rw [cl_at HE.out, List.drop_eq_nil_of_le (Nat.le_refl _), List.drop_eq_getElem_cons hlb]; rfl)
        go_wp2
        go_ret
        exact ⟨ret_int HD.out.symm, ⟨_, rfl⟩⟩
      · have h2 : ¬ (((a.length : Nat) : Int) < ((b.length : Nat) : Int)) := by omega
        have HD := Lib.hid (show Cgt.cl a b = 0 by
          rw [cl_at HE.out, List.drop_eq_nil_of_le (Nat.le_refl _), List.drop_eq_nil_of_le (show b.length ≤ a.length by omega)]; rfl)
        go_wp2
        go_ret
        exact ⟨ret_int HD.out.symm, ⟨_, rfl⟩⟩

def orZ (x y : Int) : Int := if x ≠ 0 then x else y
theorem cmpOr_any (b : Nat) (x y : Int) (w : World) (h0 : w.cell? ⟨b, 0, none⟩ = some (.int .i64 x)) (h1 : w.cell? ⟨b, 1, none⟩ = some (.int .i64 y)) :
    Calls Tryz.prog 112 #[.slice (some ⟨b, 0, none⟩) 2 2] w fun e w' => e = .returned (.int .i64 (orZ x y)) ∧ RD w w' := by
  go_enter Tryz.func112, Tryz.ntmps112
  go_wp2
  go_loopw [5, 8] (fun _ ii wr => ∃ k : Nat, k ≤ 2 ∧ ii = .int .i64 ((k : Nat) : Int) ∧ RD w wr ∧ Hid ((1 ≤ k → x = 0) ∧ (2 ≤ k → y = 0))) (fun _ ii _ => 2 - (intOf ii).toNat)
  case atStart => exact ⟨0, Nat.zero_le _, rfl, rd0 _, by simp [Hid]⟩
  case round =>
    obtain ⟨k, hk, rfl, ⟨n, rfl⟩, HE⟩ := hrel
    rcases two_cases hk with rfl | rfl | rfl
    · by_cases hx : x = 0
      · subst hx
        go_wp2
        go_roundw
        case rel => exact ⟨1, by omega, by go_num, ⟨_, rfl⟩, Lib.hid ⟨by simp, fun h => by omega⟩⟩
        case measure => simp [intOf]
      · have hx0 : (x == 0) = false := by simpa using hx
        have HX := Lib.hid hx
        clear hx
        go_wp2
        go_ret
        exact ⟨ret_int (by unfold orZ; rw [if_pos HX.out]), ⟨_, rfl⟩⟩
    · have HX := Lib.hid (HE.out.1 (by omega))
      by_cases hy : y = 0
      · subst hy
        go_wp2
        go_roundw
        case rel => exact ⟨2, by omega, by go_num, ⟨_, rfl⟩, Lib.hid ⟨fun _ => HX.out, by simp⟩⟩
        case measure => simp [intOf]
      · have hy0 : (y == 0) = false := by simpa using hy
        clear hy
        go_wp2
        go_ret
        exact ⟨ret_int (by unfold orZ; rw [if_neg (by simp [HX.out])]), ⟨_, rfl⟩⟩
    · have HX := Lib.hid (And.intro (HE.out.1 (by omega)) (HE.out.2 (by omega)))
      go_wp2
      go_ret
      exact ⟨ret_int (by unfold orZ; rw [if_neg (by simp [HX.out.1]), HX.out.2]), ⟨_, rfl⟩⟩

def rowsBorn : List Row := [⟨0, [], 7, [2]⟩, ⟨1, [0], 8, [6]⟩, ⟨2, [1], 9, [7]⟩, ⟨3, [2], 10, [8]⟩, ⟨4, [], 11, [0]⟩, ⟨5, [3, 4], 12, [9, 10]⟩, ⟨6, [5], 13, [11]⟩, ⟨7, [], 14, [2]⟩, ⟨8, [7], 15, [13]⟩, ⟨9, [8], 16, [14]⟩, ⟨10, [9], 17, [15]⟩, ⟨11, [], 18, [1]⟩, ⟨12, [10, 11], 19, [16, 17]⟩, ⟨13, [12], 20, [18]⟩, ⟨14, [6, 13], 21, [12, 19]⟩, ⟨15, [14, 14, 0, 1, 2, 3, 4, 5, 6, 7, 8, 9, 10, 11, 12, 13, 14], 6, [20]⟩]
set_option maxHeartbeats 2000000 in
theorem order1_any (pb gb cb n x y : Nat) (bx by_ : Nat) (pp : Nat) (w : World) (h0 : w.cell? ⟨pb, 0, none⟩ = some (.pointer (some ⟨pp, 0, none⟩))) (h2 : w.cell? ⟨pp, 2, none⟩ = some (.slice (some ⟨gb, 0, none⟩) n cb)) (hn : n ≤ 900000) (hx : x < n) (hy : y < n) (hbx : w.cell? ⟨gb, x, none⟩ = some (.int .i64 (bx : Int))) (hby : w.cell? ⟨gb, y, none⟩ = some (.int .i64 (by_ : Int))) :
    Calls Tryz.prog 164 #[.int .i64 (x : Int), .int .i64 (y : Int), .pointer (some ⟨pb, 0, none⟩)] w fun e w' => e = .returned (.int .i64 (Lib.compareInt (bx : Int) (by_ : Int))) ∧ RD w w' := by
  go_enter Tryz.func164, Tryz.ntmps164
  go_upto_region 1 with fail
  refine wp_region_L (fun W => W.cell? ⟨pb, 0, none⟩ = some (.pointer (some ⟨pp, 0, none⟩)) ∧ W.cell? ⟨pp, 2, none⟩ = some (.slice (some ⟨gb, 0, none⟩) n cb) ∧ W.cell? ⟨gb, x, none⟩ = some (.int .i64 (bx : Int)) ∧ W.cell? ⟨gb, y, none⟩ = some (.int .i64 (by_ : Int))) [14, 15] rowsBorn (by kernel_rfl) ⟨by kernel_rfl, by kernel_rfl, by kernel_rfl⟩ ⟨h0, h2, hbx, hby⟩ (fun hTab hHeld => ?_)
  ((refine tkB hTab (i := 0) hHeld ?_); (try simp only [nP]); (refine tkB hTab (i := 1) hHeld ?_); (try simp only [nP]); (refine tkB hTab (i := 2) hHeld ?_); (try simp only [nP]); (refine tkB hTab (i := 3) hHeld ?_); (try simp only [nP]); (refine tkB hTab (i := 4) hHeld ?_); (try simp only [nP]); (refine tkB hTab (i := 5) hHeld ?_); (try simp only [nP]); (refine tkB hTab (i := 6) hHeld ?_); (try simp only [nP]); (refine tkB hTab (i := 7) hHeld ?_); (try simp only [nP]); (refine tkB hTab (i := 8) hHeld ?_); (try simp only [nP]); (refine tkB hTab (i := 9) hHeld ?_); (try simp only [nP]); (refine tkB hTab (i := 10) hHeld ?_); (try simp only [nP]); (refine tkB hTab (i := 11) hHeld ?_); (try simp only [nP]); (refine tkB hTab (i := 12) hHeld ?_); (try simp only [nP]); (refine tkB hTab (i := 13) hHeld ?_); (try simp only [nP]))
  refine tlB hTab [14, 15] [_, _] ?_
  clear hTab hHeld
  go_wp2_with (go_at_call 113; refine (Tryz.cmp_Compare_int _ _ _).mono ?_; rintro e w2 ⟨rfl, hw2⟩; subst hw2)
  go_ret
  exact ⟨rfl, ⟨1, rfl⟩⟩

theorem new2_0 (w : World) (x y : Value) (e : TypeId) : (w.alloc (.cells #[x, y] e)).cell? ⟨w.heap.size, 0, none⟩ = some x := (World.cell?_alloc_at (w := w) #[x, y] e _ 0 rfl)
theorem new2_1 (w : World) (x y : Value) (e : TypeId) : (w.alloc (.cells #[x, y] e)).cell? ⟨w.heap.size, 1, none⟩ = some y := (World.cell?_alloc_at (w := w) #[x, y] e _ 1 rfl)
def rowsNode : List Row := [⟨0, [], 6, [2]⟩, ⟨1, [0], 7, [5]⟩, ⟨2, [1], 8, [6]⟩, ⟨3, [], 9, [3]⟩, ⟨4, [3], 10, [8]⟩, ⟨5, [4], 11, [9]⟩, ⟨6, [2, 5], 12, [7, 10]⟩, ⟨7, [], 13, [2]⟩, ⟨8, [7], 14, [12]⟩, ⟨9, [8], 15, [13]⟩, ⟨10, [], 16, [3]⟩, ⟨11, [10], 17, [15]⟩, ⟨12, [11], 18, [16]⟩, ⟨13, [9, 12, 6], 19, [14, 17]⟩, ⟨14, [6, 13], 20, [11, 18]⟩, ⟨15, [14, 13], 21, [19]⟩, ⟨16, [15, 15, 0, 1, 2, 3, 4, 5, 6, 7, 8, 9, 10, 11, 12, 13, 14, 15], 5, [20]⟩]
set_option maxHeartbeats 2000000 in
theorem order2_any (x y : Nat) (l1 r1 l2 r2 : Value) (L1 R1 L2 R2 : List Nat) (w : World) (hl1 : Ints w l1 (toZ L1)) (hr1 : Ints w r1 (toZ R1)) (hl2 : Ints w l2 (toZ L2)) (hr2 : Ints w r2 (toZ R2)) (b1 : ∀ x, x ∈ L1 → x < 900000000) (b2 : ∀ x, x ∈ R1 → x < 900000000) (b3 : ∀ x, x ∈ L2 → x < 900000000) (b4 : ∀ x, x ∈ R2 → x < 900000000) :
    Calls Tryz.prog 167 #[.agg #[.int .i64 (x : Int), l1, r1], .agg #[.int .i64 (y : Int), l2, r2]] w fun e w' => e = .returned (.int .i64 (Cgt.nc (L1, R1) (L2, R2))) ∧ Grew w w' := by
  obtain ⟨a1, c1, rfl, -⟩ := id hl1
  obtain ⟨a2, c2, rfl, -⟩ := id hr1
  obtain ⟨a3, c3, rfl, -⟩ := id hl2
  obtain ⟨a4, c4, rfl, -⟩ := id hr2
  rw [toZ_len] at hl1 hr1 hl2 hr2
  simp only [toZ_len]
  go_enter Tryz.func167, Tryz.ntmps167
  go_upto_region 1 with fail
  have hG0 : Grew w ((w.alloc (.cells #[.int .i64 (x : Int), .slice a1 L1.length c1, .slice a2 R1.length c2] 192)).alloc (.cells #[.int .i64 (y : Int), .slice a3 L2.length c3, .slice a4 R2.length c4] 192)) := ((Grew.refl w).alloc _).alloc _
  have hb1 : ((w.alloc (.cells #[.int .i64 (x : Int), .slice a1 L1.length c1, .slice a2 R1.length c2] 192)).alloc (.cells #[.int .i64 (y : Int), .slice a3 L2.length c3, .slice a4 R2.length c4] 192)).heap[w.heap.size]? = some (.cells #[.int .i64 (x : Int), .slice a1 L1.length c1, .slice a2 R1.length c2] 192 (0, 0)) := by
    rw [Below.heap_alloc _ _ _ (by rw [World.size_alloc]; omega)]; exact heap_alloc_new w _
  have hb2 : ((w.alloc (.cells #[.int .i64 (x : Int), .slice a1 L1.length c1, .slice a2 R1.length c2] 192)).alloc (.cells #[.int .i64 (y : Int), .slice a3 L2.length c3, .slice a4 R2.length c4] 192)).heap[w.heap.size + 1]? = some (.cells #[.int .i64 (y : Int), .slice a3 L2.length c3, .slice a4 R2.length c4] 192 (0, 0)) :=
    alloc_at (by rw [World.size_alloc])
  generalize (w.alloc (.cells #[.int .i64 (x : Int), .slice a1 L1.length c1, .slice a2 R1.length c2] 192)).alloc (.cells #[.int .i64 (y : Int), .slice a3 L2.length c3, .slice a4 R2.length c4] 192) = W0 at *
  have hx0 := hG0.ext
  have d1 := cell_of_row W0 w.heap.size 1 _ _ _ hb1
  have d2 := cell_of_row W0 w.heap.size 2 _ _ _ hb1
  have d3 := cell_of_row W0 (w.heap.size + 1) 1 _ _ _ hb2
  have d4 := cell_of_row W0 (w.heap.size + 1) 2 _ _ _ hb2
  have i1 := hl1.ext hx0
  have i2 := hr1.ext hx0
  have i3 := hl2.ext hx0
  have i4 := hr2.ext hx0
  refine wp_region_L (fun W => W.cell? ⟨w.heap.size, 1, none⟩ = some (.slice a1 L1.length c1) ∧ W.cell? ⟨w.heap.size, 2, none⟩ = some (.slice a2 R1.length c2) ∧ W.cell? ⟨w.heap.size + 1, 1, none⟩ = some (.slice a3 L2.length c3) ∧ W.cell? ⟨w.heap.size + 1, 2, none⟩ = some (.slice a4 R2.length c4)) [14, 15, 16] rowsNode (by kernel_rfl) ⟨by kernel_rfl, by kernel_rfl, by kernel_rfl⟩ ⟨d1, d2, d3, d4⟩ (fun hTab hHeld => ?_)
  ((refine tkB hTab (i := 0) hHeld ?_); (try simp only [nP]); (refine tkB hTab (i := 1) hHeld ?_); (try simp only [nP]); (refine tkB hTab (i := 2) hHeld ?_); (try simp only [nP]); (refine tkB hTab (i := 3) hHeld ?_); (try simp only [nP]); (refine tkB hTab (i := 4) hHeld ?_); (try simp only [nP]); (refine tkB hTab (i := 5) hHeld ?_); (try simp only [nP]); (refine tkB hTab (i := 7) hHeld ?_); (try simp only [nP]); (refine tkB hTab (i := 8) hHeld ?_); (try simp only [nP]); (refine tkB hTab (i := 9) hHeld ?_); (try simp only [nP]); (refine tkB hTab (i := 10) hHeld ?_); (try simp only [nP]); (refine tkB hTab (i := 11) hHeld ?_); (try simp only [nP]); (refine tkB hTab (i := 12) hHeld ?_); (try simp only [nP]))
  (refine stB hTab (i := 6) fun K hK => ?_; go_simp)
  refine (slicesCompare_any _ _ L1 L2 _ (i1.ext (rd_ext ⟨1, rfl⟩)) (i3.ext (rd_ext ⟨1, rfl⟩)) b1 b3).mono ?_
  rintro e w2 ⟨rfl, n2, rfl⟩
  (refine hK.out _ _ (fun _ => ?_) ?_)
  · exact hHeld
  clear hK K
  (try simp only [nP])
  (refine stB hTab (i := 13) fun K hK => ?_; go_simp)
  refine (slicesCompare_any _ _ R1 R2 _ (i2.ext (rd_ext ⟨1 + n2, by rw [← World.drewN_drewN]⟩)) (i4.ext (rd_ext ⟨1 + n2, by rw [← World.drewN_drewN]⟩)) b2 b4).mono ?_
  rintro e w3 ⟨rfl, n3, rfl⟩
  (refine hK.out _ _ (fun _ => ?_) ?_)
  · exact hHeld
  clear hK K
  (try simp only [nP])
  refine tlB hTab [14, 15, 16] [_, _, _] ?_
  clear hTab hHeld d1 d2 d3 d4 hb1 hb2
  go_wp2_with (go_at_call 112; refine (cmpOr_any _ (Cgt.cl L1 L2) (Cgt.cl R1 R2) _ (new2_0 _ _ _ _) (new2_1 _ _ _ _)).mono ?_; rintro e w5 ⟨rfl, n5, rfl⟩)
  go_ret
  exact ⟨rfl, ((hG0.drewN (1 + n2 + n3)).alloc _).drewN n5⟩

end Go.Proofs.YteknjeohbcgpdaaGreatDoor
