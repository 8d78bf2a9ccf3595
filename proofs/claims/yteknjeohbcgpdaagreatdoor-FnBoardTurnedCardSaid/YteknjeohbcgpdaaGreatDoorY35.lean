/-
  Contract of the program's births: the birthdays of a form's nodes. (4 texts.)
-/
import Derived.Test.YteknjeohbcgpdaaGreatDoorY7
import Derived.Test.YteknjeohbcgpdaaGreatDoorY21
import Derived.Test.YteknjeohbcgpdaaGreatDoorY22
import Derived.Test.YteknjeohbcgpdaaGreatDoorY34
set_option maxRecDepth 100000
namespace Go.Proofs.YteknjeohbcgpdaaGreatDoor
section
open Go.RowKit

theorem own_set {w : World} {B e g n cap k : Nat} {l : List Int} (h : w.ownsRow B e 1 (.slice (some ⟨g, 0, none⟩) n cap) n (l.map (Value.int .i64))) (hk : k < n) (x : Int) :
    (w.setCell ⟨g, k, none⟩ (.int .i64 x)).ownsRow B e 1 (.slice (some ⟨g, 0, none⟩) n cap) n ((l.set k x).map (Value.int .i64)) := by
  obtain ⟨hl, h2⟩ := h
  refine ⟨by simpa using hl, ?_⟩
  rcases h2 with ⟨e1, _⟩ | ⟨g', cap', cur, e1, hb, hg, hnc, hcm, hcs, ht⟩
  · simp at e1
  · simp only [Value.slice.injEq, Option.some.injEq, Addr.mk.injEq, and_true, true_and] at e1
    obtain ⟨rfl, rfl⟩ := e1
    refine .inr ⟨g, cap, cur.setIfInBounds k (.int .i64 x), rfl, hb, heap_setCell_same _ _ _ _ _ _ hg, hnc, hcm, by simp [hcs], ?_⟩
    rw [Array.toList_setIfInBounds, List.map_set, ← ht, List.take_set]
theorem sorted_nodup (l : List Nat) (h : l.Nodup) : ((toZ l).mergeSort fun x y => decide (x ≤ y)) = toZ (sortN l) := by
  generalize hms : ((toZ l).mergeSort fun x y => decide (x ≤ y)) = ms
  have hs : ms.Pairwise (· ≤ ·) := by
    rw [← hms]
    have := List.pairwise_mergeSort (le := fun x y : Int => decide (x ≤ y)) (fun a b c h1 h2 => by simp at *; omega) (fun a b => by simp; omega) (toZ l)
    exact this.imp (fun h => by simpa using h)
  have hp : ms.Perm (toZ l) := by rw [← hms]; exact List.mergeSort_perm _ _
  have hnd : ms.Nodup := hp.symm.nodup (by rw [toZ, List.Nodup, List.pairwise_map]; exact h.imp (fun h e => h (by omega)))
  have ha : ms.Pairwise (· < ·) := (hs.and hnd).imp (fun h => by omega)
  have hnn : ∀ x, x ∈ ms → ∃ n : Nat, x = (n : Int) := fun x hx => by obtain ⟨n, _, e⟩ := toZ_mem (hp.mem_iff.1 hx); exact ⟨n, e⟩
  have e1 : ms = toZ (ms.map Int.toNat) := by
    unfold toZ
    rw [List.map_map]
    conv => lhs; rw [← List.map_id ms]
    refine List.map_congr_left fun x hx => ?_
    obtain ⟨n, rfl⟩ := hnn x hx
    rfl
  rw [e1]
  congr 1
  refine Cgt.asc_ext ?_ (sortN_asc l) (fun x => ?_)
  · unfold Cgt.Asc
    rw [List.pairwise_map]
    refine List.Pairwise.imp_of_mem (fun {a b} ha hb h => ?_) ha
    obtain ⟨n, rfl⟩ := hnn a ha
    obtain ⟨m, rfl⟩ := hnn b hb
    simp; omega
  · rw [sortN_mem]
    have hm : (x : Int) ∈ ms ↔ x ∈ l := by
      rw [hp.mem_iff]
      exact ⟨fun h => by obtain ⟨n, hn, e⟩ := toZ_mem h; rw [show x = n by omega]; exact hn, fun h => List.mem_map.2 ⟨x, h, rfl⟩⟩
    rw [← hm]
    constructor
    · intro h
      obtain ⟨y, hy, rfl⟩ := List.mem_map.1 h
      obtain ⟨n, rfl⟩ := hnn y hy
      exact hy
    · intro h
      exact List.mem_map.2 ⟨(x : Int), h, rfl⟩

theorem zeros_own (w : World) (n : Nat) (hn : n ≤ 1000000) : (w.alloc (.cells (madeCells #[Value.int .i64 0] n) 3)).ownsRow w.heap.size 3 1 (.slice (some ⟨w.heap.size, 0, none⟩) n n) n ((List.replicate n (0 : Int)).map (Value.int .i64)) := by
  have h := World.ownsRow_lit w (base := w.heap.size) (madeCells #[Value.int .i64 0] n) n (e := 3) (size := 1) (Nat.le_refl _) (by unfold maxLen; omega) (by rw [size_madeCells]; simp)
  rw [made_zeros] at h
  exact h

def RankPost (l : List Nat) (w : World) (e : Ending) (w' : World) : Prop := ∃ v', e = .returned v' ∧ w'.ownsRow w.heap.size 3 1 v' (sortN l).length ((toZ (sortN l)).map (Value.int .i64)) ∧ Ext w w'

theorem ranks_set {l : List Nat} {rk : Nat → Nat} {k : Nat} (hk : k < l.length) : (toZ ((l.take k).map rk) ++ List.replicate (l.length - k) 0).set k (rk l[k] : Int) = toZ ((l.take (k + 1)).map rk) ++ List.replicate (l.length - (k + 1)) 0 := by
  have h1 : (toZ ((l.take k).map rk)).length = k := by rw [toZ_len, List.length_map, List.length_take]; omega
  rw [List.set_append_right _ _ (by omega), h1, Nat.sub_self, List.take_succ_eq_append_getElem hk, List.map_append, toZ_app, List.append_assoc]
  congr 1
  rw [show l.length - k = (l.length - (k + 1)) + 1 by omega, List.replicate_succ]
  rfl

set_option maxHeartbeats 4000000 in
theorem ranked_any (v : Value) (O : List Nat) (rb n : Nat) (fm : Value → Option Value) (rk : Nat → Nat) (w : World) (hv : Ints w v (toZ O)) (hO : O.length ≤ 1000000) (hOl : ∀ x, x ∈ O → x < 900000000) (hM : MapIs Tryz.prog 3 w rb n fm) (hf : ∀ x, x ∈ O → fm (.int .i64 (x : Int)) = some (.int .i64 (rk x : Int))) (hnd : (O.map rk).Nodup) :
    Calls Tryz.prog 165 #[v, .map (some rb)] w (RankPost (O.map rk) w) := by
  obtain ⟨i0, hi0, hz0, hz1, hz2⟩ := info_parts info_int
  obtain ⟨a, cap, rfl, hlc, hcap, hc⟩ := hv
  rw [toZ_len] at hlc hcap hc ⊢
  have hmk := fun w : World => run_make (P := Tryz.prog) w 80 3 i0 (.int .i64 0) Tryz.underlying80 hi0 hz0 .i64 .i64 (O.length : Int) (O.length : Int) (by omega) (by omega) (by rw [hz2]; omega) (by omega)
  simp only [hz1, Nat.mul_one, Int.toNat_natCast] at hmk
  have hown0 := zeros_own w O.length hO
  have hx0 : Ext w (w.alloc (.cells (madeCells #[Value.int .i64 0] O.length) 3)) := by go_grown
  go_enter Tryz.func165, Tryz.ntmps165
  go_upto_region 2 with fail
  generalize w.alloc (.cells (madeCells #[Value.int .i64 0] O.length) 3) = W0 at *
  clear hmk
  go_wp2
  go_loopw [6, 7, 13] (fun _ _ ii wr => ∃ k : Nat, k ≤ O.length ∧ ii = .int .i64 ((k : Nat) : Int) ∧ wr.ownsRow w.heap.size 3 1 (.slice (some ⟨w.heap.size, 0, none⟩) O.length O.length) O.length ((toZ ((O.take k).map rk) ++ List.replicate (O.length - k) 0).map (Value.int .i64)) ∧ Ext w wr) (fun _ _ ii _ => O.length - (intOf ii).toNat)
  case atStart => exact ⟨0, Nat.zero_le _, rfl, by simpa [toZ] using hown0, hx0⟩
  case round =>
    clear hown0 hx0
    obtain ⟨k, hk, rfl, hown, hx⟩ := hrel
    by_cases hlt : k < O.length
    · have h1 : ((k : Nat) : Int) < ((O.length : Nat) : Int) := by omega
      obtain ⟨b, off, rfl, hcell⟩ := hc (by omega)
      have hck := hcell k hlt
      rw [toZ_zat hlt] at hck
      have hck1 := (hx.cell (lt_of_cell hck)).trans hck
      have hfx := hf _ (List.getElem_mem hlt)
      have hxl := hOl _ (List.getElem_mem hlt)
      have HS := Lib.hid (ranks_set (rk := rk) hlt)
      obtain ⟨x, hxe⟩ : ∃ x, x = O[k] := ⟨_, rfl⟩
      rw [← hxe] at hck hck1 hfx hxl HS
      obtain ⟨kl, hkl⟩ := keyOfI x (by omega)
      have hlk := (hM.keep (hx.block rb hM.lt)).look keyedI Tryz.underlying135 (zeroI wr) hkl false
      rw [hfx] at hlk
      simp only [Option.getD_some, Bool.false_eq_true, if_false] at hlk
      have hcz := hown.cellAt k (by omega)
      obtain ⟨u, hu⟩ : ∃ u, wr.cell? ⟨w.heap.size, k, none⟩ = some u := by
        have := hown.1
        rw [hcz]
        exact ⟨_, List.getElem?_eq_getElem (by rw [this]; omega)⟩
      have hfr : wr.frozen? ⟨w.heap.size, k, none⟩ = false := hown.frozenAt k
      clear hcell hxe hcz
      go_wp2
      go_roundw
      case rel => exact ⟨k + 1, by omega, by go_num, by rw [← HS.out]; exact own_set hown hlt _, hx.setCell (p := ⟨w.heap.size, k, none⟩) (Nat.le_refl _) _⟩
      case measure => simp [intOf]; omega
    · have h1 : ¬ (((k : Nat) : Int) < ((O.length : Nat) : Int)) := by omega
      have hke : k = O.length := by omega
      subst hke
      rw [List.take_length, Nat.sub_self, List.replicate_zero, List.append_nil] at hown
      have hsl : (sortN (O.map rk)).length = O.length := by
        have := congrArg List.length (sorted_nodup (O.map rk) hnd)
        rw [List.length_mergeSort, toZ_len, toZ_len, List.length_map] at this; exact this.symm
      rcases Nat.eq_zero_or_pos O.length with hz | hz
      · have hOn : O = [] := List.eq_nil_of_length_eq_zero hz
        subst hOn
        go_wp2_with (go_at_call 201; refine (Tryz.slices_Sort_int_none _ _ _).mono ?_; rintro e w2 ⟨rfl, hw2⟩; subst hw2)
        go_ret
        exact ⟨_, rfl, by simpa [sortN, sortZ, toZ] using hown, hx⟩
      · have hll : (toZ (O.map rk)).length = O.length := by rw [toZ_len, List.length_map]
        have hSort := Tryz.slices_Sort_int w.heap.size 0 O.length (toZ (O.map rk)) wr (own_holds hown) (hown.lt _ rfl).2 (by omega)
        rw [hll] at hSort
        have HS := Lib.hid hSort
        have hms : ((toZ (O.map rk)).mergeSort fun x y => decide (x ≤ y)).length = (toZ (O.map rk)).length := List.length_mergeSort _
        have HMS := Lib.hid hms
        clear hSort hll hms
        go_wp2_with (go_at_call 201; refine HS.out.mono ?_; rintro e w2 ⟨rfl, m2, os2, hw2⟩)
        go_ret
        obtain ⟨ho2, hk2⟩ := own_put hown HMS.out m2 os2
        rw [← hw2] at ho2 hk2 ⊢
        rw [sorted_nodup _ hnd] at ho2
        refine ⟨_, rfl, by rw [hsl]; exact ho2, ⟨hk2.os.trans hx.os, hk2.tape.trans hx.tape, hk2.output.trans hx.output, Nat.le_trans hx.size hk2.size, fun k hk => ?_⟩⟩
        rw [hk2.block k (by have := hx.size; omega) (by omega)]; exact hx.block k hk
end
section
open Go.RowKit

def RenPost (l : List Nat) (w : World) (e : Ending) (w' : World) : Prop := ∃ v', e = .returned v' ∧ w'.ownsRow w.heap.size 3 1 v' l.length ((toZ l).map (Value.int .i64)) ∧ Ext w w'

set_option maxHeartbeats 4000000 in
theorem renamed_any (v vn : Value) (O N : List Nat) (rk : Nat → Nat) (w : World) (hv : Ints w v (toZ O)) (hn : Ints w vn (toZ N)) (hO : O.length ≤ 1000000) (hOl : ∀ x, x ∈ O → ∃ h : x < N.length, N[x] = rk x) :
    Calls Tryz.prog 170 #[v, vn] w (RenPost (O.map rk) w) := by
  obtain ⟨i0, hi0, hz0, hz1, hz2⟩ := info_parts info_int
  obtain ⟨a, cap, rfl, hlc, hcap, hc⟩ := hv
  obtain ⟨an, capn, rfl, hnlc, hncap, hnc⟩ := hn
  simp only [toZ_len] at hlc hcap hc hnlc hncap hnc ⊢
  have hmk := fun w : World => run_make (P := Tryz.prog) w 80 3 i0 (.int .i64 0) Tryz.underlying80 hi0 hz0 .i64 .i64 (O.length : Int) (O.length : Int) (by omega) (by omega) (by rw [hz2]; omega) (by omega)
  simp only [hz1, Nat.mul_one, Int.toNat_natCast] at hmk
  have hown0 := zeros_own w O.length hO
  have hx0 : Ext w (w.alloc (.cells (madeCells #[Value.int .i64 0] O.length) 3)) := by go_grown
  go_enter Tryz.func170, Tryz.ntmps170
  go_upto_region 2 with fail
  generalize w.alloc (.cells (madeCells #[Value.int .i64 0] O.length) 3) = W0 at *
  clear hmk
  go_wp2
  go_loopw [6, 7, 13] (fun _ _ ii wr => ∃ k : Nat, k ≤ O.length ∧ ii = .int .i64 ((k : Nat) : Int) ∧ wr.ownsRow w.heap.size 3 1 (.slice (some ⟨w.heap.size, 0, none⟩) O.length O.length) O.length ((toZ ((O.take k).map rk) ++ List.replicate (O.length - k) 0).map (Value.int .i64)) ∧ Ext w wr) (fun _ _ ii _ => O.length - (intOf ii).toNat)
  case atStart => exact ⟨0, Nat.zero_le _, rfl, by simpa [toZ] using hown0, hx0⟩
  case round =>
    clear hown0 hx0
    obtain ⟨k, hk, rfl, hown, hx⟩ := hrel
    by_cases hlt : k < O.length
    · have h1 : ((k : Nat) : Int) < ((O.length : Nat) : Int) := by omega
      obtain ⟨b, off, rfl, hcell⟩ := hc (by omega)
      have hck := hcell k hlt
      rw [toZ_zat hlt] at hck
      have hck1 := (hx.cell (lt_of_cell hck)).trans hck
      obtain ⟨hxl, hgd⟩ := hOl _ (List.getElem_mem hlt)
      obtain ⟨bn, offn, rfl, hncell⟩ := hnc (by omega)
      have hcn := hncell _ hxl
      rw [toZ_zat hxl] at hcn
      have hcn1 := (hx.cell (lt_of_cell hcn)).trans hcn
      have HS := Lib.hid (ranks_set (rk := rk) hlt)
      rw [hgd] at hcn1
      obtain ⟨x, hxe⟩ : ∃ x, x = O[k] := ⟨_, rfl⟩
      rw [← hxe] at hck hck1 hxl HS hcn1
      have hcz := hown.cellAt k (by omega)
      obtain ⟨u, hu⟩ : ∃ u, wr.cell? ⟨w.heap.size, k, none⟩ = some u := by
        have := hown.1
        rw [hcz]
        exact ⟨_, List.getElem?_eq_getElem (by rw [this]; omega)⟩
      have hfr : wr.frozen? ⟨w.heap.size, k, none⟩ = false := hown.frozenAt k
      clear hcell hxe hcz hgd hncell hcn hck
      go_wp2
      go_roundw
      case rel => exact ⟨k + 1, by omega, by go_num, by rw [← HS.out]; exact own_set hown hlt _, hx.setCell (p := ⟨w.heap.size, k, none⟩) (Nat.le_refl _) _⟩
      case measure => simp [intOf]; omega
    · have h1 : ¬ (((k : Nat) : Int) < ((O.length : Nat) : Int)) := by omega
      have hke : k = O.length := by omega
      subst hke
      rw [List.take_length, Nat.sub_self, List.replicate_zero, List.append_nil] at hown
      go_wp2
      go_ret
      exact ⟨_, rfl, by simpa using hown, hx⟩
end
section
open Go.RowKit

set_option maxHeartbeats 2000000 in
theorem goodOptions_any (v : Value) (O : List Nat) (n : Nat) (w : World) (hv : Ints w v (toZ O)) (h24 : O.length ≤ 24) (ha : Cgt.Asc O) (hl : ∀ x, x ∈ O → x < n) :
    Calls Tryz.prog 110 #[v, .int .i64 (n : Int)] w fun e w' => e = .returned (.bool true) ∧ Ext w w' := by
  obtain ⟨a, cap, rfl, hlc, hcap, hc⟩ := hv
  simp only [toZ_len] at hlc hcap hc ⊢
  have h241 : ¬ ((24 : Int) < (O.length : Int)) := by omega
  have HS := Lib.hid (And.intro ha hl)
  clear ha hl
  go_enter Tryz.func110, Tryz.ntmps110
  go_wp2
  go_loopw [5, 7, 13] (fun lv _ ii wr => ∃ (k : Nat) (z : Int), k ≤ O.length ∧ ii = .int .i64 ((k : Nat) : Int) ∧ lv = .int .i64 z ∧ Ext w wr ∧ Hid (∀ j (h : j < O.length), k ≤ j → z < (O[j] : Int))) (fun _ _ ii _ => O.length - (intOf ii).toNat)
  case atStart => exact ⟨0, -1, Nat.zero_le _, rfl, rfl, Below.refl _ _, fun j h _ => by omega⟩
  case round =>
    obtain ⟨k, z, hk, rfl, rfl, hx, HZ⟩ := hrel
    by_cases hlt : k < O.length
    · have h1 : ((k : Nat) : Int) < ((O.length : Nat) : Int) := by omega
      obtain ⟨b, off, rfl, hcell⟩ := hc (by omega)
      have hck := hcell k hlt
      rw [toZ_zat hlt] at hck
      have hck1 := (hx.cell (lt_of_cell hck)).trans hck
      have hz := HZ.out k hlt (Nat.le_refl _)
      have hxl := HS.out.2 _ (List.getElem_mem hlt)
      have HN : Hid (∀ j (h : j < O.length), k + 1 ≤ j → ((O[k] : Nat) : Int) < (O[j] : Int)) := fun j h h' => by
        have := List.pairwise_iff_getElem.1 HS.out.1 k j hlt h (by omega); omega
      obtain ⟨x, hxe⟩ : ∃ x, x = O[k] := ⟨_, rfl⟩
      rw [← hxe] at hck1 hz hxl HN
      have h2 : ¬ (((x : Nat) : Int) ≤ z) := by omega
      have h3 : ¬ (((n : Nat) : Int) ≤ ((x : Nat) : Int)) := by omega
      clear hcell hxe hck hz hxl
      go_wp2
      go_roundw
      case rel => exact ⟨k + 1, _, by omega, by go_num, rfl, hx, HN⟩
      case measure => simp [intOf]; omega
    · have h1 : ¬ (((k : Nat) : Int) < ((O.length : Nat) : Int)) := by omega
      go_wp2
      go_ret
      exact ⟨rfl, hx⟩
end
section
open Go.RowKit
open Cgt (Dag Nd Gm vl)

def brt (F : Dag) (i : Nat) : List Int := ((List.range i).map fun j => (Cgt.born (vl F j) : Int)) ++ List.replicate (F.length - i) 0
def brow (F : Dag) (i : Nat) (m : Int) : List Int := ((List.range i).map fun j => (Cgt.born (vl F j) : Int)) ++ m :: List.replicate (F.length - (i + 1)) 0
theorem brow_at {F : Dag} {i : Nat} {m : Int} : ((brow F i m).map (Value.int .i64))[i]? = some (.int .i64 m) := by
  rw [List.getElem?_map, brow, List.getElem?_append_right (by simp)]; simp
theorem brow_lt {F : Dag} {i x : Nat} {m : Int} (h : x < i) : ((brow F i m).map (Value.int .i64))[x]? = some (.int .i64 (Cgt.born (vl F x) : Int)) := by
  rw [List.getElem?_map, brow, List.getElem?_append_left (by simpa using h)]; simp [h]
theorem brow_set {F : Dag} {i : Nat} {m m' : Int} : (brow F i m).set i m' = brow F i m' := by
  unfold brow
  rw [List.set_append_right _ _ (by simp)]; simp
theorem brt_brow {F : Dag} {i : Nat} (h : i < F.length) : brt F i = brow F i 0 := by
  unfold brt brow
  rw [show F.length - i = (F.length - (i + 1)) + 1 by omega, List.replicate_succ]
theorem brow_done {F : Dag} {i : Nat} : brow F i (Cgt.born (vl F i) : Int) = brt F (i + 1) := by
  unfold brt brow
  rw [List.range_succ, List.map_append]; simp
theorem brt_zero (F : Dag) : brt F 0 = List.replicate F.length 0 := by simp [brt]
def BirthPost (F : Dag) (w : World) (e : Ending) (w' : World) : Prop := ∃ v', e = .returned v' ∧ w'.ownsRow w.heap.size 3 1 v' F.length ((brt F F.length).map (Value.int .i64)) ∧ Ext w w'
def rowsBirth8 : List Row := [⟨0, [], 28, [3]⟩, ⟨1, [], 29, [4]⟩, ⟨2, [], 30, [3]⟩, ⟨3, [], 31, [4]⟩, ⟨4, [2, 3], 32, [29, 30]⟩, ⟨5, [4], 33, [31]⟩, ⟨6, [], 34, [3]⟩, ⟨7, [], 35, [7]⟩, ⟨8, [6, 7], 36, [33, 34]⟩, ⟨9, [8], 37, [35]⟩, ⟨10, [9], 38, [36]⟩, ⟨11, [5, 10], 39, [32, 37]⟩, ⟨12, [0, 1, 0, 1, 2, 3, 4, 5, 6, 7, 8, 9, 10, 11], 40, [27, 28]⟩, ⟨13, [12, 11, 0, 1, 2, 3, 4, 5, 6, 7, 8, 9, 10, 11], 0, [39, 38]⟩]
def rowsBirth13 : List Row := [⟨0, [], 49, [3]⟩, ⟨1, [], 50, [4]⟩, ⟨2, [], 51, [3]⟩, ⟨3, [], 52, [4]⟩, ⟨4, [2, 3], 53, [50, 51]⟩, ⟨5, [4], 54, [52]⟩, ⟨6, [], 55, [3]⟩, ⟨7, [], 56, [9]⟩, ⟨8, [6, 7], 57, [54, 55]⟩, ⟨9, [8], 58, [56]⟩, ⟨10, [9], 59, [57]⟩, ⟨11, [5, 10], 60, [53, 58]⟩, ⟨12, [0, 1, 0, 1, 2, 3, 4, 5, 6, 7, 8, 9, 10, 11], 61, [48, 49]⟩, ⟨13, [12, 11, 0, 1, 2, 3, 4, 5, 6, 7, 8, 9, 10, 11], 0, [60, 59]⟩]

set_option maxHeartbeats 4000000 in
theorem births_any (v : Value) (F : Dag) (w : World) (hf : Nodes w 0 v F) (hF : Cgt.WF F) (hl : F.length ≤ 1000000) : Calls Tryz.prog 111 #[v] w (BirthPost F w) := by
  obtain ⟨i0, hi0, hz0, hz1, hz2⟩ := info_parts info_int
  obtain ⟨aF, capF, rfl, hcap, hml, -⟩ := id hf
  have hmk := fun w : World => run_make (P := Tryz.prog) w 80 3 i0 (.int .i64 0) Tryz.underlying80 hi0 hz0 .i64 .i64 (F.length : Int) (F.length : Int) (by omega) (by omega) (by rw [hz2]; omega) (by omega)
  simp only [hz1, Nat.mul_one, Int.toNat_natCast] at hmk
  have hown0 := zeros_own w F.length hl
  have hx0 : Ext w (w.alloc (.cells (madeCells #[Value.int .i64 0] F.length) 3)) := by go_grown
  go_enter Tryz.func111, Tryz.ntmps111
  go_upto_region 2 with fail
  generalize w.alloc (.cells (madeCells #[Value.int .i64 0] F.length) 3) = W0 at *
  clear hmk
  rw [← brt_zero] at hown0
  go_wp2
  go_loopw [4, 5, 15] (fun _ _ ii wr => ∃ i : Nat, i ≤ F.length ∧ ii = .int .i64 ((i : Nat) : Int) ∧ wr.ownsRow w.heap.size 3 1 (.slice (some ⟨w.heap.size, 0, none⟩) F.length F.length) F.length ((brt F i).map (Value.int .i64)) ∧ Ext w wr) (fun _ _ ii _ => F.length - (intOf ii).toNat)
  case atStart => exact ⟨0, Nat.zero_le _, rfl, hown0, hx0⟩
  case round =>
    clear hown0 hx0
    obtain ⟨i, hi, rfl, hown, hx⟩ := hrel
    by_cases hlt : i < F.length
    · have h1 : ((i : Nat) : Int) < ((F.length : Nat) : Int) := by omega
      obtain ⟨bF, cF, aL, cL, aR, cR, he, hcF, cl, cr, hiL, hiR⟩ := hf.at hlt
      simp only [Value.slice.injEq] at he
      obtain ⟨rfl, -, rfl⟩ := he
      have cl' := (hx.cell (lt_of_cell cl)).trans cl
      have cr' := (hx.cell (lt_of_cell cr)).trans cr
      have dk : F[i]? = some F[i] := List.getElem?_eq_getElem hlt
      obtain ⟨wk1, wk2⟩ := hF i _ dk
      obtain ⟨FL, hFL⟩ : ∃ l, l = (F[i]).1 := ⟨_, rfl⟩
      obtain ⟨FR, hFR⟩ : ∃ l, l = (F[i]).2 := ⟨_, rfl⟩
      rw [← hFL] at cl' hiL wk1
      rw [← hFR] at cr' hiR wk2
      have HF := Lib.hid hf
      have HK := Lib.hid (And.intro hFL hFR)
      have hxW : Ext wr (wr.alloc (.cells #[.slice aL FL.length cL, .slice aR FR.length cR] 89)) := by go_grown
      have hbW := heap_alloc_new wr (.cells #[.slice aL FL.length cL, .slice aR FR.length cR] 89)
      have hwz := (hown.lt _ rfl).2
      have hownW := own_keep hown hxW
      rw [brt_brow hlt] at hownW
      have hE := ext_trans hx hxW
      have hbo0 : bornTo F (FL.take 0) = 0 := rfl
      clear cl cr hf hFL hFR dk hown
      go_upto_region 5 with fail
      generalize wr.alloc (.cells #[.slice aL FL.length cL, .slice aR FR.length cR] 89) = W at *
      have c0 := cell_of_row W wr.heap.size 0 _ _ _ hbW
      have c1 := cell_of_row W wr.heap.size 1 _ _ _ hbW
      simp only [gE] at c0 c1
      generalize hnb : wr.heap.size = nb at *
      clear cl' cr' hx hxW hbW hnb wr hi
      obtain ⟨a', c', e, -, hlnL, hclL⟩ := hiL
      simp only [Value.slice.injEq, toZ_len, true_and] at e hlnL hclL
      obtain ⟨rfl, rfl⟩ := e
      obtain ⟨a', c', e, -, hlnR, hclR⟩ := hiR
      simp only [Value.slice.injEq, toZ_len, true_and] at e hlnR hclR
      obtain ⟨rfl, rfl⟩ := e
      have hbd : ∀ x, x < i → Cgt.born (vl F x) ≤ 1000000 := fun x hx => by have := Cgt.born_vl_le hF x; omega
      have WK1 := Lib.hid wk1
      have WK2 := Lib.hid wk2
      have HBD := Lib.hid hbd
      have HCL := Lib.hid hclL
      have HCR := Lib.hid hclR
      clear wk1 wk2 hbd hclL hclR
      go_wp2
      go_loopw [7, 23] (fun _ ii wr => ∃ k : Nat, k ≤ FL.length ∧ ii = .int .i64 ((k : Nat) : Int) ∧ wr.ownsRow w.heap.size 3 1 (.slice (some ⟨w.heap.size, 0, none⟩) F.length F.length) F.length ((brow F i (bornTo F (FL.take k))).map (Value.int .i64)) ∧ Ext w wr ∧ wr.cell? ⟨nb, 1, none⟩ = some (.slice aR FR.length cR)) (fun _ ii _ => FL.length - (intOf ii).toNat)
      case atStart => exact ⟨0, Nat.zero_le _, rfl, hownW, hE, c1⟩
      case round =>
        clear hownW hE c0 c1
        obtain ⟨k, hk, rfl, hown, hx, c1⟩ := hrel
        by_cases hk1 : k < FL.length
        · have h2 : ((k : Nat) : Int) < ((FL.length : Nat) : Int) := by omega
          obtain ⟨b, off, rfl, hcell⟩ := HCL.out (by omega)
          have hck := hcell k hk1
          rw [toZ_zat hk1] at hck
          have hck1 := (hx.cell (lt_of_cell hck)).trans hck
          have hxi := WK1.out _ (List.getElem_mem hk1)
          have hbx := HBD.out _ hxi
          have hbt := bornTo_bd hF (FL.take k) (fun x hx => by have := WK1.out x (List.mem_of_mem_take hx); omega)
          have HS := Lib.hid (bornTo_snoc F hk1)
          have q1 := (hown.cellAt i (by omega)).trans brow_at
          have q2 := (hown.cellAt FL[k] (by omega)).trans (brow_lt hxi)
          obtain ⟨x, hxe⟩ : ∃ x, x = FL[k] := ⟨_, rfl⟩
          obtain ⟨m, hm⟩ : ∃ m, m = bornTo F (FL.take k) := ⟨_, rfl⟩
          rw [← hxe] at hck1 hxi hbx HS q2
          rw [← hm] at hbt HS q1 hown
          obtain ⟨bx, hbe⟩ : ∃ bx, bx = Cgt.born (vl F x) := ⟨_, rfl⟩
          rw [← hbe] at hbx HS q2
          have hfr : wr.frozen? ⟨w.heap.size, i, none⟩ = false := hown.frozenAt i
          have hwk : wrap64 ((bx : Int) + 1) = (bx : Int) + 1 := by unfold wrap64; omega
          have hxF : ((x : Nat) : Int) < (F.length : Int) := by omega
          have HO := Lib.hid hown
          clear hcell hck hxe hm hbe hbt hbx hxi hown
          go_upto_region 8 with fail
          refine wp_region_L (fun V => V.cell? ⟨w.heap.size, i, none⟩ = some (.int .i64 m) ∧ V.cell? ⟨w.heap.size, x, none⟩ = some (.int .i64 (bx : Int))) [12, 13] rowsBirth8 (by kernel_rfl) ⟨by kernel_rfl, by kernel_rfl, by kernel_rfl⟩ ⟨q1, q2⟩ (fun hTab hHeld => ?_)
          ((refine tkB hTab (i := 0) hHeld ?_); (try simp only [nP]); (refine tkB hTab (i := 1) hHeld ?_); (try simp only [nP]); (refine tkB hTab (i := 2) hHeld ?_); (try simp only [nP]); (refine tkB hTab (i := 3) hHeld ?_); (try simp only [nP]); (refine tkB hTab (i := 4) hHeld ?_); (try simp only [nP]); (refine tkB hTab (i := 5) hHeld ?_); (try simp only [nP]); (refine tkB hTab (i := 6) hHeld ?_); (try simp only [nP]); (refine tkB hTab (i := 7) hHeld ?_); (try simp only [nP]); (refine tkB hTab (i := 8) hHeld ?_); (try simp only [nP]); (refine tkB hTab (i := 9) hHeld ?_); (try simp only [nP]); (refine tkB hTab (i := 10) hHeld ?_); (try simp only [nP]); (refine tkB hTab (i := 11) hHeld ?_); (try simp only [nP]))
          refine tlB hTab [12, 13] [_, _] ?_
          clear hTab hHeld
          go_wp2
          go_roundw
          case rel =>
            have hk' := own_set HO.out hlt (max m ((bx : Int) + 1))
            rw [brow_set] at hk'
            exact ⟨k + 1, by omega, by go_num, by rw [HS.out]; exact own_keep hk' (rd_ext ⟨1, rfl⟩), ext_trans (hx.setCell (p := ⟨w.heap.size, i, none⟩) (Nat.le_refl _) _) (rd_ext ⟨1, rfl⟩), (World.cell?_of_block (keep_set.block nb (lt_of_cell c1) (fun e => by simp only at e; omega))).trans c1⟩
          case measure => simp [intOf]; omega
        · have h2 : ¬ (((k : Nat) : Int) < ((FL.length : Nat) : Int)) := by omega
          have hke : k = FL.length := by omega
          subst hke
          have hown0 : wr.ownsRow w.heap.size 3 1 (.slice (some ⟨w.heap.size, 0, none⟩) F.length F.length) F.length ((brow F i (bornTo F (FL ++ FR.take 0))).map (Value.int .i64)) := by
            rw [List.take_length] at hown; rw [List.take_zero, List.append_nil]; exact hown
          clear hown
          go_wp2
          go_loopw [9, 44] (fun _ ii wr => ∃ k : Nat, k ≤ FR.length ∧ ii = .int .i64 ((k : Nat) : Int) ∧ wr.ownsRow w.heap.size 3 1 (.slice (some ⟨w.heap.size, 0, none⟩) F.length F.length) F.length ((brow F i (bornTo F (FL ++ FR.take k))).map (Value.int .i64)) ∧ Ext w wr) (fun _ ii _ => FR.length - (intOf ii).toNat)
          case atStart => exact ⟨0, Nat.zero_le _, rfl, hown0, hx⟩
          case round =>
            clear hown0 hx
            obtain ⟨k, hk, rfl, hown, hx⟩ := hrel
            by_cases hk1 : k < FR.length
            · have h2 : ((k : Nat) : Int) < ((FR.length : Nat) : Int) := by omega
              obtain ⟨b, off, rfl, hcell⟩ := HCR.out (by omega)
              have hck := hcell k hk1
              rw [toZ_zat hk1] at hck
              have hck1 := (hx.cell (lt_of_cell hck)).trans hck
              have hxi := WK2.out _ (List.getElem_mem hk1)
              have hbx := HBD.out _ hxi
              have hbt := bornTo_bd hF (FL ++ FR.take k) (fun x hx => by rcases List.mem_append.1 hx with hx | hx; (have := WK1.out x hx; omega); (have := WK2.out x (List.mem_of_mem_take hx); omega))
              have HS := Lib.hid (bornTo_snoc2 F FL hk1)
              have q1 := (hown.cellAt i (by omega)).trans brow_at
              have q2 := (hown.cellAt FR[k] (by omega)).trans (brow_lt hxi)
              obtain ⟨x, hxe⟩ : ∃ x, x = FR[k] := ⟨_, rfl⟩
              obtain ⟨m, hm⟩ : ∃ m, m = bornTo F (FL ++ FR.take k) := ⟨_, rfl⟩
              rw [← hxe] at hck1 hxi hbx HS q2
              rw [← hm] at hbt HS q1 hown
              obtain ⟨bx, hbe⟩ : ∃ bx, bx = Cgt.born (vl F x) := ⟨_, rfl⟩
              rw [← hbe] at hbx HS q2
              have hfr : wr.frozen? ⟨w.heap.size, i, none⟩ = false := hown.frozenAt i
              have hwk : wrap64 ((bx : Int) + 1) = (bx : Int) + 1 := by unfold wrap64; omega
              have hxF : ((x : Nat) : Int) < (F.length : Int) := by omega
              have HO := Lib.hid hown
              clear hcell hck hxe hm hbe hbt hbx hxi hown
              go_upto_region 13 with fail
              refine wp_region_L (fun V => V.cell? ⟨w.heap.size, i, none⟩ = some (.int .i64 m) ∧ V.cell? ⟨w.heap.size, x, none⟩ = some (.int .i64 (bx : Int))) [12, 13] rowsBirth13 (by kernel_rfl) ⟨by kernel_rfl, by kernel_rfl, by kernel_rfl⟩ ⟨q1, q2⟩ (fun hTab hHeld => ?_)
              ((refine tkB hTab (i := 0) hHeld ?_); (try simp only [nP]); (refine tkB hTab (i := 1) hHeld ?_); (try simp only [nP]); (refine tkB hTab (i := 2) hHeld ?_); (try simp only [nP]); (refine tkB hTab (i := 3) hHeld ?_); (try simp only [nP]); (refine tkB hTab (i := 4) hHeld ?_); (try simp only [nP]); (refine tkB hTab (i := 5) hHeld ?_); (try simp only [nP]); (refine tkB hTab (i := 6) hHeld ?_); (try simp only [nP]); (refine tkB hTab (i := 7) hHeld ?_); (try simp only [nP]); (refine tkB hTab (i := 8) hHeld ?_); (try simp only [nP]); (refine tkB hTab (i := 9) hHeld ?_); (try simp only [nP]); (refine tkB hTab (i := 10) hHeld ?_); (try simp only [nP]); (refine tkB hTab (i := 11) hHeld ?_); (try simp only [nP]))
              refine tlB hTab [12, 13] [_, _] ?_
              clear hTab hHeld
              go_wp2
              go_roundw
              case rel =>
                have hk' := own_set HO.out hlt (max m ((bx : Int) + 1))
                rw [brow_set] at hk'
                exact ⟨k + 1, by omega, by go_num, by rw [HS.out]; exact own_keep hk' (rd_ext ⟨1, rfl⟩), ext_trans (hx.setCell (p := ⟨w.heap.size, i, none⟩) (Nat.le_refl _) _) (rd_ext ⟨1, rfl⟩)⟩
              case measure => simp [intOf]; omega
            · have h2 : ¬ (((k : Nat) : Int) < ((FR.length : Nat) : Int)) := by omega
              have hke : k = FR.length := by omega
              subst hke
              rw [List.take_length] at hown
              have hb : (Cgt.born (vl F i) : Int) = bornTo F (FL ++ FR) := by
                have hb0 := bornTo_bd hF (FL ++ FR) (fun x hx => by rcases List.mem_append.1 hx with hx | hx; (have := WK1.out x hx; omega); (have := WK2.out x hx; omega))
                refine bornTo_born hF (l' := FL) (r' := FR) ?_ (fun _ => Iff.rfl) (fun _ => Iff.rfl) hb0.1
                rw [HK.out.1, HK.out.2]; exact List.getElem?_eq_getElem hlt
              rw [← hb, brow_done] at hown
              have HO := Lib.hid hown
              clear hown hb
              go_wp2
              go_roundw
              case rel => exact ⟨i + 1, by omega, by go_num, HO.out, hx⟩
              case measure => simp [intOf]; omega
    · have h1 : ¬ (((i : Nat) : Int) < ((F.length : Nat) : Int)) := by omega
      have hie : i = F.length := by omega
      subst hie
      go_wp2
      go_ret
      exact ⟨_, rfl, hown, hx⟩
end
end Go.Proofs.YteknjeohbcgpdaaGreatDoor
