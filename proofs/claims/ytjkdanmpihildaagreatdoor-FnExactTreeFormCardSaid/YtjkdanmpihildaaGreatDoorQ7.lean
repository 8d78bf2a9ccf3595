/-
  Contracts of the reference's l3Sorted, l6Without.
  The reference's book of games in memory: a pointer to two slices that the book owns.
  Plain laws of the sorted lists of the reference: members, rising, births.
-/
import Derived.Test.YtjkdanmpihildaaGreatDoorQ3
import Derived.Test.YtjkdanmpihildaaGreatDoorQ6
namespace Go.Proofs.YtjkdanmpihildaaGreatDoor
open Go.RowKit

def sortZ (l : List Int) : List Int := l.foldl putZ []
theorem sortZ_snoc (l : List Int) (x : Int) : sortZ (l ++ [x]) = putZ (sortZ l) x := by simp [sortZ]
theorem putZ_len (l : List Int) (x : Int) : (putZ l x).length ≤ l.length + 1 := by
  unfold putZ
  split
  · omega
  · have : putAt l x ≤ l.length := (List.takeWhile_sublist _).length_le
    simp; omega
theorem sortZ_len (l : List Int) : (sortZ l).length ≤ l.length := by
  have main : ∀ (l acc : List Int), (l.foldl putZ acc).length ≤ acc.length + l.length := by
    intro l
    induction l with
    | nil => intro acc; simp
    | cons x l ih => intro acc; have := ih (putZ acc x); have := putZ_len acc x; simp; omega
  have := main l []
  simpa [sortZ] using this

theorem new_trans {N : Nat} {w w' : World} {v v' : Value} (h : ∀ b, v.ownBlock = some b → N ≤ b ∧ b < w.heap.size) (hN : N ≤ w.heap.size) (hs : w.heap.size ≤ w'.heap.size) (hn : NewOr w w' v v') : ∀ b, v'.ownBlock = some b → N ≤ b ∧ b < w'.heap.size := by
  intro b hb
  rcases hn b hb with h1 | h1
  · have := h b h1; omega
  · omega

set_option maxHeartbeats 400000 in
theorem l3Sorted_any (v : Value) (l : List Int) (w : World) (h : Ints w v l) (hsz : l.length ≤ 1000000000) :
    Calls Tryz.prog 69 #[v] w fun e w' => ∃ v', e = .returned v' ∧ Ints w' v' (sortZ l) ∧ Ext w w' ∧ (∀ b, v'.ownBlock = some b → w.heap.size ≤ b ∧ b < w'.heap.size) := by
  obtain ⟨a, cap, rfl, hlc, hcap, hc⟩ := h
  go_enter Tryz.func69, Tryz.ntmps69
  go_wp2
  go_loopw [3, 4] (fun o i wr => ∃ k : Nat, k ≤ l.length ∧ i = .int .i64 k ∧ Ints wr o (sortZ (l.take k)) ∧ Ext w wr ∧ Hid (∀ b, o.ownBlock = some b → w.heap.size ≤ b ∧ b < wr.heap.size)) (fun _ i _ => l.length - (intOf i).toNat)
  case atStart => exact ⟨0, Nat.zero_le _, rfl, Ints.nil _ _ _, (Below.refl _ _).alloc (Nat.le_refl _) _, fun b hb => by simp [Value.ownBlock] at hb; subst hb; simp⟩
  case round =>
    obtain ⟨k, hk, rfl, hI, hext, HF⟩ := hrel
    by_cases hlt : k < l.length
    · obtain ⟨b, off, rfl, hcell⟩ := hc (by omega)
      have hck := hcell k hlt
      have hck1 := (hext.cell (lt_of_cell hck)).trans hck
      have hlen : (sortZ (l.take k)).length ≤ 1000000000 := by have := sortZ_len (l.take k); have := List.length_take_le k l; omega
      have hsn : sortZ (l.take (k + 1)) = putZ (sortZ (l.take k)) (zat l k) := by rw [take_zat hlt, sortZ_snoc]
      have HS := Lib.hid hsn
      clear hcell hc hck hsn
      go_wp2_with (go_at_call 72; refine (l1Put_any _ _ _ _ hI hlen).mono ?_; rintro e w1 ⟨v1, rfl, hI1, hx1, hn1⟩)
      go_roundw
      case rel => exact ⟨k + 1, by omega, by go_num, by rw [HS.out]; exact hI1, ext_trans hext hx1, new_trans HF.out hext.size hx1.size hn1⟩
      case measure => simp [intOf]; omega
    · go_wp2
      go_ret
      have e : k = l.length := by omega
      subst e
      rw [List.take_length] at hI
      exact ⟨_, rfl, hI, hext, HF.out⟩

def woK (l p : List Int) (k : Nat) : List Int := ((List.range k).filter fun (i : Nat) => !hasZ p (i : Int)).map (zat l)
def withoutZ (l p : List Int) : List Int := woK l p l.length
theorem woK_in (l p : List Int) (k : Nat) (h : hasZ p (k : Int) = true) : woK l p (k + 1) = woK l p k := by
  simp [woK, List.range_succ, List.filter_append, h]
theorem woK_out (l p : List Int) (k : Nat) (h : hasZ p (k : Int) = false) : woK l p (k + 1) = woK l p k ++ [zat l k] := by
  simp [woK, List.range_succ, List.filter_append, h]
theorem woK_len (l p : List Int) (k : Nat) : (woK l p k).length ≤ k := by
  have := List.length_filter_le (fun (i : Nat) => !hasZ p (i : Int)) (List.range k)
  simp [woK] at this ⊢; exact this

set_option maxHeartbeats 400000 in
theorem l6Without_any (v u : Value) (l p : List Int) (w : World) (h : Ints w v l) (g : Ints w u p) (hsz : l.length ≤ 1000000000) :
    Calls Tryz.prog 66 #[v, u] w fun e w' => ∃ v', e = .returned v' ∧ Ints w' v' (withoutZ l p) ∧ Ext w w' ∧ (∀ b, v'.ownBlock = some b → w.heap.size ≤ b ∧ b < w'.heap.size) := by
  obtain ⟨a, cap, rfl, hlc, hcap, hc⟩ := h
  obtain ⟨i0, hi, hz0, hz1, hz2⟩ := info_parts info_int
  go_enter Tryz.func66, Tryz.ntmps66
  go_wp2
  go_loopw [5, 6] (fun o i wr => ∃ k : Nat, k ≤ l.length ∧ i = .int .i64 k ∧ wr.ownsRow w.heap.size 3 1 o (woK l p k).length ((woK l p k).map (Value.int .i64)) ∧ Ext w wr) (fun _ i _ => l.length - (intOf i).toNat)
  case atStart => exact ⟨0, Nat.zero_le _, rfl, own_empty w _ (Nat.le_refl _) _, (Below.refl _ _).alloc (Nat.le_refl _) _⟩
  case round =>
    obtain ⟨k, hk, rfl, hown, hext⟩ := hrel
    by_cases hlt : k < l.length
    · obtain ⟨b, off, rfl, hcell⟩ := hc (by omega)
      have hck := hcell k hlt
      have hck1 := (hext.cell (lt_of_cell hck)).trans hck
      have hwl := woK_len l p k
      have gw := g.ext hext
      clear hcell hc hck
      by_cases hin : hasZ p (k : Int) = true
      · have HW := Lib.hid (woK_in l p k hin)
        go_wp2_with (go_at_call 103; refine (l1Has_any _ _ _ _ gw).mono ?_; rintro e w1 ⟨rfl, nn, rfl⟩)
        go_roundw
        case rel => exact ⟨k + 1, by omega, by go_num, by rw [HW.out]; exact own_drewN hown _, ext_drewN hext _⟩
        case measure => simp [intOf]; omega
      · have hin' : hasZ p (k : Int) = false := by simpa using hin
        have HW := Lib.hid (woK_out l p k hin')
        clear hin
        go_wp2_with (first
          | (go_at_call 103; refine (l1Has_any _ _ _ _ gw).mono ?_; rintro e w1 ⟨rfl, nn, rfl⟩)
          | (at_builtin; refine app_list rfl _ _ 22 rfl w.heap.size 3 i0 (.int .i64 0) 1 8 Tryz.underlying22 hi hz0 hz1 hz2 rfl (by decide) _ _ _ rfl ((own_drewN hown nn).alloc _) _ 1 _ [Value.int .i64 (zat l k)] rfl rfl (.inr ⟨_, rfl, one_src (new_cell _ _ _)⟩) one_cell (by unfold maxLen; omega) (by omega) (by have := hext.size; simp; omega) ?_; intro v1 w1 ho1 hg1 _))
        go_roundw
        case rel =>
          refine ⟨k + 1, by omega, by go_num, ?_, ext_app (ext_drewN hext nn) hown hg1⟩
          rw [HW.out]
          simpa using ho1
        case measure => simp [intOf]; omega
    · go_wp2
      go_ret
      have e : k = l.length := by omega
      subst e
      exact ⟨_, rfl, Ints.of_own (l := woK l p l.length) hown (by have := woK_len l p l.length; omega), hext, fun b hb => hown.lt b hb⟩

end Go.Proofs.YtjkdanmpihildaaGreatDoor

namespace Go.Proofs.YtjkdanmpihildaaGreatDoor
open Go.RowKit
open Cgt

def toZ (l : List Nat) : List Int := l.map fun (n : Nat) => (n : Int)
theorem toZ_len (l : List Nat) : (toZ l).length = l.length := by simp [toZ]
theorem toZ_zat {l : List Nat} {k : Nat} (h : k < l.length) : zat (toZ l) k = (l[k] : Int) := by
  rw [zat_lt (by rw [toZ_len]; exact h)]; simp [toZ]
theorem toZ_mem {l : List Nat} {x : Int} (h : x ∈ toZ l) : ∃ n, n ∈ l ∧ x = (n : Int) := by
  obtain ⟨n, hn, rfl⟩ := List.mem_map.1 h; exact ⟨n, hn, rfl⟩

structure Keep (F : Nat → Prop) (w w' : World) : Prop where
  os : w'.os = w.os
  tape : w'.tape = w.tape
  output : w'.output = w.output
  size : w.heap.size ≤ w'.heap.size
  block : ∀ k, k < w.heap.size → ¬ F k → w'.heap[k]? = w.heap[k]?
theorem keep_ext {F : Nat → Prop} {w w' : World} (h : Ext w w') : Keep F w w' := ⟨h.os, h.tape, h.output, h.size, fun k hk _ => h.block k hk⟩
theorem Keep.trans {F G : Nat → Prop} {a b c : World} (h : Keep F a b) (k : Keep G b c) (hG : ∀ x, x < a.heap.size → G x → F x) : Keep F a c :=
  ⟨k.os.trans h.os, k.tape.trans h.tape, k.output.trans h.output, Nat.le_trans h.size k.size, fun x hx hf =>
    (k.block x (Nat.lt_of_lt_of_le hx h.size) (fun g => hf (hG x hx g))).trans (h.block x hx hf)⟩
theorem Keep.refl (F : Nat → Prop) (w : World) : Keep F w w := ⟨rfl, rfl, rfl, Nat.le_refl _, fun _ _ _ => rfl⟩

theorem own_at {w : World} {B : Nat} {e : TypeId} {size : Nat} {v : Value} {n : Nat} {xs : List Value} (h : w.ownsRow B e size v n xs) (hn : 0 < n) :
    ∃ g cap, v = .slice (some ⟨g, 0, none⟩) n cap ∧ n ≤ cap ∧ cap ≤ maxLen ∧ ∀ j, j < n * size → w.cell? ⟨g, j, none⟩ = xs[j]? := by
  rcases h.2 with ⟨rfl, h0⟩ | ⟨g, cap, cur, rfl, hb, hg, hnc, hcm, hcs, ht⟩
  · omega
  · exact ⟨g, cap, rfl, hnc, hcm, fun j hj => World.ownsRow.cellAt h j hj⟩
theorem own_len {w : World} {B : Nat} {e : TypeId} {size : Nat} {v : Value} {n : Nat} {xs : List Value} (h : w.ownsRow B e size v n xs) :
    ∃ a cap, v = .slice a n cap ∧ n ≤ cap ∧ cap ≤ maxLen := by
  rcases h.2 with ⟨rfl, h0⟩ | ⟨g, cap, cur, rfl, hb, hg, hnc, hcm, hcs, ht⟩
  · exact ⟨none, 0, by rw [h0], by omega, by simp [maxLen]⟩
  · exact ⟨_, cap, rfl, hnc, hcm⟩

def InS (pb : Nat) (vn vb : Value) (b : Nat) : Prop := b = pb ∨ vn.ownBlock = some b ∨ vb.ownBlock = some b

structure BookAt (w : World) (pb : Nat) (vn vb : Value) (D : Dag) : Prop where
  good : Cgt.Good D
  small : D.length ≤ 1000000
  cells : ∃ t, w.heap[pb]? = some (.cells #[vn, vb] t (0, 0))
  born : w.ownsRow 0 3 1 vb D.length ((D.mapIdx fun i _ => (born (vl D i) : Int)).map (Value.int .i64))
  nodes : ∃ xs, w.ownsRow 0 80 2 vn D.length xs ∧ ∀ i (h : i < D.length), ∃ L R, xs[2 * i]? = some L ∧ xs[2 * i + 1]? = some R ∧ Ints w L (toZ (D[i]).1) ∧ Ints w R (toZ (D[i]).2) ∧
    (∀ b, L.ownBlock = some b → ¬ InS pb vn vb b ∧ b < w.heap.size) ∧ (∀ b, R.ownBlock = some b → ¬ InS pb vn vb b ∧ b < w.heap.size)
  apart1 : vn.ownBlock ≠ some pb
  apart2 : vb.ownBlock ≠ some pb
  apart3 : ∀ b, vn.ownBlock = some b → vb.ownBlock ≠ some b

theorem BookAt.ext {w w' : World} {pb : Nat} {vn vb : Value} {D : Dag} (h : BookAt w pb vn vb D) (hx : Ext w w') : BookAt w' pb vn vb D := by
  obtain ⟨t, ht⟩ := h.cells
  obtain ⟨xs, ho, hn⟩ := h.nodes
  refine ⟨h.good, h.small, ⟨t, ?_⟩, own_keep h.born hx, ⟨xs, own_keep ho hx, fun i hi => ?_⟩, h.apart1, h.apart2, h.apart3⟩
  · rw [hx.block pb (Array.getElem?_eq_some_iff.1 ht).1]; exact ht
  · obtain ⟨L, R, h1, h2, h3, h4, h5, h6⟩ := hn i hi
    exact ⟨L, R, h1, h2, h3.ext hx, h4.ext hx, fun b hb => ⟨(h5 b hb).1, Nat.lt_of_lt_of_le (h5 b hb).2 hx.size⟩, fun b hb => ⟨(h6 b hb).1, Nat.lt_of_lt_of_le (h6 b hb).2 hx.size⟩⟩

theorem BookAt.cell0 {w : World} {pb : Nat} {vn vb : Value} {D : Dag} (h : BookAt w pb vn vb D) : w.cell? ⟨pb, 0, none⟩ = some vn := by
  obtain ⟨t, ht⟩ := h.cells; rw [cell_of_row w pb 0 _ _ _ ht]; rfl
theorem BookAt.cell1 {w : World} {pb : Nat} {vn vb : Value} {D : Dag} (h : BookAt w pb vn vb D) : w.cell? ⟨pb, 1, none⟩ = some vb := by
  obtain ⟨t, ht⟩ := h.cells; rw [cell_of_row w pb 1 _ _ _ ht]; rfl
theorem BookAt.free {w : World} {pb : Nat} {vn vb : Value} {D : Dag} (h : BookAt w pb vn vb D) (o : Nat) : w.frozen? ⟨pb, o, none⟩ = false := by
  obtain ⟨t, ht⟩ := h.cells; exact frozen_of_row w pb o _ _ ht
theorem BookAt.lt {w : World} {pb : Nat} {vn vb : Value} {D : Dag} (h : BookAt w pb vn vb D) : pb < w.heap.size := by
  obtain ⟨t, ht⟩ := h.cells; exact (Array.getElem?_eq_some_iff.1 ht).1

end Go.Proofs.YtjkdanmpihildaaGreatDoor

namespace Go.Proofs.YtjkdanmpihildaaGreatDoor
open Go.RowKit
open Cgt (Dag Nd vl Asc)

theorem zat_pair {l : List Int} (h : l.Pairwise (· < ·)) {i j : Nat} (hij : i < j) (hj : j < l.length) : zat l i < zat l j := by
  rw [zat_lt (by omega), zat_lt hj]
  exact List.pairwise_iff_getElem.1 h i j (by omega) hj hij

theorem take_putAt_lt (l : List Int) (n : Int) : ∀ y, y ∈ l.take (putAt l n) → y < n := by
  intro y hy
  unfold putAt at hy
  rw [← List.takeWhile_append_dropWhile (p := fun x => decide (x < n)) (l := l)] at hy
  simp at hy
  induction l with
  | nil => simp at hy
  | cons a l ih =>
    by_cases ha : a < n
    · simp [ha] at hy
      rcases hy with rfl | hy
      · exact ha
      · exact ih hy
    · simp [ha] at hy
theorem drop_putAt_ge {l : List Int} {n : Int} (h : l.Pairwise (· < ·)) : ∀ y, y ∈ l.drop (putAt l n) → n ≤ y := by
  induction l with
  | nil => intro y hy; simp at hy
  | cons a l ih =>
    intro y hy
    have hl := List.pairwise_cons.1 h
    by_cases ha : a < n
    · have e : putAt (a :: l) n = putAt l n + 1 := by simp [putAt, ha]
      rw [e] at hy
      exact ih hl.2 y (by simpa using hy)
    · have e : putAt (a :: l) n = 0 := by simp [putAt, ha]
      rw [e] at hy
      simp at hy
      rcases hy with rfl | hy
      · omega
      · have := hl.1 y hy; omega

theorem putZ_mem {l : List Int} {n y : Int} : y ∈ putZ l n ↔ y ∈ l ∨ y = n := by
  unfold putZ
  split
  · rename_i hp
    constructor
    · exact .inl
    · rintro (h | rfl)
      · exact h
      · obtain ⟨hk, he⟩ := hp
        rw [zat_lt hk] at he
        rw [← he]; exact List.getElem_mem hk
  · have : y ∈ l ↔ y ∈ l.take (putAt l n) ∨ y ∈ l.drop (putAt l n) := by
      rw [← List.mem_append, List.take_append_drop]
    rw [this]
    simp
    constructor
    · rintro (h | h | h)
      · exact .inl (.inl h)
      · exact .inr h
      · exact .inl (.inr h)
    · rintro ((h | h) | h)
      · exact .inl h
      · exact .inr (.inr h)
      · exact .inr (.inl h)
theorem putZ_asc {l : List Int} {n : Int} (h : l.Pairwise (· < ·)) : (putZ l n).Pairwise (· < ·) := by
  unfold putZ
  split
  · exact h
  · rename_i hp
    rw [show l.take (putAt l n) ++ [n] ++ l.drop (putAt l n) = l.take (putAt l n) ++ n :: l.drop (putAt l n) by simp, List.pairwise_append]
    refine ⟨h.sublist (List.take_sublist _ _), List.pairwise_cons.2 ⟨?_, h.sublist (List.drop_sublist _ _)⟩, ?_⟩
    · intro y hy
      have h1 := drop_putAt_ge h y hy
      have h2 : y ≠ n := by
        rintro rfl
        apply hp
        obtain ⟨i, hi, e⟩ := List.mem_iff_getElem.1 hy
        simp at hi
        have h0 := drop_putAt_ge (n := y) h (zat l (putAt l y)) (by
          rw [zat_lt (by omega)]
          have : (l.drop (putAt l y))[0]'(by simp; omega) = l[putAt l y] := by simp
          rw [← this]; exact List.getElem_mem _)
        refine ⟨by omega, ?_⟩
        by_cases hi0 : i = 0
        · subst hi0
          rw [zat_lt (by omega)]; simpa using e
        · have h3 := zat_pair h (i := putAt l y) (j := putAt l y + i) (by omega) (by omega)
          rw [List.getElem_drop] at e
          rw [zat_lt (k := putAt l y + i) (by omega), e] at h3
          omega
      omega
    · intro a ha b hb
      have h1 := take_putAt_lt l n a ha
      rcases List.mem_cons.1 hb with rfl | hb
      · exact h1
      · have := drop_putAt_ge h b hb
        omega

theorem sortZ_mem {l : List Int} {y : Int} : y ∈ sortZ l ↔ y ∈ l := by
  have main : ∀ (l acc : List Int), y ∈ l.foldl putZ acc ↔ y ∈ acc ∨ y ∈ l := by
    intro l
    induction l with
    | nil => intro acc; simp
    | cons x l ih => intro acc; simp only [List.foldl_cons, ih, putZ_mem, List.mem_cons]; exact or_assoc
  have := main l []
  simpa [sortZ] using this
theorem sortZ_asc (l : List Int) : (sortZ l).Pairwise (· < ·) := by
  have main : ∀ (l acc : List Int), acc.Pairwise (· < ·) → (l.foldl putZ acc).Pairwise (· < ·) := by
    intro l
    induction l with
    | nil => intro acc h; exact h
    | cons x l ih => intro acc h; exact ih _ (putZ_asc h)
  exact main l [] List.Pairwise.nil

def sortN (l : List Nat) : List Nat := (sortZ (toZ l)).map Int.toNat
theorem sortN_toZ (l : List Nat) : sortZ (toZ l) = toZ (sortN l) := by
  unfold sortN
  conv => rhs; rw [toZ, List.map_map]
  conv => lhs; rw [← List.map_id (sortZ (toZ l))]
  refine List.map_congr_left fun x hx => ?_
  obtain ⟨n, _, rfl⟩ := toZ_mem (sortZ_mem.1 hx)
  simp
theorem toZ_inj {a b : List Nat} (h : toZ a = toZ b) : a = b := by
  have := congrArg (List.map Int.toNat) h
  simpa [toZ, List.map_map, Function.comp_def] using this
theorem mem_toZ {l : List Nat} {x : Nat} : (x : Int) ∈ toZ l ↔ x ∈ l := by
  constructor
  · intro h; obtain ⟨n, hn, e⟩ := toZ_mem h; have : x = n := by omega
    rw [this]; exact hn
  · intro h; exact List.mem_map.2 ⟨x, h, rfl⟩
theorem sortN_mem {l : List Nat} {x : Nat} : x ∈ sortN l ↔ x ∈ l := by
  rw [← mem_toZ, ← sortN_toZ, sortZ_mem, mem_toZ]
theorem sortN_asc (l : List Nat) : Asc (sortN l) := by
  have h := sortZ_asc (toZ l)
  rw [sortN_toZ] at h
  unfold toZ at h
  rw [List.pairwise_map] at h
  exact h.imp fun h => by omega
theorem sortN_len (l : List Nat) : (sortN l).length ≤ l.length := by
  have := sortZ_len (toZ l); rw [sortN_toZ, toZ_len, toZ_len] at this; exact this
theorem sortN_eq {l : List Nat} (h : Asc l) : sortN l = l := Cgt.asc_ext (sortN_asc l) h fun _ => sortN_mem

end Go.Proofs.YtjkdanmpihildaaGreatDoor
