/-
  Contracts of the statement's own small functions on lists of int; no condition.
  Contracts of the statement's marks: what is held by a slice after it was marked.
  Contracts of the statement's own functions on trees and forms; no condition.
  Contract of the program's distinct.
-/
import Derived.Test.YtjkdanmpihildaaGreatDoorQ1
import Derived.Test.YtjkdanmpihildaaGreatDoorQ4
import Derived.Test.YtjkdanmpihildaaGreatDoorQ7
import Derived.Test.YtjkdanmpihildaaGreatDoorQ27
import Derived.Test.YtjkdanmpihildaaGreatDoorQ30
import Derived.Lib.SlicesS
namespace Go.Proofs.YtjkdanmpihildaaGreatDoor
open Go.RowKit

theorem szIntS_any (v : Value) (l : List Int) (left : Int) (w : World) (h : Ints w v l) (h0 : 0 ≤ left) (h1 : left ≤ 1048576) :
    Calls Tryz.prog 13 #[v, .int .i64 left] w fun e w' => e = .returned (.int .i64 (if left < l.length then -1 else left - l.length)) ∧ RD w w' := by
  obtain ⟨a, cap, rfl, hlc, hcap, hc⟩ := h
  by_cases hn : left < l.length
  · go_enter Tryz.func13, Tryz.ntmps13
    go_wp2
    go_ret
    exact ⟨ret_int (by first | rfl | (split <;> omega)), rd0 _⟩
  · go_enter Tryz.func13, Tryz.ntmps13
    go_wp2
    go_ret
    exact ⟨ret_int (by first | rfl | (split <;> omega)), rd0 _⟩

theorem eqIntS_any (v u : Value) (l m : List Int) (w : World) (h : Ints w v l) (g : Ints w u m) :
    Calls Tryz.prog 25 #[v, u] w fun e w' => e = .returned (.bool (same2 l m)) ∧ RD w w' := by
  obtain ⟨a, cap, rfl, hlc, hcap, hc⟩ := h
  obtain ⟨a', cap', rfl, hlc', hcap', hc'⟩ := g
  by_cases hll : l.length = m.length
  · have hb : ((l.length : Int) == m.length) = true := by simp [hll]
    have hb' : ((l.length : Int) != m.length) = false := by simp [hll]
    have HL := Lib.hid hll
    have hle : m.length ≤ l.length := by omega
    have hle' : l.length ≤ m.length := by omega
    clear hll
    go_enter Tryz.func25, Tryz.ntmps25
    go_wp2
    go_loopw [5] (fun i wr => ∃ k : Nat, k ≤ l.length ∧ i = .int .i64 k ∧ RD w wr ∧ Hid (l.take k = m.take k)) (fun i _ => l.length - (intOf i).toNat)
    case atStart => exact ⟨0, Nat.zero_le _, rfl, rd0 _, by simp [Hid]⟩
    case round =>
      obtain ⟨k, hk, rfl, ⟨n, rfl⟩, HN⟩ := hrel
      by_cases hlt : k < l.length
      · have hltm : k < m.length := by omega
        obtain ⟨b, off, rfl, hcell⟩ := hc (by omega)
        obtain ⟨b', off', rfl, hcell'⟩ := hc' (by omega)
        have hck := hcell k hlt
        have hck' := hcell' k hltm
        clear hcell hc hcell' hc'
        go_wp2
        go_quiet (fail)
        go_wp2
        · have hne : (zat l k != zat m k) = true := by assumption
          go_ret
          refine ⟨ret_bool ?_, (by first | exact rd0 _ | exact rd1 _ _ | exact rd2 _ _ _ | exact rd3 _ _ _ _)⟩
          have : l ≠ m := fun e => by rw [e] at hne; simp at hne
          simp [same2, this]
        · have hne : (zat l k != zat m k) = false := by assumption
          go_roundw
          case rel =>
            refine ⟨k + 1, by omega, by go_num, (by first | exact rd0 _ | exact rd1 _ _ | exact rd2 _ _ _ | exact rd3 _ _ _ _), ?_⟩
            show _ = _
            rw [take_zat hlt, take_zat hltm, HN.out]
            simp at hne
            rw [hne]
          case measure => simp [intOf]; omega
      · go_wp2
        go_ret
        refine ⟨ret_bool ?_, (by first | exact rd0 _ | exact rd1 _ _ | exact rd2 _ _ _ | exact rd3 _ _ _ _)⟩
        have := HN.out
        rw [List.take_of_length_le (by omega), List.take_of_length_le (by omega)] at this
        simp [same2, this]
  · have hb : ((l.length : Int) == m.length) = false := by simp; omega
    have hb' : ((l.length : Int) != m.length) = true := by simp; omega
    have HL := Lib.hid hll
    clear hll
    go_enter Tryz.func25, Tryz.ntmps25
    go_wp2
    go_ret
    refine ⟨ret_bool ?_, rd0 _⟩
    have : l ≠ m := fun e => HL.out (by rw [e])
    simp [same2, this]

end Go.Proofs.YtjkdanmpihildaaGreatDoor

namespace Go.Proofs.YtjkdanmpihildaaGreatDoor
open Go.RowKit

def runFrom (k : Int) : Nat → List Int
  | 0 => []
  | n + 1 => k :: runFrom (k + 1) n
theorem runFrom_length (k : Int) (n : Nat) : (runFrom k n).length = n := by
  induction n generalizing k with
  | zero => rfl
  | succ n ih => simp [runFrom, ih]
theorem runFrom_snoc (k : Int) (n : Nat) : runFrom k (n + 1) = runFrom k n ++ [k + n] := by
  induction n generalizing k with
  | zero => simp [runFrom]
  | succ n ih =>
    rw [runFrom, ih (k + 1), runFrom]
    simp; omega
theorem runFrom_zat (k : Int) (n i : Nat) (h : i < n) : zat (runFrom k n) i = k + i := by
  induction n generalizing k i with
  | zero => omega
  | succ n ih =>
    cases i with
    | zero => simp [runFrom, zat]
    | succ i =>
      have := ih (k + 1) i (by omega)
      simp [runFrom, zat] at this ⊢
      rw [this]; omega

theorem heldIntS_yes (v : Value) (n : Nat) (k : Int) (w : World) (h : Ints w v (runFrom k n)) (h0 : 0 ≤ k) (h1 : k + n ≤ 4611686018427387904) :
    Calls Tryz.prog 45 #[v, .int .i64 k] w fun e w' => e = .returned (.int .i64 (k + n)) ∧ RD w w' := by
  obtain ⟨a, cap, rfl, hlc, hcap, hc⟩ := h
  rw [runFrom_length] at hlc hc ⊢
  go_enter Tryz.func45, Tryz.ntmps45
  go_wp2
  go_loop [1, 5] (fun kk i => ∃ j : Nat, j ≤ n ∧ i = .int .i64 j ∧ kk = .int .i64 (k + j)) (fun _ i => n - (intOf i).toNat)
  case atStart => exact ⟨0, Nat.zero_le _, rfl, by simp⟩
  case round =>
    obtain ⟨j, hj, rfl, rfl⟩ := hrel
    by_cases hlt : j < n
    · obtain ⟨b, off, rfl, hcell⟩ := hc (by omega)
      have hck := hcell j hlt
      rw [runFrom_zat k n j hlt] at hck
      clear hcell hc
      go_wp2
      go_round
      case rel => exact ⟨j + 1, by omega, by go_num, by congr 1; omega⟩
      case measure => simp [intOf]; omega
    · go_wp2
      go_ret
      exact ⟨ret_int (by omega), rd0 _⟩

end Go.Proofs.YtjkdanmpihildaaGreatDoor

namespace Go.Proofs.YtjkdanmpihildaaGreatDoor
open Go.RowKit
open Cgt (Dag Nd vl Same)

theorem int_cell {w : World} {base e g n cap : Nat} {l : List Int} (h : w.ownsRow base e 1 (.slice (some ⟨g, 0, none⟩) n cap) n (l.map (Value.int .i64))) {k : Nat} (hk : k < n) : w.cell? ⟨g, k, none⟩ = some (.int .i64 (zat l k)) := by
  have hl := h.1
  rw [h.cellAt k (by omega)]
  have : k < l.length := by rw [List.length_map] at hl; omega
  simp [zat, this]
theorem int_set {w : World} {base e g n cap : Nat} {l : List Int} (h : w.ownsRow base e 1 (.slice (some ⟨g, 0, none⟩) n cap) n (l.map (Value.int .i64))) (k : Nat) (x : Int) :
    (w.setCell ⟨g, k, none⟩ (.int .i64 x)).ownsRow base e 1 (.slice (some ⟨g, 0, none⟩) n cap) n ((l.set k x).map (Value.int .i64)) := by
  have := (h.stored k (.int .i64 x)).1; rw [List.map_set]; exact this

set_option maxHeartbeats 1000000 in
theorem toIntS_any (v : Value) (l : List Int) (w : World) (h : Ints w v l) (hl : l.length ≤ 1048576) :
    Calls Tryz.prog 17 #[v] w fun e w' => ∃ v', e = .returned v' ∧ w'.ownsRow w.heap.size 3 1 v' l.length (l.map (Value.int .i64)) ∧ Ext w w' := by
  obtain ⟨i0, hi0, hz0, hz1, hz2⟩ := info_parts info_int
  obtain ⟨a, cap, rfl, hlc, hcap, hc⟩ := id h
  have hmk := fun w : World => run_make (P := Tryz.prog) w 22 3 i0 (.int .i64 0) Tryz.underlying22 hi0 hz0 .i64 .i64 (l.length : Int) (l.length : Int) (by omega) (by omega) (by rw [hz2]; omega) (by omega)
  simp only [hz1, Nat.mul_one, Int.toNat_natCast] at hmk
  go_enter Tryz.func17, Tryz.ntmps17
  go_wp2
  have ho : (w.alloc (.cells (madeCells #[Value.int .i64 0] l.length) 3)).ownsRow w.heap.size 3 1 (.slice (some ⟨w.heap.size, 0, none⟩) l.length l.length) l.length ((List.replicate l.length (0 : Int)).map (Value.int .i64)) := by
    rw [← made_zeros]; exact World.ownsRow_lit w _ _ (Nat.le_refl _) (by unfold maxLen; omega) (by rw [size_madeCells]; simp)
  have hx : Ext w (w.alloc (.cells (madeCells #[Value.int .i64 0] l.length) 3)) := by go_grown
  generalize w.alloc (.cells (madeCells #[Value.int .i64 0] l.length) 3) = W0 at *
  clear hmk
  go_loopw [4] (fun ii wr => ∃ k, k ≤ l.length ∧ ii = .int .i64 ((k : Nat) : Int) ∧ Ext w wr ∧ wr.ownsRow w.heap.size 3 1 (.slice (some ⟨w.heap.size, 0, none⟩) l.length l.length) l.length ((l.take k ++ List.replicate (l.length - k) (0 : Int)).map (Value.int .i64))) (fun ii _ => l.length - (intOf ii).toNat)
  case atStart => exact ⟨0, Nat.zero_le _, rfl, hx, by simpa using ho⟩
  case round =>
    clear hx ho
    obtain ⟨k, hk, rfl, hE, ho⟩ := hrel
    by_cases hlt : k < l.length
    · have h1 : ((k : Nat) : Int) < (l.length : Int) := by omega
      obtain ⟨b, off, rfl, hcell⟩ := hc (by omega)
      have hck := (hE.cell (lt_of_cell (hcell k hlt))).trans (hcell k hlt)
      have cj := int_cell ho hlt
      have fj := ho.frozenAt k
      have hs := int_set ho k (zat l k)
      have hl2 : (l.take k ++ List.replicate (l.length - k) (0 : Int)).set k (zat l k) = l.take (k + 1) ++ List.replicate (l.length - (k + 1)) 0 := by
        rw [set_next _ (by simp; omega) hlt, take_zat hlt]
      rw [hl2] at hs
      have HS := Lib.hid hs
      have HX := Lib.hid (hE.setCell (p := ⟨w.heap.size, k, none⟩) (Nat.le_refl _) (.int .i64 (zat l k)))
      clear hcell hc hl2 hs ho hE
      go_wp2
      go_roundw
      case rel => exact ⟨k + 1, by omega, by go_num, HX.out, HS.out⟩
      case measure => simp [intOf]; omega
    · have h1 : ¬ (((k : Nat) : Int) < (l.length : Int)) := by omega
      have hke : k = l.length := by omega
      subst hke
      have ho2 : wr.ownsRow w.heap.size 3 1 (.slice (some ⟨w.heap.size, 0, none⟩) l.length l.length) l.length (l.map (Value.int .i64)) := by
        rw [List.take_of_length_le (Nat.le_refl _), Nat.sub_self, List.replicate_zero, List.append_nil] at ho; exact ho
      have HO := Lib.hid ho2
      clear ho ho2
      go_wp2
      go_ret
      exact ⟨_, rfl, HO.out, hE⟩

set_option maxHeartbeats 1000000 in
theorem markIntS_any (v : Value) (l : List Int) (k : Int) (B : Nat) (w : World) (h : w.ownsRow B 3 1 v l.length (l.map (Value.int .i64))) (h0 : 0 ≤ k) (h1 : k + l.length ≤ 4611686018427387904) :
    Calls Tryz.prog 26 #[v, .int .i64 k] w fun e w' => e = .returned (.int .i64 (k + l.length)) ∧ w'.ownsRow B 3 1 v l.length ((runFrom k l.length).map (Value.int .i64)) ∧ Keep (fun b => v.ownBlock = some b) w w' := by
  rcases Nat.eq_zero_or_pos l.length with hz | hz
  · obtain ⟨a, cap, rfl, hc, _⟩ := own_len h
    have : l = [] := List.eq_nil_of_length_eq_zero hz
    subst this
    go_enter Tryz.func26, Tryz.ntmps26
    go_wp2
    go_loopw [1, 5] (fun kk ii wr => wr = w ∧ ii = .int .i64 0 ∧ kk = .int .i64 k) (fun _ _ _ => 0)
    case atStart => exact ⟨rfl, rfl, rfl⟩
    case round =>
      obtain ⟨rfl, rfl, rfl⟩ := hrel
      go_wp2
      go_ret
      exact ⟨ret_int (by simp), h, Keep.refl _ _⟩
  · obtain ⟨g, cap, rfl, hc, hcm, -⟩ := own_at h hz
    generalize hn : l.length = n at *
    go_enter Tryz.func26, Tryz.ntmps26
    go_wp2
    go_loopw [1, 5] (fun kk ii wr => ∃ j, j ≤ n ∧ ii = .int .i64 ((j : Nat) : Int) ∧ kk = .int .i64 (k + ((j : Nat) : Int)) ∧ Keep (fun b => b = g) w wr ∧ wr.ownsRow B 3 1 (.slice (some ⟨g, 0, none⟩) n cap) n ((runFrom k j ++ l.drop j).map (Value.int .i64))) (fun _ ii _ => n - (intOf ii).toNat)
    case atStart => exact ⟨0, Nat.zero_le _, rfl, by simp, Keep.refl _ _, by simpa [runFrom] using h⟩
    case round =>
      obtain ⟨j, hj, rfl, rfl, hK, ho⟩ := hrel
      by_cases hlt : j < n
      · have h2 : ((j : Nat) : Int) < (n : Int) := by omega
        have cj := int_cell ho hlt
        have fj := ho.frozenAt j
        have hs := int_set ho j (k + (j : Int))
        have hl2 : (runFrom k j ++ l.drop j).set j (k + (j : Int)) = runFrom k (j + 1) ++ l.drop (j + 1) := by
          rw [runFrom_snoc, List.set_append_right _ _ (by rw [runFrom_length]; exact Nat.le_refl _), runFrom_length, Nat.sub_self, List.drop_eq_getElem_cons (by omega), List.set_cons_zero, List.append_assoc]; rfl
        rw [hl2] at hs
        have HS := Lib.hid hs
        have HX := Lib.hid (hK.trans (keep_set (w := wr) (p := ⟨g, j, none⟩) (v := .int .i64 (k + (j : Int)))) (fun x _ e => e))
        clear hl2 hs ho hK
        go_wp2
        go_roundw
        case rel => exact ⟨j + 1, by omega, by go_num, by congr 1; omega, HX.out, HS.out⟩
        case measure => simp [intOf]; omega
      · have h2 : ¬ (((j : Nat) : Int) < (n : Int)) := by omega
        have hje : j = n := by omega
        have ho2 : wr.ownsRow B 3 1 (.slice (some ⟨g, 0, none⟩) n cap) n ((runFrom k n).map (Value.int .i64)) := by
          rw [hje, List.drop_of_length_le (by omega), List.append_nil] at ho; exact ho
        have HO := Lib.hid ho2
        clear ho ho2 hje
        go_wp2
        go_ret
        exact ⟨ret_int (by omega), HO.out, ⟨hK.os, hK.tape, hK.output, hK.size, fun b hb hn => hK.block b hb (fun e => hn (by subst e; rfl))⟩⟩

end Go.Proofs.YtjkdanmpihildaaGreatDoor

namespace Go.Proofs.YtjkdanmpihildaaGreatDoor
open Go.RowKit

theorem mapBlock_heap (w : World) (g : Nat) (f : Array Value → Array Value) {cur : Array Value} {e : TypeId} {fr : Nat × Nat} (h : w.heap[g]? = some (.cells cur e fr)) : (Go.Sort.mapBlock w g f).heap[g]? = some (.cells (f cur) e fr) := by
  simp [Go.Sort.mapBlock, Array.getElem?_modify, h, Go.Sort.onCells]
theorem mapBlock_other (w : World) (g k : Nat) (f : Array Value → Array Value) (h : k ≠ g) : (Go.Sort.mapBlock w g f).heap[k]? = w.heap[k]? := by
  simp [Go.Sort.mapBlock, Array.getElem?_modify, Ne.symm h]
theorem grow_heap (w : World) (os : Array Obj) {k : Nat} (h : k < w.heap.size) : (Go.Sort.grow w os).heap[k]? = w.heap[k]? := by
  simp [Go.Sort.grow, Array.getElem?_append_left h]

theorem own_put {w : World} {base e g n cap : Nat} {l l' : List Int} (h : w.ownsRow base e 1 (.slice (some ⟨g, 0, none⟩) n cap) n (l.map (Value.int .i64))) (hl : l'.length = l.length) (m : Nat) (os : Array Obj) :
    (Go.Sort.grow (Go.Sort.putRow (Value.int .i64) (Go.Sort.ahead w m) g 0 l'.toArray) os).ownsRow base e 1 (.slice (some ⟨g, 0, none⟩) n cap) n (l'.map (Value.int .i64)) ∧ Keep (fun b => b = g) w (Go.Sort.grow (Go.Sort.putRow (Value.int .i64) (Go.Sort.ahead w m) g 0 l'.toArray) os) := by
  obtain ⟨hlen, h⟩ := h
  rw [List.length_map] at hlen
  have hgl : g < w.heap.size := by
    rcases h with ⟨h, _⟩ | ⟨g', cap', cur, h1, h2, h3, _⟩
    · simp at h
    · simp only [Value.slice.injEq, Option.some.injEq, Addr.mk.injEq, and_true, true_and] at h1
      obtain ⟨rfl, rfl⟩ := h1; exact blk_lt h3
  have hsz : (Go.Sort.putRow (Value.int .i64) (Go.Sort.ahead w m) g 0 l'.toArray).heap.size = w.heap.size := by rw [Go.Sort.size_putRow]; rfl
  refine ⟨⟨by rw [List.length_map]; omega, ?_⟩, rfl, rfl, rfl, by simp [Go.Sort.grow, hsz], fun k hk hn => ?_⟩
  · rcases h with ⟨h, _⟩ | ⟨g', cap', cur, h1, h2, h3, h4, h5, h6, h7⟩
    · simp at h
    · simp only [Value.slice.injEq, Option.some.injEq, Addr.mk.injEq, and_true, true_and] at h1
      obtain ⟨rfl, rfl⟩ := h1
      refine .inr ⟨g, cap, Go.Sort.putCells (Value.int .i64) 0 l'.toArray cur, rfl, h2, ?_, h4, h5, by simp [Go.Sort.putCells, h6], ?_⟩
      · rw [grow_heap _ _ (by rw [hsz]; exact hgl)]
        exact mapBlock_heap _ _ _ h3
      · apply List.ext_getElem?
        intro i
        rw [List.getElem?_take]
        by_cases c : i < n * 1
        · rw [if_pos c, Array.getElem?_toList]
          have hc : i < cur.size := by rw [h6]; have := Nat.mul_le_mul_right 1 h4; omega
          have hi : i < l'.length := by omega
          rw [List.getElem?_map, List.getElem?_eq_getElem hi]
          simp only [Go.Sort.putCells, Array.getElem?_mapIdx, Array.getElem?_eq_getElem hc, Option.map_some]
          rw [if_pos (by simp; omega)]
          simp [hi]
        · rw [if_neg c, List.getElem?_eq_none (by rw [List.length_map]; omega)]
  · rw [grow_heap _ _ (by rw [hsz]; exact hk)]
    exact mapBlock_other (Go.Sort.ahead w m) g k _ hn
theorem own_holds {w : World} {base e g n cap : Nat} {l : List Int} (h : w.ownsRow base e 1 (.slice (some ⟨g, 0, none⟩) n cap) n (l.map (Value.int .i64))) : Go.Sort.Holds (Value.int .i64) w g 0 l.toArray := by
  intro j hj
  have hl := h.1
  rw [List.length_map] at hl
  have hj' : j < l.length := by simpa using hj
  rw [Nat.zero_add]
  refine ⟨?_, h.frozenAt j⟩
  rw [int_cell h (by omega), zat_lt hj']
  simp [hj']

theorem own_shrink {w : World} {base e g n cap k : Nat} {l : List Int} (h : w.ownsRow base e 1 (.slice (some ⟨g, 0, none⟩) n cap) n (l.map (Value.int .i64))) (hk : k ≤ n) : w.ownsRow base e 1 (.slice (some ⟨g, 0, none⟩) k cap) k ((l.take k).map (Value.int .i64)) := by
  obtain ⟨hlen, h⟩ := h
  rw [List.length_map] at hlen
  refine ⟨by rw [List.length_map, List.length_take]; omega, ?_⟩
  rcases h with ⟨h, _⟩ | ⟨g', cap', cur, h1, h2, h3, h4, h5, h6, h7⟩
  · simp at h
  · simp only [Value.slice.injEq, Option.some.injEq, Addr.mk.injEq, and_true, true_and] at h1
    obtain ⟨rfl, rfl⟩ := h1
    refine .inr ⟨g, cap, cur, rfl, h2, h3, by omega, h5, h6, ?_⟩
    rw [List.map_take, ← h7, List.take_take]; congr 1; omega

def dstZ (l : List Int) : List Int := Lib.compact (l.mergeSort fun x y => decide (x ≤ y))
def DistPost (l : List Int) (w : World) (e : Ending) (w' : World) : Prop := ∃ v', e = .returned v' ∧ w'.ownsRow w.heap.size 3 1 v' (dstZ l).length ((dstZ l).map (Value.int .i64)) ∧ Ext w w'

set_option maxRecDepth 100000 in
theorem distinct_any (v : Value) (l : List Int) (w : World) (h : Ints w v l) (hl : l.length ≤ 1000000000) : Calls Tryz.prog 91 #[v] w (DistPost l w) := by
  obtain ⟨a, cap, rfl, hlc, hcap, hc⟩ := id h
  rcases Nat.eq_zero_or_pos l.length with hz | hz
  · have hln : l = [] := List.eq_nil_of_length_eq_zero hz
    subst hln
    have hd : dstZ [] = [] := by simp [dstZ, Lib.compact, Lib.compactUpTo]
    cases a with
    | none =>
      go_enter Tryz.func91, Tryz.ntmps91
      go_wp2_with (first
        | (go_at_call 118; refine (Tryz.slices_Clone_int_nil _ _ _).mono ?_; rintro e w1 ⟨rfl, rfl⟩)
        | (go_at_call 113; refine (Tryz.slices_Sort_int_none _ _ _).mono ?_; rintro e w1 ⟨rfl, hw1⟩)
        | (go_at_call 119; refine (Tryz.slices_Compact_int_empty _ _ _).mono ?_; rintro e w1 ⟨rfl, rfl⟩))
      go_ret
      exact ⟨_, rfl, by rw [hd]; exact ⟨by simp, .inl ⟨rfl, rfl⟩⟩, Below.refl _ _⟩
    | some ad =>
      go_enter Tryz.func91, Tryz.ntmps91
      go_wp2_with (first
        | (go_at_call 118; refine (Tryz.slices_Clone_int_zero _ _ _).mono ?_; rintro e w1 ⟨v1, rfl, ho1, -, hx1⟩; obtain ⟨a1, c1, rfl, -⟩ := own_len ho1)
        | (go_at_call 113; refine (Tryz.slices_Sort_int_none _ _ _).mono ?_; rintro e w2 ⟨rfl, hw2⟩; subst hw2)
        | (go_at_call 119; refine (Tryz.slices_Compact_int_empty _ _ _).mono ?_; rintro e w3 ⟨rfl, hw3⟩; subst hw3))
      go_ret
      exact ⟨_, rfl, by rw [hd]; exact ho1, hx1⟩
  · obtain ⟨b, off, rfl, hcell⟩ := hc hz
    have hg : ∀ j, j < l.length → w.cell? ⟨b, off + j, none⟩ = some (.int .i64 (l.getD j 0)) := fun j hj => by rw [hcell j hj]; simp [zat]
    go_enter Tryz.func91, Tryz.ntmps91
    go_upto_region 2 with (go_at_call 118; refine (Tryz.slices_Clone_int b off l.length _ l _ (Nat.le_refl _) (by omega) hg).mono ?_; rintro e w1 ⟨v1, rfl, ho1, -, hx1⟩)
    rw [List.take_of_length_le (Nat.le_refl _)] at ho1
    obtain ⟨g, c1, rfl, hc1, hc1m, -⟩ := own_at ho1 hz
    have hgl := ho1.lt g rfl
    have hms : (l.mergeSort fun x y => decide (x ≤ y)).length = l.length := List.length_mergeSort _
    go_upto_region 3 with (go_at_call 113; refine (Tryz.slices_Sort_int g 0 _ l _ (own_holds ho1) hgl.2 (by omega)).mono ?_; rintro e w2 ⟨rfl, m2, os2, hw2⟩)
    obtain ⟨ho2, hk2⟩ := own_put ho1 hms m2 os2
    rw [← hw2] at ho2 hk2 ⊢
    clear hw2
    generalize hmsd : (l.mergeSort fun x y => decide (x ≤ y)) = ms at *
    have hcl : (Lib.compact ms).length ≤ l.length := by
      rw [← hms]; unfold Lib.compact Lib.compactUpTo
      rw [List.length_map]; exact Nat.le_trans (List.length_filter_le _ _) (by simp)
    have hC := Tryz.slices_Compact_int g 0 c1 ms w2 (own_holds ho2) (by rw [hms]; omega) (by rw [hms]; exact hc1)
    rw [hms] at hC
    have HMS := Lib.hid hms
    have HD := Lib.hid hmsd
    clear hms hmsd
    go_wp2_with (go_at_call 119; refine hC.mono ?_; rintro e w3 ⟨rfl, q3, hw3⟩)
    go_ret
    rw [← hw3]
    have hl3 : (Lib.compact ms ++ List.replicate (l.length - (Lib.compact ms).length) 0).length = l.length := by
      rw [List.length_append, List.length_replicate]; omega
    obtain ⟨ho3, hk3⟩ := own_put ho2 (hl3.trans HMS.out.symm) q3 #[]
    have e3 : Go.Sort.grow (Go.Sort.putRow (Value.int .i64) (Go.Sort.ahead w2 q3) g 0 (Lib.compact ms ++ List.replicate (l.length - (Lib.compact ms).length) 0).toArray) #[] = w3 := by rw [Go.Sort.grow_empty, hw3]
    rw [e3] at ho3 hk3
    have hdz : dstZ l = Lib.compact ms := by unfold dstZ; rw [HD.out]
    refine ⟨_, rfl, ?_, ⟨hk3.os.trans (hk2.os.trans hx1.os), hk3.tape.trans (hk2.tape.trans hx1.tape), hk3.output.trans (hk2.output.trans hx1.output), Nat.le_trans hx1.size (Nat.le_trans hk2.size hk3.size), fun k hk => ?_⟩⟩
    · have := own_shrink ho3 (k := (Lib.compact ms).length) hcl
      rw [List.take_left] at this; rw [hdz]; exact this
    · have z1 := hx1.size
      rw [hk3.block k (by have := hk2.size; omega) (by omega), hk2.block k (by omega) (by omega)]; exact hx1.block k hk

theorem compact_asc {z : List Int} (h : z.Pairwise (· ≤ ·)) : (Lib.compact z).Pairwise (· < ·) := by
  unfold Lib.compact Lib.compactUpTo
  rw [List.pairwise_map]
  have hr : ((List.range z.length).filter (Lib.keeps z.toArray)).Pairwise (· < ·) := List.pairwise_lt_range.filter _
  refine List.Pairwise.imp_of_mem (fun {i j} hi hj hij => ?_) hr
  simp only [List.mem_filter, List.mem_range, Lib.keeps, decide_eq_true_eq] at hi hj
  rcases hj.2 with h0 | h0
  · omega
  · have e1 : z.toArray[j]! = z[j] := by simp [hj.1]
    have e2 : z.toArray[j - 1]! = z[j - 1]'(by omega) := by simp [show j - 1 < z.length by omega]
    have e3 : z.toArray[i]! = z[i] := by simp [hi.1]
    rw [e1, e2] at h0
    rw [e1, e3]
    have a : z[i] ≤ z[j - 1]'(by omega) := by
      by_cases c : i = j - 1
      · subst c; exact Int.le_refl _
      · exact List.pairwise_iff_getElem.1 h i (j - 1) hi.1 (by omega) (by omega)
    have b := List.pairwise_iff_getElem.1 h (j - 1) j (by omega) hj.1 (by omega)
    omega
theorem compact_mem {z : List Int} {x : Int} : x ∈ Lib.compact z ↔ x ∈ z := by
  have key : ∀ i (h : i < z.length), z[i] ∈ Lib.compact z := by
    intro i
    induction i with
    | zero =>
      intro h
      refine List.mem_map.2 ⟨0, List.mem_filter.2 ⟨List.mem_range.2 h, by simp [Lib.keeps]⟩, by simp [h]⟩
    | succ i ih =>
      intro h
      by_cases c : z[i + 1] = z[i]
      · rw [c]; exact ih (by omega)
      · refine List.mem_map.2 ⟨i + 1, List.mem_filter.2 ⟨List.mem_range.2 h, ?_⟩, by simp [h]⟩
        simp only [Lib.keeps, decide_eq_true_eq, Nat.add_sub_cancel]
        right
        have e1 : z.toArray[i + 1]! = z[i + 1] := by simp [h]
        have e2 : z.toArray[i]! = z[i] := by simp [show i < z.length by omega]
        rw [e1, e2]; exact c
  constructor
  · intro h
    obtain ⟨i, hi, rfl⟩ := List.mem_map.1 h
    simp only [List.mem_filter, List.mem_range] at hi
    have : z.toArray[i]! = z[i] := by simp [hi.1]
    rw [this]; exact List.getElem_mem _
  · intro h
    obtain ⟨i, hi, rfl⟩ := List.mem_iff_getElem.1 h
    exact key i hi
theorem dstZ_toZ (l : List Nat) : dstZ (toZ l) = toZ (sortN l) := by
  have hs : ((toZ l).mergeSort fun x y => decide (x ≤ y)).Pairwise (· ≤ ·) := by
    have := List.pairwise_mergeSort (le := fun x y : Int => decide (x ≤ y)) (fun a b c h1 h2 => by simp at *; omega) (fun a b => by simp; omega) (toZ l)
    exact this.imp (fun h => by simpa using h)
  have ha := compact_asc hs
  have hm : ∀ x, x ∈ dstZ (toZ l) ↔ x ∈ toZ l := fun x => by unfold dstZ; rw [compact_mem, List.mem_mergeSort]
  have hnn : ∀ x, x ∈ dstZ (toZ l) → ∃ n : Nat, x = (n : Int) := fun x hx => by obtain ⟨n, _, e⟩ := toZ_mem ((hm x).1 hx); exact ⟨n, e⟩
  have e1 : dstZ (toZ l) = toZ ((dstZ (toZ l)).map Int.toNat) := by
    unfold toZ
    rw [List.map_map]
    conv => lhs; rw [← List.map_id (dstZ _)]
    refine List.map_congr_left fun x hx => ?_
    obtain ⟨n, rfl⟩ := hnn x hx
    rfl
  rw [e1]
  congr 1
  refine Cgt.asc_ext ?_ (sortN_asc l) (fun x => ?_)
  · unfold Cgt.Asc
    rw [List.pairwise_map]
    refine List.Pairwise.imp_of_mem (fun {a b} ha hb h => ?_) ha
    obtain ⟨n, rfl⟩ := hnn a ha
    obtain ⟨m, rfl⟩ := hnn b hb
    simp; omega
  · rw [sortN_mem]
    constructor
    · intro h
      obtain ⟨y, hy, rfl⟩ := List.mem_map.1 h
      obtain ⟨n, hn, rfl⟩ := toZ_mem ((hm y).1 hy)
      simpa using hn
    · intro h
      exact List.mem_map.2 ⟨(x : Int), (hm _).2 (mem_toZ.2 h), by simp⟩

end Go.Proofs.YtjkdanmpihildaaGreatDoor
