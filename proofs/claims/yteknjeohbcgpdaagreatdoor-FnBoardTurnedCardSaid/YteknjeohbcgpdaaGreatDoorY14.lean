/-
  Memory: the bytes of a string, laid anew, stored into and read back as a string. (4 texts.)
-/
import Derived.Test.YteknjeohbcgpdaaGreatDoorY1
import Derived.Test.YteknjeohbcgpdaaGreatDoorY4
import Derived.Test.YteknjeohbcgpdaaGreatDoorY8
import Derived.Test.YteknjeohbcgpdaaGreatDoorY10
import Derived.Test.YteknjeohbcgpdaaGreatDoorY13
import Derived.Laws.Concat
import Derived.Laws.ResultCell
import Derived.Lib.ConvBytes
import Derived.Laws.IdiomStrings
set_option maxRecDepth 100000
namespace Go.Proofs.YteknjeohbcgpdaaGreatDoor
section
open Go.RowKit
open Cgt (Cs cs_ext)

theorem own_setv {w : World} {B e g n cap k : Nat} {xs : List Value} (h : w.ownsRow B e 1 (.slice (some ⟨g, 0, none⟩) n cap) n xs) (_hk : k < n) (x : Value) :
    (w.setCell ⟨g, k, none⟩ x).ownsRow B e 1 (.slice (some ⟨g, 0, none⟩) n cap) n (xs.set k x) := by
  obtain ⟨hl, h2⟩ := h
  refine ⟨by simpa using hl, ?_⟩
  rcases h2 with ⟨e1, _⟩ | ⟨g', cap', cur, e1, hb, hg, hnc, hcm, hcs, ht⟩
  · simp at e1
  · simp only [Value.slice.injEq, Option.some.injEq, Addr.mk.injEq, and_true, true_and] at e1
    obtain ⟨rfl, rfl⟩ := e1
    refine .inr ⟨g, cap, cur.setIfInBounds k x, rfl, hb, heap_setCell_same _ _ _ _ _ _ hg, hnc, hcm, by simp [hcs], ?_⟩
    rw [Array.toList_setIfInBounds, ← ht, List.take_set]
theorem own_lowerB {w : World} {B C e size n : Nat} {v : Value} {xs : List Value} (h : w.ownsRow B e size v n xs) (hC : C ≤ B) : w.ownsRow C e size v n xs := by
  obtain ⟨hl, h2⟩ := h
  refine ⟨hl, ?_⟩
  rcases h2 with h2 | ⟨g, cap, cur, e1, hb, rest⟩
  · exact .inl h2
  · exact .inr ⟨g, cap, cur, e1, Nat.le_trans hC hb, rest⟩
abbrev Cl := List (List Bool)
def gat (cl : Cl) (r c : Nat) : Bool := (cl.getD r []).getD c false
def gset (cl : Cl) (r c : Nat) (x : Bool) : Cl := cl.set r ((cl.getD r []).set c x)

structure Sz (cl : Cl) (h w : Nat) : Prop where
  hgt : cl.length = h
  row : ∀ r, r ∈ cl → r.length = w
theorem Sz.at {cl : Cl} {h w : Nat} (s : Sz cl h w) {i : Nat} (hi : i < cl.length) : cl[i].length = w := s.row _ (List.getElem_mem hi)
theorem gat_eq {cl : Cl} {r c : Nat} (hr : r < cl.length) (hc : c < cl[r].length) : gat cl r c = cl[r][c] := by
  unfold gat
  rw [List.getD_eq_getElem?_getD (l := cl), List.getElem?_eq_getElem hr, Option.getD_some, List.getD_eq_getElem?_getD, List.getElem?_eq_getElem hc, Option.getD_some]
theorem Sz.set {cl : Cl} {h w : Nat} (s : Sz cl h w) (r c : Nat) (x : Bool) : Sz (gset cl r c x) h w := by
  refine ⟨by simp [gset, s.hgt], fun q hq => ?_⟩
  unfold gset at hq
  rcases List.mem_or_eq_of_mem_set hq with e | e
  · exact s.row q e
  · by_cases hr : r < cl.length
    · subst e
      rw [List.length_set, List.getD_eq_getElem?_getD, List.getElem?_eq_getElem hr, Option.getD_some]
      exact s.at hr
    · rw [List.set_eq_of_length_le (by omega)] at hq; exact s.row q hq
structure Gr (w : World) (B : Nat) (v : Value) (sl : Nat → Value) (cl : Cl) : Prop where
  row : w.ownsRow B 106 1 v cl.length ((List.range cl.length).map sl)
  own : ∀ j (h : j < cl.length), w.ownsRow B 4 1 (sl j) cl[j].length (cl[j].map Value.bool)
  ap : ∀ i j, i < cl.length → j < cl.length → i ≠ j → ∀ b, (sl i).ownBlock = some b → (sl j).ownBlock ≠ some b
  ap0 : ∀ j, j < cl.length → ∀ b, (sl j).ownBlock = some b → v.ownBlock ≠ some b

def GrB (sl : Nat → Value) (n : Nat) (b : Nat) : Prop := ∃ j, j < n ∧ (sl j).ownBlock = some b
def GrA (v : Value) (sl : Nat → Value) (n : Nat) (b : Nat) : Prop := v.ownBlock = some b ∨ GrB sl n b

theorem Gr.keep {w w' : World} {B : Nat} {v : Value} {sl : Nat → Value} {cl : Cl} {G : Nat → Prop} (h : Gr w B v sl cl) (hk : Keep G w w') (hG : ∀ b, GrA v sl cl.length b → ¬ G b) : Gr w' B v sl cl :=
  ⟨own_keepG h.row hk fun b hb => hG b (.inl hb), fun j hj => own_keepG (h.own j hj) hk fun b hb => hG b (.inr ⟨j, hj, hb⟩), h.ap, h.ap0⟩
theorem Gr.ext {w w' : World} {B : Nat} {v : Value} {sl : Nat → Value} {cl : Cl} (h : Gr w B v sl cl) (hx : Ext w w') : Gr w' B v sl cl := h.keep (keep_ext (F := fun _ => False) hx) fun _ _ => id
theorem Gr.lower {w : World} {B C : Nat} {v : Value} {sl : Nat → Value} {cl : Cl} (h : Gr w B v sl cl) (hC : C ≤ B) : Gr w C v sl cl := ⟨own_lowerB h.row hC, fun j hj => own_lowerB (h.own j hj) hC, h.ap, h.ap0⟩
theorem Gr.lt {w : World} {B : Nat} {v : Value} {sl : Nat → Value} {cl : Cl} (h : Gr w B v sl cl) {b : Nat} (hb : GrA v sl cl.length b) : B ≤ b ∧ b < w.heap.size := by
  rcases hb with hb | ⟨j, hj, hb⟩
  · exact h.row.lt b hb
  · exact (h.own j hj).lt b hb
theorem Gr.nil {w : World} {B : Nat} {v : Value} (h : w.ownsRow B 106 1 v 0 []) : Gr w B v (fun _ => .slice none 0 0) [] :=
  ⟨h, fun j hj => absurd hj (by simp), fun i j hi => absurd hi (by simp), fun j hj => absurd hj (by simp)⟩

theorem Gr.top {w : World} {B : Nat} {v : Value} {sl : Nat → Value} {cl : Cl} (h : Gr w B v sl cl) {i : Nat} (hi : i < cl.length) : ∃ g cap, v = .slice (some ⟨g, 0, none⟩) cl.length cap ∧ w.cell? ⟨g, i, none⟩ = some (sl i) := by
  obtain ⟨g, cap, e, _, _, hc⟩ := own_at h.row (by omega)
  exact ⟨g, cap, e, by rw [hc i (by omega)]; simp [hi]⟩
theorem Gr.len {w : World} {B : Nat} {v : Value} {sl : Nat → Value} {cl : Cl} (h : Gr w B v sl cl) : ∃ a cap, v = .slice a cl.length cap ∧ cl.length ≤ cap ∧ cap ≤ maxLen := own_len h.row
theorem Gr.rlen {w : World} {B : Nat} {v : Value} {sl : Nat → Value} {cl : Cl} (h : Gr w B v sl cl) {i : Nat} (hi : i < cl.length) : ∃ a cap, sl i = .slice a cl[i].length cap ∧ cl[i].length ≤ cap := by
  obtain ⟨a, cap, e, h1, _⟩ := own_len (h.own i hi); exact ⟨a, cap, e, h1⟩

theorem Gr.cell {w : World} {B : Nat} {v : Value} {sl : Nat → Value} {cl : Cl} (h : Gr w B v sl cl) {i k : Nat} (hi : i < cl.length) (hk : k < cl[i].length) :
    ∃ g cap, sl i = .slice (some ⟨g, 0, none⟩) cl[i].length cap ∧ w.cell? ⟨g, k, none⟩ = some (.bool cl[i][k]) ∧ w.frozen? ⟨g, k, none⟩ = false := by
  obtain ⟨g, cap, e, _, _, hc⟩ := own_at (h.own i hi) (by omega)
  have ho := h.own i hi
  rw [e] at ho
  exact ⟨g, cap, e, by rw [hc k (by omega)]; simp [hk], ho.frozenAt k⟩

theorem Gr.set {w : World} {B : Nat} {v : Value} {sl : Nat → Value} {cl : Cl} (h : Gr w B v sl cl) {i k g cap : Nat} (hi : i < cl.length) (hk : k < cl[i].length) (e : sl i = .slice (some ⟨g, 0, none⟩) cl[i].length cap) (x : Bool) :
    Gr (w.setCell ⟨g, k, none⟩ (.bool x)) B v sl (gset cl i k x) := by
  have hg : (sl i).ownBlock = some g := by rw [e]; rfl
  have hlen : (gset cl i k x).length = cl.length := by simp [gset]
  have hks := keep_set (w := w) (p := ⟨g, k, none⟩) (v := .bool x)
  refine ⟨?_, fun j hj => ?_, ?_, ?_⟩
  · rw [hlen]; exact own_keepG h.row hks fun b hb q => h.ap0 i hi g hg (by rw [hb]; exact congrArg some q)
  · have hj' : j < cl.length := by omega
    by_cases c : i = j
    · subst c
      have ho := h.own i hi
      rw [e] at ho
      have := own_setv ho hk (.bool x)
      have e1 : (gset cl i k x)[i] = cl[i].set k x := by
        simp only [gset, List.getElem_set_self, List.getD_eq_getElem?_getD, List.getElem?_eq_getElem hi, Option.getD_some]
      rw [e1, List.length_set, List.map_set, e]; exact this
    · have e1 : (gset cl i k x)[j] = cl[j] := by simp only [gset]; rw [List.getElem_set_ne c]
      rw [e1]
      exact own_keepG (h.own j hj') hks fun b hb q => h.ap i j hi hj' c g hg (by rw [hb]; exact congrArg some q)
  · rw [hlen]; exact h.ap
  · rw [hlen]; exact h.ap0

theorem Gr.snoc {w : World} {B : Nat} {v' x : Value} {sl : Nat → Value} {cl : Cl} {r : List Bool} (h : ∀ j (hj : j < cl.length), w.ownsRow B 4 1 (sl j) cl[j].length (cl[j].map Value.bool))
    (ho : w.ownsRow B 106 1 v' (cl.length + 1) ((List.range cl.length).map sl ++ [x])) (hx : w.ownsRow B 4 1 x r.length (r.map Value.bool))
    (ha : ∀ i j, i < cl.length → j < cl.length → i ≠ j → ∀ b, (sl i).ownBlock = some b → (sl j).ownBlock ≠ some b) (hax : ∀ j, j < cl.length → ∀ b, (sl j).ownBlock = some b → x.ownBlock ≠ some b)
    (h0 : ∀ j, j < cl.length → ∀ b, (sl j).ownBlock = some b → v'.ownBlock ≠ some b) (h0x : ∀ b, x.ownBlock = some b → v'.ownBlock ≠ some b) :
    Gr w B v' (fun j => if j = cl.length then x else sl j) (cl ++ [r]) := by
  have hlen : (cl ++ [r]).length = cl.length + 1 := by simp
  refine ⟨?_, fun j hj => ?_, fun i j hi hj hij b hb => ?_, fun j hj b hb => ?_⟩
  · rw [hlen, List.range_succ, List.map_append]
    have e1 : (List.range cl.length).map (fun j => if j = cl.length then x else sl j) = (List.range cl.length).map sl := List.map_congr_left fun j hj => if_neg (by have := List.mem_range.1 hj; omega)
    rw [e1]; simpa using ho
  · by_cases c : j = cl.length
    · subst c; simpa using hx
    · have hj' : j < cl.length := by omega
      simp only [if_neg c, List.getElem_append_left hj']
      exact h j hj'
  · rw [hlen] at hi hj
    by_cases c : i = cl.length
    · simp only [if_pos c] at hb
      have : ¬ j = cl.length := by omega
      simp only [if_neg this]
      exact fun e => hax j (by omega) b e hb
    · simp only [if_neg c] at hb
      by_cases d : j = cl.length
      · simp only [if_pos d]; exact hax i (by omega) b hb
      · simp only [if_neg d]; exact ha i j (by omega) (by omega) hij b hb
  · rw [hlen] at hj
    by_cases c : j = cl.length
    · simp only [if_pos c] at hb; exact h0x b hb
    · simp only [if_neg c] at hb; exact h0 j (by omega) b hb
end
section
open Go.RowKit
open Cgt (Brd GB txtB Cs)

theorem txtB_len : ∀ {b : Brd}, (∀ r, r ∈ b → r.length ≤ 8) → (txtB b).length ≤ 9 * b.length
  | [], _ => by simp [txtB]
  | [r], h => by have := h r (by simp); simp [txtB]; omega
  | r :: s :: t, h => by
    rw [Cgt.txtB_cons, List.length_append, List.length_cons]
    have h1 := h r (by simp)
    have h2 := txtB_len (b := s :: t) fun x hx => h x (List.mem_cons_of_mem _ hx)
    simp only [List.length_cons] at h2 ⊢
    omega
theorem gb_row {ss : List ByteArray} {hh ww : Nat} (g : GB (bd ss) hh ww) {i : Nat} (hi : i < ss.length) : ss[i].size = ww := by
  have := (g.row (bdr ss[i]) (by rw [← bd_at hi]; exact List.getElem_mem _)).1
  rw [bdr_len] at this; exact this
theorem gb_len {ss : List ByteArray} {hh ww : Nat} (g : GB (bd ss) hh ww) : ss.length = hh := by rw [← bd_len]; exact g.hgt
end
section
open Go.RowKit
open Cgt (Brd GB txtB Cs)

theorem info_boolC : (Tryz.prog.info? 4).map (fun i => (i.zero, i.size, i.bytes)) = some (some (.bool false), 1, 1) := by kernel_rfl
theorem info_bools : (Tryz.prog.info? 106).map (fun i => (i.zero, i.size, i.bytes)) = some (some (.slice none 0 0), 1, 24) := by kernel_rfl
theorem one_bool {x : Bool} : ∀ u ∈ ([Value.bool x] : List Value), u.oneCell' = true := by
  intro u hu; simp at hu; subst hu; rfl
theorem one_slice {a : Option Addr} {n c : Nat} : ∀ u ∈ ([Value.slice a n c] : List Value), u.oneCell' = true := by
  intro u hu; simp at hu; subst hu; rfl

def rowC (s : ByteArray) : List Bool := (bdr s).map (· == 46)
def cellsC (ss : List ByteArray) : Cl := ss.map rowC
theorem rowC_len (s : ByteArray) : (rowC s).length = s.size := by simp [rowC, bdr_len]
theorem rowC_take {s : ByteArray} {k : Nat} (h : k < s.size) : (rowC s).take (k + 1) = (rowC s).take k ++ [(s[k]).toNat == 46] := by
  rw [List.take_succ_eq_append_getElem (by rw [rowC_len]; exact h)]
  congr 2
  simp only [rowC, List.getElem_map, bdr_at h]
  rw [Bool.eq_iff_iff, beq_iff_eq, beq_iff_eq, ← UInt8.toNat_inj]; rfl
theorem cellsC_len (ss : List ByteArray) : (cellsC ss).length = ss.length := by simp [cellsC]
theorem cellsC_take {ss : List ByteArray} {k : Nat} (h : k < ss.length) : cellsC (ss.take (k + 1)) = cellsC (ss.take k) ++ [rowC ss[k]] := by
  unfold cellsC; rw [List.take_succ_eq_append_getElem h, List.map_append]; rfl
theorem cellsC_sz {ss : List ByteArray} {hh ww : Nat} (g : GB (bd ss) hh ww) : Sz (cellsC ss) hh ww := by
  refine ⟨by rw [cellsC_len]; exact gb_len g, fun r hr => ?_⟩
  obtain ⟨s, hs, rfl⟩ := List.mem_map.1 hr
  obtain ⟨i, hi, rfl⟩ := List.mem_iff_getElem.1 hs
  rw [rowC_len]; exact gb_row g hi
theorem Gr.push {wo wr w5 : World} {B : Nat} {ov rv v5 : Value} {X : Obj} {sl : Nat → Value} {cl : Cl} {r : List Bool} (hG : Gr wo B ov sl cl) (hE : Ext wo wr) (hB : B ≤ wo.heap.size)
    (hrow : wr.ownsRow wo.heap.size 4 1 rv r.length (r.map Value.bool)) (ho : w5.ownsRow B 106 1 v5 (cl.length + 1) ((List.range cl.length).map sl ++ [rv]))
    (hg : (wr.alloc X).grownBy w5 ov.ownBlock) (hl : Lies (wr.alloc X) ov v5) : ∃ sl', Gr w5 B v5 sl' (cl ++ [r]) := by
  have hk : Keep (fun b => ov.ownBlock = some b) (wr.alloc X) w5 := ⟨hg.os, hg.tape, hg.output, hg.size, fun k hk hn => hg.block k hk (fun e => hn e.symm)⟩
  have hx := ext_alloc (Below.refl wr.heap.size wr) X
  have hz : (wr.alloc X).heap.size = wr.heap.size + 1 := World.size_alloc _ _
  have hzo := hE.size
  have hov : ∀ b, ov.ownBlock = some b → b < wo.heap.size := fun b hb => (hG.lt (.inl hb)).2
  have hsl : ∀ j, j < cl.length → ∀ b, (sl j).ownBlock = some b → b < wo.heap.size := fun j hj b hb => (hG.lt (.inr ⟨j, hj, hb⟩)).2
  have hrv : ∀ b, rv.ownBlock = some b → wo.heap.size ≤ b ∧ b < wr.heap.size := fun b hb => hrow.lt b hb
  have hv5 : ∀ b, v5.ownBlock = some b → ov.ownBlock = some b ∨ wr.heap.size + 1 ≤ b := fun b hb => by
    rcases hl with e | ⟨q, e, k⟩
    · exact .inl (by rw [← e]; exact hb)
    · rw [e] at hb; injection hb with hb; exact .inr (by omega)
  refine ⟨_, Gr.snoc (x := rv) (sl := sl) (fun j hj => own_keepG (own_keep (own_keep (hG.own j hj) hE) hx) hk fun b hb e => hG.ap0 j hj b hb e) ho
    (own_lowerB (own_keepG (own_keep hrow hx) hk fun b hb e => by have := (hrv b hb).1; have := hov b e; omega) hB) hG.ap (fun j hj b hb e => ?_) (fun j hj b hb e => ?_) (fun b hb e => ?_)⟩
  · have := hsl j hj b hb; have := (hrv b e).1; omega
  · rcases hv5 b e with k | k
    · exact hG.ap0 j hj b hb k
    · have := hsl j hj b hb; omega
  · rcases hv5 b e with k | k
    · have := hov b k; have := (hrv b hb).1; omega
    · have := (hrv b hb).2; omega
theorem beq46 (n : Nat) : (((n : Nat) : Int) == 46) = (n == 46) := by rw [Bool.eq_iff_iff]; simp; omega

set_option maxHeartbeats 4000000 in
theorem l21Cells_any (v : Value) (ss : List ByteArray) (hh ww : Nat) (w : World) (h : Strs w v ss) (g : GB (bd ss) hh ww) :
    Calls Tryz.prog 75 #[.agg #[v]] w fun e w' => ∃ v' sl, e = .returned v' ∧ Gr w' w.heap.size v' sl (cellsC ss) ∧ Ext w w' := by
  obtain ⟨a, cap, rfl, hcap, hml⟩ := h.open
  obtain ⟨i0, hi0, hz0, hz1, hz2⟩ := info_parts info_bools
  obtain ⟨i1, hi1, hy0, hy1, hy2⟩ := info_parts info_boolC
  have hn := gb_len g
  have h8 := g.h1
  have w8 := g.w1
  have hss : ss.length ≤ 8 := by omega
  have GG := Lib.hid g
  clear g h8 hn
  have hxb : Ext w (w.alloc (.cells #[.slice a ss.length cap] 31)) := by go_grown
  have hbb := heap_alloc_new w (.cells #[.slice a ss.length cap] 31)
  have hr0 := World.ownsRow_made (w.alloc (.cells #[.slice a ss.length cap] 31)) (base := (w.alloc (.cells #[.slice a ss.length cap] 31)).heap.size) (e := 106) (size := 1) #[] 0 (Nat.le_refl _) (by decide) (by simp)
  have hx0 := ext_alloc (Below.refl (w.alloc (.cells #[.slice a ss.length cap] 31)).heap.size (w.alloc (.cells #[.slice a ss.length cap] 31))) (.cells #[] 106)
  have hzb : (w.alloc (.cells #[.slice a ss.length cap] 31)).heap.size = w.heap.size + 1 := World.size_alloc _ _
  rw [hzb] at hr0
  go_enter Tryz.func75, Tryz.ntmps75
  go_wp2
  generalize w.alloc (.cells #[.slice a ss.length cap] 31) = W at *
  have hpz := blk_lt hbb
  go_loopw [3, 4, 5, 6] (fun ov ii _ _ wr => ∃ (i : Nat) (sl : Nat → Value), ii = .int .i64 ((i : Nat) : Int) ∧ i ≤ ss.length ∧ Ext W wr ∧ Hid (Gr wr W.heap.size ov sl (cellsC (ss.take i)))) (fun _ ii _ _ _ => ss.length - (intOf ii).toNat)
  case atStart => exact ⟨0, _, rfl, Nat.zero_le _, hx0, Lib.hid (Gr.nil (by rw [hzb]; exact hr0))⟩
  case round =>
    obtain ⟨i, sl, rfl, hi, hx, HG⟩ := hrel
    clear hr0 hx0
    have hE := ext_trans hxb hx
    have hbr : wr.heap[w.heap.size]? = some (.cells #[.slice a ss.length cap] 31 (0, 0)) := (hx.block _ hpz).trans hbb
    have c0 := cell_of_row wr w.heap.size 0 _ _ _ hbr
    simp only [gE] at c0
    by_cases hlt : i < ss.length
    · have h1 : ((i : Nat) : Int) < ((ss.length : Nat) : Int) := by omega
      obtain ⟨b, off, rfl, hc⟩ := (h.ext hE).at hlt
      have HC := Lib.hid (hc i hlt)
      have hsz : ss[i].size ≤ 8 := by rw [gb_row GG.out hlt]; exact w8.2
      have HTK := Lib.hid (cellsC_take hlt)
      obtain ⟨si, esi⟩ : ∃ si : ByteArray, ss[i] = si := ⟨_, rfl⟩
      rw [esi] at HC hsz HTK
      have HLT := Lib.hid hlt
      have hr1 := World.ownsRow_made wr (base := wr.heap.size) (e := 4) (size := 1) #[] 0 (Nat.le_refl _) (by decide) (by simp)
      have hx1 := ext_alloc (Below.refl wr.heap.size wr) (.cells #[] 4)
      have HX := Lib.hid hx
      have HB := Lib.hid hbr
      clear hc hx hE hbr esi hlt
      go_wp2
      obtain ⟨wo, hwo⟩ : ∃ wo, wo = wr := ⟨_, rfl⟩
      rw [← hwo] at HG HX HB HC hr1 hx1 ⊢
      clear c0
      go_loopw [5, 6] (fun rv kk wr => ∃ k : Nat, kk = .int .i64 ((k : Nat) : Int) ∧ k ≤ si.size ∧ Ext wo wr ∧ wr.ownsRow wo.heap.size 4 1 rv k (((rowC si).take k).map Value.bool)) (fun _ kk _ => si.size - (intOf kk).toNat)
      case atStart => exact ⟨0, rfl, Nat.zero_le _, hx1, by simpa using hr1⟩
      case round =>
        clear hr1 hx1 hwo
        obtain ⟨k, rfl, hk, hx2, hro⟩ := hrel
        have hbr : wr.heap[w.heap.size]? = some (.cells #[.slice (some ⟨b, off, none⟩) ss.length cap] 31 (0, 0)) := (hx2.block _ (blk_lt HB.out)).trans HB.out
        have c0 := cell_of_row wr w.heap.size 0 _ _ _ hbr
        simp only [gE] at c0
        have ci := (hx2.cell (lt_of_cell HC.out)).trans HC.out
        have h1 : ((i : Nat) : Int) < ((ss.length : Nat) : Int) := by have := HLT.out; omega
        by_cases hkl : k < si.size
        · have h4 : ((k : Nat) : Int) < ((si.size : Nat) : Int) := by omega
          obtain ⟨ar, cr, rfl, hcr, _⟩ := own_len hro
          have HK := Lib.hid (rowC_take hkl)
          have HX2 := Lib.hid hx2
          clear hx2 hbr
          go_wp2_with (at_builtin; refine app_list rfl (.tmp 26) (.tmp 35) 106 rfl wo.heap.size 4 i1 (.bool false) 1 1 Tryz.underlying106 hi1 hy0 hy1 hy2 rfl (by decide) (.slice ar k cr) k _ rfl (hro.alloc _) _ 1 _ [.bool ((((si[k]'hkl).toNat : Nat) : Int) == 46)] rfl rfl (.inr ⟨_, rfl, one_src (new_cell _ _ _)⟩) one_bool (by unfold maxLen; omega) (by omega) (by rw [World.size_alloc]; have := HX2.out.size; omega) ?_; intro v5 w5 ho5 hg5 hl5)
          go_roundw
          case rel => exact ⟨k + 1, by go_num, by omega, ext_app HX2.out hro hg5, by rw [HK.out, List.map_append, ← beq46]; exact ho5⟩
          case measure => simp [intOf]; omega
        · have h4 : ¬ (((k : Nat) : Int) < ((si.size : Nat) : Int)) := by omega
          have hke : k = si.size := by omega
          have HKE := Lib.hid hke
          have hGr := HG.out.ext hx2
          obtain ⟨ao, co, rfl, hco, _⟩ := hGr.len
          have hcl : (cellsC (ss.take i)).length ≤ 8 := by rw [cellsC_len, List.length_take]; omega
          obtain ⟨ar, cr, rfl, hcr, _⟩ := own_len hro
          have HX2 := Lib.hid hx2
          have HG2 := Lib.hid hGr
          have hrowG := hGr.row
          generalize hcn : (cellsC (ss.take i)).length = cn at *
          clear hx2 hbr hke hkl hGr
          go_wp2_with (at_builtin; refine app_list rfl (.tmp 37) (.tmp 39) 104 rfl W.heap.size 106 i0 (.slice none 0 0) 1 24 Tryz.underlying104 hi0 hz0 hz1 hz2 rfl (by decide) (.slice ao cn co) cn _ rfl (hrowG.alloc _) _ 1 _ [.slice ar k cr] rfl rfl (.inr ⟨_, rfl, one_src (new_cell _ _ _)⟩) one_slice (by unfold maxLen; omega) (by omega) (by rw [World.size_alloc]; have := HX2.out.size; have := HX.out.size; omega) ?_; intro v5 w5 ho5 hg5 hl5)
          go_roundw
          case rel =>
            subst hcn
            have hro' : wr.ownsRow wo.heap.size 4 1 (.slice ar k cr) (rowC si).length ((rowC si).map Value.bool) := by
              rw [rowC_len, ← HKE.out]
              have e : (rowC si).take k = rowC si := List.take_of_length_le (by rw [rowC_len]; have := HKE.out; omega)
              rw [e] at hro; exact hro
            obtain ⟨sl', hS⟩ := Gr.push HG.out HX2.out HX.out.size hro' ho5 hg5 hl5
            exact ⟨i + 1, sl', by go_num, HLT.out, ext_grown (ext_alloc (ext_trans HX.out HX2.out) _) hg5 (fun q hq => (HG.out.lt (.inl hq)).1), Lib.hid (by rw [HTK.out]; exact hS)⟩
          case measure => have := HLT.out; simp [intOf]; omega
    · have h1 : ¬ (((i : Nat) : Int) < ((ss.length : Nat) : Int)) := by omega
      have hie : i = ss.length := by omega
      have HIE := Lib.hid hie
      clear hie hlt
      go_wp2
      go_ret
      refine ⟨_, rfl, ⟨sl, ?_⟩, hE⟩
      have := HG.out
      rw [HIE.out, List.take_length] at this
      exact this.lower (by omega)
end
section
open Go.RowKit
open Cgt (Brd GB txtB fr plc nxr nxc can)

def ByR (W : World) (g : Nat) (l : List UInt8) : Prop := ∃ cs : Array Value, W.heap[g]? = some (.cells cs 5 (cs.size, cs.size + 1)) ∧ l.length ≤ cs.size ∧ ∀ j (h : j < l.length), cs[j]? = some (.int .u8 ((l[j]).toNat : Int))
theorem ByR.new (W : World) (s : ByteArray) : ByR (Lib.bytesWorld W 5 s) W.heap.size s.data.toList := by
  refine ⟨_, Lib.bytesWorld_at_new W _ s, ?_, fun j hj => ?_⟩
  · unfold Lib.bytesCells; simp
  · unfold Lib.bytesCells
    have hj' : j < s.data.size := by simpa using hj
    rw [Array.getElem?_append, if_pos (by simpa using hj'), Array.getElem?_map]
    simp only [Array.getElem_toList]
    rw [Array.getElem?_eq_getElem hj']; rfl
theorem ext_bytes {w W : World} (h : Ext w W) (s : ByteArray) : Ext w (Lib.bytesWorld W 5 s) := by
  have hz := Lib.bytesWorld_size W 5 s
  have hz' := h.size
  have e : (Lib.bytesWorld W 5 s).os = W.os ∧ (Lib.bytesWorld W 5 s).tape = W.tape ∧ (Lib.bytesWorld W 5 s).output = W.output := by
    unfold Lib.bytesWorld World.freeze
    split <;> exact ⟨rfl, rfl, rfl⟩
  exact ext_trans h ⟨e.1, e.2.1, e.2.2, by omega, fun k hk => Lib.bytesWorld_at_old W _ s k hk⟩
theorem ByR.cell {W : World} {g : Nat} {l : List UInt8} (h : ByR W g l) {k : Nat} (hk : k < l.length) : W.cell? ⟨g, k, none⟩ = some (.int .u8 ((l[k]).toNat : Int)) := by
  obtain ⟨cs, h1, h2, h3⟩ := h
  simp [World.cell?, h1, h3 k hk]
theorem ByR.frozen {W : World} {g : Nat} {l : List UInt8} (h : ByR W g l) {k : Nat} (hk : k < l.length) : W.frozen? ⟨g, k, none⟩ = false := by
  obtain ⟨cs, h1, h2, h3⟩ := h
  simp [World.frozen?, h1]; omega
theorem ByR.keep {W W' : World} {g : Nat} {l : List UInt8} (h : ByR W g l) (hk : W'.heap[g]? = W.heap[g]?) : ByR W' g l := by
  obtain ⟨cs, h1, h2, h3⟩ := h
  exact ⟨cs, hk.trans h1, h2, h3⟩
theorem ByR.lt {W : World} {g : Nat} {l : List UInt8} (h : ByR W g l) : g < W.heap.size := by
  obtain ⟨cs, h1, h2, h3⟩ := h
  exact (Array.getElem?_eq_some_iff.1 h1).1
theorem ByR.set {W : World} {g : Nat} {l : List UInt8} (h : ByR W g l) {k : Nat} (hk : k < l.length) (x : UInt8) (n : Int) (hn : n = (x.toNat : Int)) : ByR (W.setCell ⟨g, k, none⟩ (.int .u8 n)) g (l.set k x) := by
  obtain ⟨cs, h1, h2, h3⟩ := h
  subst hn
  refine ⟨cs.setIfInBounds k (.int .u8 (x.toNat : Int)), ?_, by simpa using h2, fun j hj => ?_⟩
  · have hlt : g < W.heap.size := (Array.getElem?_eq_some_iff.1 h1).1
    unfold World.setCell
    simp [Array.getElem?_modify, h1]
  · rw [List.length_set] at hj
    rw [Array.getElem?_setIfInBounds]
    by_cases e : k = j
    · subst e
      rw [if_pos rfl, if_pos (by omega)]; simp
    · rw [if_neg e, h3 j hj]; simp [e]
theorem ByR.back {W : World} {g n cap : Nat} {l : List UInt8} (h : ByR W g l) (hn : n = l.length) : (convert 38 9 (.slice (some ⟨g, 0, none⟩) n cap)).run Tryz.prog W = .ok (.string ⟨l.toArray⟩) W := by
  subst hn
  refine run_convert_bytes_back W _ _ 5 _ cap l Tryz.underlying38 Tryz.underlying5 Tryz.underlying9 fun j hj => ?_
  have : (⟨g, 0, none⟩ : Addr).add j = ⟨g, j, none⟩ := by unfold Addr.add; split <;> simp_all
  rw [this]; exact h.cell hj
end
end Go.Proofs.YteknjeohbcgpdaaGreatDoor
