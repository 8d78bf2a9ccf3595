/-
  Contract of the book's form.
-/
import Derived.Test.YtjkdanmpihildaaGreatDoorQ4
import Derived.Test.YtjkdanmpihildaaGreatDoorQ15
import Derived.Deep.DeepCutAuto
import Derived.Deep.CutBlock
namespace Go.Proofs.YtjkdanmpihildaaGreatDoor
open Go.RowKit
open Cgt (Dag Nd vl nc born)

theorem BookAt.bornX {w : World} {pb : Nat} {vn vb : Value} {D : Dag} (h : BookAt w pb vn vb D) (h0 : 0 < D.length) :
    ∃ gb cb, vb = .slice (some ⟨gb, 0, none⟩) D.length cb ∧ ∀ W, Ext w W → W.cell? ⟨pb, 1, none⟩ = some (.slice (some ⟨gb, 0, none⟩) D.length cb) ∧ ∀ x, x < D.length → W.cell? ⟨gb, x, none⟩ = some (.int .i64 (Cgt.born (vl D x) : Int)) := by
  obtain ⟨gb, cb, rfl, _, _, _⟩ := h.bornCell h0
  refine ⟨gb, cb, rfl, fun W hW => ⟨(h.ext hW).cell1, fun x hx => ?_⟩⟩
  obtain ⟨g, c, e, _, _, hc⟩ := (h.ext hW).bornCell hx
  simp only [Value.slice.injEq, Option.some.injEq, Addr.mk.injEq, and_true, true_and] at e
  obtain ⟨rfl, rfl⟩ := e
  exact hc

theorem atZ_toZ (at_ l : List Nat) : atZ (toZ at_) (toZ l) = toZ (l.map fun x => at_.getD x 0) := by
  unfold atZ toZ
  rw [List.map_map, List.map_map]
  refine List.map_congr_left fun x _ => ?_
  simp only [Function.comp, zat, Int.toNat_natCast, List.getElem?_map, List.getD_eq_getElem?_getD]
  cases at_[x]? <;> rfl
theorem xn_list {D : Dag} {at_ : List Nat} {m : Nat} (hm : m < D.length) : sortZ (atZ (toZ at_) (toZ (D[m]).1)) = toZ (Xn D at_ m).1 ∧ sortZ (atZ (toZ at_) (toZ (D[m]).2)) = toZ (Xn D at_ m).2 := by
  rw [atZ_toZ, atZ_toZ, sortN_toZ, sortN_toZ, Xn, opt_true hm, opt_false hm]; exact ⟨rfl, rfl⟩
theorem good_lens {D : Dag} (g : Cgt.Good D) {m : Nat} (hm : m < D.length) : (D[m]).1.length ≤ m ∧ (D[m]).2.length ≤ m := by
  have h := g.asc _ (List.getElem_mem hm)
  have hw := g.wf m _ (List.getElem?_eq_getElem hm)
  exact ⟨nodup_len (asc_nodup h.1) hw.1, nodup_len (asc_nodup h.2) hw.2⟩

def PAt (w : World) (p : Nat) (L R : Value) : Prop := w.heap[p]? = some (.cells #[L, R] 80 (0, 0))
theorem PAt.ext {w w' : World} {p : Nat} {L R : Value} (h : PAt w p L R) (hx : Ext w w') : PAt w' p L R := by unfold PAt at *; rw [hx.block p (blk_lt h)]; exact h
theorem made_node {wr W : World} {p : Nat} {vB vD L R : Value} {l r : List Int} (hEx : Ext wr W) (hpz : wr.heap.size ≤ p) (hP : PAt W p L R) (hIB : Ints W vB l) (hID : Ints W vD r)
    (hfB : ∀ b, vB.ownBlock = some b → wr.heap.size ≤ b ∧ b < W.heap.size) (hfD : ∀ b, vD.ownBlock = some b → wr.heap.size ≤ b ∧ b < W.heap.size) (hBp : ∀ b, vB.ownBlock = some b → b ≠ p) (hDp : ∀ b, vD.ownBlock = some b → b ≠ p) :
    Ext wr ((W.setCell ⟨p, 0, none⟩ vB).setCell ⟨p, 1, none⟩ vD) ∧ PAt ((W.setCell ⟨p, 0, none⟩ vB).setCell ⟨p, 1, none⟩ vD) p vB vD ∧ Ints ((W.setCell ⟨p, 0, none⟩ vB).setCell ⟨p, 1, none⟩ vD) vB l ∧ Ints ((W.setCell ⟨p, 0, none⟩ vB).setCell ⟨p, 1, none⟩ vD) vD r ∧
    (∀ b, vB.ownBlock = some b → wr.heap.size ≤ b ∧ b < ((W.setCell ⟨p, 0, none⟩ vB).setCell ⟨p, 1, none⟩ vD).heap.size) ∧ (∀ b, vD.ownBlock = some b → wr.heap.size ≤ b ∧ b < ((W.setCell ⟨p, 0, none⟩ vB).setCell ⟨p, 1, none⟩ vD).heap.size) := by
  have e : ∀ k, k ≠ p → ((W.setCell ⟨p, 0, none⟩ vB).setCell ⟨p, 1, none⟩ vD).heap[k]? = W.heap[k]? := fun k hk => by rw [heap_setCell_other _ _ _ _ (by exact hk), heap_setCell_other _ _ _ _ (by exact hk)]
  refine ⟨(hEx.setCell (p := ⟨p, 0, none⟩) hpz _).setCell (p := ⟨p, 1, none⟩) hpz _, ?_, hIB.keep (fun b _ hb => e b (hBp b hb)), hID.keep (fun b _ hb => e b (hDp b hb)), by simpa using hfB, by simpa using hfD⟩
  exact heap_setCell_same _ _ _ _ _ _ (heap_setCell_same _ _ _ _ _ _ hP)
theorem PAt.grown {W W' : World} {q : Nat} {L R v : Value} (h : PAt W q L R) (hg : W.grownBy W' v.ownBlock) (hq : ∀ b, v.ownBlock = some b → b ≠ q) : PAt W' q L R := by
  unfold PAt at *; rw [hg.block q (blk_lt h) (fun e => hq q e.symm rfl)]; exact h
theorem lies_ne {W : World} {q : Nat} {L R v v' : Value} (h : PAt W q L R) (hl : Lies W v v') (hq : ∀ b, v.ownBlock = some b → b ≠ q) : ∀ b, v'.ownBlock = some b → b ≠ q := by
  intro b hb e
  have hlt := blk_lt h
  rcases hl with h1 | ⟨g, h1, h2⟩
  · exact hq b (by rw [← h1]; exact hb) e
  · rw [h1] at hb; injection hb with hb; omega
theorem pair_src {W : World} {q : Nat} {L R : Value} (h : PAt W q L R) : ∀ j u, ([L, R] : List Value)[j]? = some u → W.cell? ((⟨q, 0, none⟩ : Addr).add j) = some u := by
  intro j u hj
  have e : (⟨q, 0, none⟩ : Addr).add j = ⟨q, j, none⟩ := by simp [Addr.add]; intro h; omega
  rw [e, cell_of_row W q j _ _ _ h]
  simpa using hj
theorem insert_done {w w3 W : World} {v3 L R : Value} {xs : List Value} {from_ : List Nat} {X : Nat → Nd} {K : Nat → Prop} {i m : Nat} (hro3 : W.ownsRow w3.heap.size 80 2 v3 (i + 1 + (from_.length - i)) (xs.take (i * 2) ++ [L, R] ++ (xs.drop (i * 2)).take ((from_.length - i) * 2)))
    (hnr : NodeRow w3 xs (from_.map X) w.heap.size K) (hEx : Ext w3 W) (hxl : xs.length = from_.length * 2) (hi : i ≤ from_.length) (hB : Ints w3 L (toZ (X m).1)) (hD : Ints w3 R (toZ (X m).2))
    (bL : ∀ b, L.ownBlock = some b → w.heap.size ≤ b ∧ b < w3.heap.size ∧ ¬ K b) (bR : ∀ b, R.ownBlock = some b → w.heap.size ≤ b ∧ b < w3.heap.size ∧ ¬ K b) (hw : w.heap.size ≤ w3.heap.size) :
    ∃ g cap xs', v3 = .slice (some ⟨g, 0, none⟩) (from_.length + 1) cap ∧ Ext w3 W ∧ w3.heap.size ≤ g ∧ W.ownsRow w.heap.size 80 2 v3 (from_.length + 1) xs' ∧ NodeRow W xs' ((from_.take i ++ m :: from_.drop i).map X) w.heap.size K := by
  have ht : (xs.drop (i * 2)).take ((from_.length - i) * 2) = xs.drop (i * 2) := List.take_of_length_le (by rw [List.length_drop]; omega)
  rw [show i + 1 + (from_.length - i) = from_.length + 1 by omega, ht, List.append_assoc] at hro3
  obtain ⟨g, cap, rfl, h1, h2, _⟩ := own_at hro3 (by omega)
  have hn := hnr.insert (by simpa using hxl) (i := i) (by simpa using hi) hB hD bL bR
  rw [show (from_.map X).take i ++ X m :: (from_.map X).drop i = (from_.take i ++ m :: from_.drop i).map X by simp [List.map_take, List.map_drop]] at hn
  exact ⟨g, cap, _, rfl, hEx, (hro3.lt g rfl).1, own_base hro3 hw, hn.ext hEx⟩
def BAt (w : World) (q : Nat) (v : Value) : Prop := w.heap[q]? = some (.cells #[v] 3 (0, 0))
theorem BAt.ext {w w' : World} {q : Nat} {v : Value} (h : BAt w q v) (hx : Ext w w') : BAt w' q v := by unfold BAt at *; rw [hx.block q (blk_lt h)]; exact h
theorem BAt.grown {W W' : World} {q : Nat} {x v : Value} (h : BAt W q x) (hg : W.grownBy W' v.ownBlock) (hq : ∀ b, v.ownBlock = some b → b ≠ q) : BAt W' q x := by
  unfold BAt at *; rw [hg.block q (blk_lt h) (fun e => hq q e.symm rfl)]; exact h
theorem lies_neB {W : World} {q : Nat} {x v v' : Value} (h : BAt W q x) (hl : Lies W v v') (hq : ∀ b, v.ownBlock = some b → b ≠ q) : ∀ b, v'.ownBlock = some b → b ≠ q := by
  intro b hb e
  have hlt := blk_lt h
  rcases hl with h1 | ⟨g, h1, h2⟩
  · exact hq b (by rw [← h1]; exact hb) e
  · rw [h1] at hb; injection hb with hb; omega
theorem insert_ints {w w4 W : World} {v3 : Value} {from_ : List Nat} {i m : Nat} (h : W.ownsRow w4.heap.size 3 1 v3 (i + 1 + (from_.length - i)) (((toZ from_).map (Value.int .i64)).take i ++ [.int .i64 ((m : Nat) : Int)] ++ (((toZ from_).map (Value.int .i64)).drop i).take (from_.length - i))) (hEx : Ext w4 W) (hi : i ≤ from_.length) (hw : w.heap.size ≤ w4.heap.size) :
    ∃ g cap, v3 = .slice (some ⟨g, 0, none⟩) (from_.length + 1) cap ∧ Ext w4 W ∧ w4.heap.size ≤ g ∧ W.ownsRow w.heap.size 3 1 v3 (from_.length + 1) ((toZ (from_.take i ++ m :: from_.drop i)).map (Value.int .i64)) := by
  have ht : (((toZ from_).map (Value.int .i64)).drop i).take (from_.length - i) = ((toZ from_).map (Value.int .i64)).drop i := List.take_of_length_le (by simp [toZ_len])
  rw [show i + 1 + (from_.length - i) = from_.length + 1 by omega, ht] at h
  have e : (toZ (from_.take i ++ m :: from_.drop i)).map (Value.int .i64) = ((toZ from_).map (Value.int .i64)).take i ++ [.int .i64 ((m : Nat) : Int)] ++ ((toZ from_).map (Value.int .i64)).drop i := by
    simp [toZ, List.map_take, List.map_drop]
  obtain ⟨g, cap, rfl, h1, h2, _⟩ := own_at h (by omega)
  exact ⟨g, cap, rfl, hEx, (h.lt g rfl).1, by rw [e]; exact own_base h hw⟩
theorem stage_put {w wo w4 W : World} {D F : Dag} {idx : List Nat} {root b m i g5 c5 : Nat} {at_ from_ : List Nat} {v3 : Value} {xs5 : List Value} {K : Nat → Prop} (g : Cgt.Good D) (hF : FInv D root F idx at_ b) (hr : root < D.length) (hL : LInv D root at_ b from_ m) (hreach : Cgt.Reach D root m) (hbm : born (vl D m) = b) (hmt : m ≤ root)
    (hi : i ≤ from_.length) (h1 : ∀ j (hj : j < from_.length), j < i → nc (Xn D at_ from_[j]) (Xn D at_ m) < 0) (h2 : ∀ hl : i < from_.length, ¬ nc (Xn D at_ from_[i]) (Xn D at_ m) < 0) (hx : Ext wo w4) (hEx : Ext w4 W)
    (hro5 : w4.ownsRow w.heap.size 80 2 (.slice (some ⟨g5, 0, none⟩) (from_.length + 1) c5) (from_.length + 1) xs5) (hnr5 : NodeRow w4 xs5 ((from_.take i ++ m :: from_.drop i).map (Xn D at_)) w.heap.size K) (hg5 : wo.heap.size ≤ g5)
    (hT : ∃ g cap, v3 = .slice (some ⟨g, 0, none⟩) (from_.length + 1) cap ∧ Ext w4 W ∧ w4.heap.size ≤ g ∧ W.ownsRow w.heap.size 3 1 v3 (from_.length + 1) ((toZ (from_.take i ++ m :: from_.drop i)).map (Value.int .i64))) (hK : ∀ b, K b → b < wo.heap.size) :
    ∃ m' from', m' ≤ root + 1 ∧ Value.int .i64 ((m : Int) + 1) = .int .i64 ((m' : Nat) : Int) ∧ LInv D root at_ b from' m' ∧ Ext wo W ∧ LMem w W K (.slice (some ⟨g5, 0, none⟩) (from_.length + 1) c5) v3 from' (Xn D at_) := by
  obtain ⟨g6, c6, rfl, _, hg6, hro6⟩ := hT
  have hl : (from_.take i ++ m :: from_.drop i).length = from_.length + 1 := by simp; omega
  have hz := hx.size
  refine ⟨m + 1, from_.take i ++ m :: from_.drop i, by omega, by simp, hL.put g hF hr hreach hbm hi h1 h2, ext_trans hx hEx, ⟨⟨xs5, ?_, hnr5.ext hEx⟩, ?_, fun b hb k => ?_, fun b hb k => ?_, ?_, ?_⟩⟩
  · rw [hl]; exact own_keep hro5 hEx
  · rw [hl]; exact hro6
  · simp [Value.ownBlock] at hb; subst hb; have := hK _ k; omega
  · simp [Value.ownBlock] at hb; subst hb; have := hK _ k; omega
  · rw [hl]; exact ⟨_, _, rfl⟩
  · rw [hl]; exact ⟨_, _, rfl⟩
theorem place_step {from_ at2 : List Nat} {i xd n N : Nat} (hn : from_.Nodup) (hlt : i < from_.length) (hx : from_[i] = xd) (hl : xd < at2.length) (hN : N = n + i) (h : ∀ j (h : j < from_.length), j < i → at2[from_[j]]? = some (n + j)) :
    Hid (∀ j (h : j < from_.length), j < i + 1 → (at2.set xd N)[from_[j]]? = some (n + j)) := by
  intro j hj hji
  by_cases e : j = i
  · subst e
    rw [hx, List.getElem?_set, if_pos rfl, if_pos hl, hN]
  · rw [List.getElem?_set, if_neg (fun e2 => e (nodup_inj hn hj hlt (by rw [hx, e2])))]
    exact h j hj (by omega)
theorem place_rest {from_ at_ at2 : List Nat} {i xd N : Nat} (hlt : i < from_.length) (hx : from_[i] = xd) (h : ∀ y, (∀ j (h : j < from_.length), j < i → from_[j] ≠ y) → at2[y]? = at_[y]?) :
    Hid (∀ y, (∀ j (h : j < from_.length), j < i + 1 → from_[j] ≠ y) → (at2.set xd N)[y]? = at_[y]?) := by
  intro y hy
  rw [List.getElem?_set, if_neg (fun e => hy i hlt (by omega) (by rw [hx, e]))]
  exact h y (fun j hj hji => hy j hj (by omega))
theorem own_weak {w : World} {B e size n : Nat} {v : Value} {xs : List Value} (h : w.ownsRow B e size v n xs) : w.ownsRow 0 e size v n xs := by
  obtain ⟨hl, h⟩ := h
  refine ⟨hl, ?_⟩
  rcases h with h | ⟨g, cap, cur, h1, hb, h2⟩
  · exact .inl h
  · exact .inr ⟨g, cap, cur, h1, Nat.zero_le _, h2⟩
theorem FMem.start {w w1 w2 : World} {root : Nat} (hx1 : Ext (w.alloc (.cells #[.slice none 0 0] 28)) w1) (ho2 : w2.ownsRow w.heap.size 3 1 (.slice (some ⟨w1.heap.size, 0, none⟩) (root + 1) (root + 1)) (root + 1) ((toZ (List.replicate (root + 1) 0)).map (Value.int .i64))) (hg2 : w1.grownBy w2 none) :
    FMem w ((w2.alloc (.cells #[] 80)).alloc (.cells #[.slice (some ⟨w2.heap.size, 0, none⟩) 0 0] 28)) (w2.heap.size + 1) w1.heap.size (.slice (some ⟨w2.heap.size, 0, none⟩) 0 0) root [] (List.replicate (root + 1) 0) := by
  have z1 := hx1.size
  rw [World.size_alloc] at z1
  have z2 := (ho2.lt w1.heap.size rfl).2
  have hx2 : Ext w1 w2 := ext_grown (Below.refl _ _) hg2 (by simp)
  have hx0 : Ext w w2 := ext_trans (ext_trans (by go_grown) hx1) hx2
  have hx3 : Ext w2 ((w2.alloc (.cells #[] 80)).alloc (.cells #[.slice (some ⟨w2.heap.size, 0, none⟩) 0 0] 28)) := by go_grown
  have r0 : (w.alloc (.cells #[.slice none 0 0] 28)).heap[w.heap.size]? = some (.cells #[.slice none 0 0] 28 (0, 0)) := heap_alloc_new _ _
  refine ⟨ext_trans hx0 hx3, ?_, own_keep ho2 hx3, ?_, ⟨[], ?_, NodeRow.nil _ _ _⟩, ?_, ?_, ?_, ?_, ?_, ?_, ?_⟩
  · rw [hx3.block _ (by omega), hx2.block _ (by omega), hx1.block _ (by rw [World.size_alloc]; omega)]; exact r0
  · have := heap_alloc_new (w2.alloc (.cells #[] 80)) (.cells #[.slice (some ⟨w2.heap.size, 0, none⟩) 0 0] 28); rw [World.size_alloc] at this; exact this
  · exact (World.ownsRow_made w2 #[] 0 (by omega) (by decide) (by simp)).alloc _
  · simp [Value.ownBlock]
  · simp [Value.ownBlock]; omega
  · simp [Value.ownBlock]; omega
  · omega
  · omega
  · omega
  · omega

set_option maxHeartbeats 20000000 in
set_option maxRecDepth 100000 in
theorem form_any (pb : Nat) (vn vb : Value) (D : Dag) (root : Nat) (w : World) (hB : BookAt w pb vn vb D) (hr : root < D.length) :
    Calls Tryz.prog 49 #[.pointer (some ⟨pb, 0, none⟩), .int .i64 root] w fun e w' => ∃ vN F, e = .returned (.agg #[vN]) ∧ Nodes w' w.heap.size vN F ∧ Cgt.IsForm F ∧ Cgt.Same (Cgt.topOf F) (vl D root) ∧ Ext w w' := by
  have hds := hB.small
  obtain ⟨i0, hi0, hz0, hz1, hz2⟩ := info_parts info_int
  obtain ⟨i1, hi1, hy0, hy1, hy2⟩ := info_parts info_node
  have hw : IntKind.i64.wrap ((root : Int) + 1) = (root : Int) + 1 := by rw [IntKind.wrap_i64]; omega
  go_enter Tryz.func49, Tryz.ntmps49
  go_wp2_with (go_at_call 68; refine (reached_any pb vn vb D root _ (hB.ext (by go_grown)) hr).mono ?_; rintro e w1 ⟨vneed, bs, rfl, hbits, hneed, hx1⟩; obtain ⟨w2, hmk, ho2, hg2⟩ := run_make_full (P := Tryz.prog) w1 w.heap.size 22 3 i0 (.int .i64 0) 1 Tryz.underlying22 hi0 hz0 hz1 .i64 .i64 (root + 1) (by rw [hz2]; omega) (by unfold maxLen; omega) (by have := hx1.size; rw [World.size_alloc] at this; omega); rw [show (((root + 1 : Nat)) : Int) = (root : Int) + 1 by omega] at hmk)
  have ho2 : w2.ownsRow w.heap.size 3 1 (.slice (some ⟨w1.heap.size, 0, none⟩) (root + 1) (root + 1)) (root + 1) ((toZ (List.replicate (root + 1) 0)).map (Value.int .i64)) := by
    rw [Nat.mul_one] at ho2; rw [toZ, List.map_replicate, List.map_replicate, ← toList_madeCells_one]; exact ho2
  have hM0 := FMem.start hx1 ho2 hg2
  obtain ⟨gneed, cneed, rfl, _, _, _⟩ := own_at hneed (by omega)
  have zn := hneed.lt gneed rfl
  have z1 := hx1.size
  have z2 := hg2.size
  have z1' : w.heap.size + 1 ≤ w1.heap.size := by rw [World.size_alloc] at z1; exact z1
  have zn' : w.heap.size + 1 ≤ gneed ∧ gneed < w1.heap.size := by rw [World.size_alloc] at zn; exact zn
  have hx2 : Ext w1 ((w2.alloc (.cells #[] 80)).alloc (.cells #[.slice (some ⟨w2.heap.size, 0, none⟩) 0 0] 28)) := ext_trans (ext_grown (Below.refl _ _) hg2 (by simp)) (by go_grown)
  have hneed0 := own_keep hneed hx2
  have hK0 : ¬ KF w (w2.heap.size + 1) w1.heap.size (.slice (some ⟨w2.heap.size, 0, none⟩) 0 0) gneed := by
    rintro (e | e | e | e)
    · omega
    · omega
    · omega
    · simp [Value.ownBlock] at e; omega
  obtain ⟨gb, cb, rfl, hbornX⟩ := hB.bornX (by omega)
  have HBX := Lib.hid hbornX
  have HB := Lib.hid hB
  have HBits := Lib.hid hbits
  obtain ⟨gn, cn, _, _, _, _, rfl, _⟩ := hB.nodeX hr
  have hst := FInv.start D root
  obtain ⟨Wb, hWb⟩ : ∃ W, W = w.alloc (.cells #[.slice none 0 0] 28) := ⟨_, rfl⟩
  have hneed0 : ((w2.alloc (.cells #[] 80)).alloc (.cells #[.slice (some ⟨w2.heap.size, 0, none⟩) 0 0] 28)).ownsRow 0 4 1 (.slice (some ⟨gneed, 0, none⟩) (root + 1) cneed) (root + 1) (bs.map Value.bool) := own_weak hneed0
  clear hWb Wb hx2 z1 z2 zn z1' zn' hneed ho2 hg2 hmk hx1 hbits hbornX hB
  generalize ((w2.alloc (.cells #[] 80)).alloc (.cells #[.slice (some ⟨w2.heap.size, 0, none⟩) 0 0] 28)) = W0 at *
  generalize Value.slice (some ⟨w2.heap.size, 0, none⟩) 0 0 = vN0 at *
  generalize w2.heap.size + 1 = o at *
  generalize w1.heap.size = gat at *
  obtain ⟨at0, hat0⟩ : ∃ a, a = List.replicate (root + 1) 0 := ⟨_, rfl⟩
  rw [← hat0] at hst hM0
  clear hat0
  have hBl := Cgt.born_vl_le HB.out.good.wf root
  have hnX := fun (i : Nat) (hi : i < D.length) => HB.out.nodeX hi
  have HNX := Lib.hid hnX
  clear hnX
  go_loopw [8] (fun bb wr => ∃ b vN F idx at_, bb = .int .i64 ((b : Nat) : Int) ∧ b ≤ born (vl D root) + 1 ∧ FInv D root F idx at_ b ∧ FMem w wr o gat vN root F at_ ∧ wr.ownsRow 0 4 1 (.slice (some ⟨gneed, 0, none⟩) (root + 1) cneed) (root + 1) (bs.map Value.bool) ∧ ¬ KF w o gat vN gneed) (fun bb _ => born (vl D root) + 1 - (intOf bb).toNat)
  case atStart => exact ⟨0, vN0, [], [], at0, rfl, Nat.zero_le _, hst, hM0, hneed0, hK0⟩
  case round =>
    clear hst hM0 hneed0 hK0
    obtain ⟨b, vN, F, idx, at_, rfl, hb, hF, hM, hneed, hK⟩ := hrel
    obtain ⟨wo, rfl⟩ : ∃ wo : World, wo = wr := ⟨_, rfl⟩
    have hE := hM.ext
    obtain ⟨cb1, cb2⟩ := HBX.out _ hE
    have cbr := cb2 root hr
    have hfz := frozen_of_row wo w.heap.size 0 _ _ hM.res
    by_cases hbt : b ≤ born (vl D root)
    · have HM := Lib.hid hM
      have HF := Lib.hid hF
      have HN := Lib.hid hneed
      have HK := Lib.hid hK
      clear hM hF hneed hK cb2
      go_wp2
      go_loopw [9, 10, 11, 12, 13] (fun lv fv kk _ _ w2 => ∃ m from_, m ≤ root + 1 ∧ kk = .int .i64 ((m : Nat) : Int) ∧ LInv D root at_ b from_ m ∧ Ext wo w2 ∧ LMem w w2 (KF w o gat vN) lv fv from_ (Xn D at_)) (fun _ _ kk _ _ _ => root + 1 - (intOf kk).toNat)
      case atStart =>
        have hkl := HM.out.klt
        refine ⟨0, [], Nat.zero_le _, rfl, LInv.start _ _ _ _, by go_grown, ⟨⟨[], ?_, NodeRow.nil _ _ _⟩, ?_, fun b hb k => ?_, fun b hb k => ?_, ⟨_, _, rfl⟩, ⟨_, _, rfl⟩⟩⟩
        · exact (World.ownsRow_made wo #[] 0 hE.size (by decide) (by simp)).alloc _
        · exact own_empty2 wo _ _ hE.size _
        · simp [Value.ownBlock] at hb; subst hb; have := hkl _ k; omega
        · simp [Value.ownBlock] at hb; subst hb; have := hkl _ k; omega
      case round =>
        obtain ⟨m, from_, hm, rfl, hL, hx, hLM⟩ := hrel
        obtain ⟨wm, rfl⟩ : ∃ wm : World, wm = wr := ⟨_, rfl⟩
        by_cases hmt : m ≤ root
        · have hmr : m < root + 1 := by omega
          have hmD : m < D.length := by omega
          have hEm := ext_trans hE hx
          obtain ⟨bv, hbv⟩ : ∃ b, bs[m]? = some b := ⟨_, List.getElem?_eq_getElem (by rw [HBits.out.len]; omega)⟩
          have hcbit := bit_cell (own_keep HN.out hx) hmr hbv
          have hcborn := (HBX.out _ hEm).2 m hmD
          have hcb1 := (HBX.out _ hEm).1
          have HL := Lib.hid hL
          have HX := Lib.hid hx
          have HLM := Lib.hid hLM
          clear hL hx hLM
          cases bv with
          | false =>
            go_wp2
            go_roundw
            case rel => exact ⟨m + 1, from_, by omega, by go_num, HL.out.skip (fun h => by have := (HBits.out.all m).2 h.1; rw [hbv] at this; cases this), HX.out, HLM.out⟩
            case measure => simp [intOf]; omega
          | true =>
            by_cases hbm : born (vl D m) = b
            ·
              have hreach : Hid (Cgt.Reach D root m) := (HBits.out.all m).1 hbv
              rw [hbm] at hcborn
              clear hbv
              obtain ⟨g', c', aL, cL, aR, cR, he, hN⟩ := HNX.out m hmD
              simp only [Value.slice.injEq, Option.some.injEq, Addr.mk.injEq, and_true, true_and] at he
              obtain ⟨rfl, rfl⟩ := he
              have HS := Lib.hid hN
              obtain ⟨p0, p1, p2, p3, p4⟩ := hN _ hEm
              have hHeld0 : wm.cell? ⟨pb, 0, none⟩ = some (.slice (some ⟨gn, 0, none⟩) D.length cn) ∧ wm.cell? ⟨gn, m * 2, none⟩ = some (.slice aL (D[m]).1.length cL) ∧ wm.cell? ⟨gn, m * 2 + 1, none⟩ = some (.slice aR (D[m]).2.length cR) := ⟨p0, p1, p2⟩
              clear hN
              go_wp2_with fail
              go_cut [12] (fun x wc => ∃ p aB n cB aD k cD, x = .pointer (some ⟨p, 0, none⟩) ∧ Ext wm wc ∧ wm.heap.size ≤ p ∧ PAt wc p (.slice aB n cB) (.slice aD k cD) ∧ Ints wc (.slice aB n cB) (toZ (Xn D at_ m).1) ∧ Ints wc (.slice aD k cD) (toZ (Xn D at_ m).2) ∧ (∀ b, Value.ownBlock (.slice aB n cB) = some b → wm.heap.size ≤ b ∧ b < wc.heap.size) ∧ (∀ b, Value.ownBlock (.slice aD k cD) = some b → wm.heap.size ≤ b ∧ b < wc.heap.size))
              case first =>
                refine wp_region_T (fun w' => w'.cell? ⟨pb, 0, none⟩ = some (.slice (some ⟨gn, 0, none⟩) D.length cn) ∧ w'.cell? ⟨gn, m * 2, none⟩ = some (.slice aL (D[m]).1.length cL) ∧ w'.cell? ⟨gn, m * 2 + 1, none⟩ = some (.slice aR (D[m]).2.length cR)) [24] (by kernel_rfl) hHeld0 (fun hHeld => ?_)
                ((refine tkT (i := 0) (v := ?v1) (by simp only [gE]; rfl) hHeld (Or.inl ⟨by rfl, ?hy1⟩) ?r1; case hy1 => (intro w' hSw; (try dsimp only at hSw); go_simp; (try with_reducible rfl))); (try simp only [Act.put, nE]); (refine tkT (i := 1) (v := ?v2) (by simp only [gE]; rfl) hHeld (Or.inl ⟨by rfl, ?hy2⟩) ?r2; case hy2 => (intro w' hSw; (try dsimp only at hSw); go_simp; (try with_reducible rfl))); (try simp only [Act.put, nE]); (refine tkT (i := 2) (v := ?v3) (by simp only [gE]; rfl) hHeld (Or.inl ⟨by rfl, ?hy3⟩) ?r3; case hy3 => (intro w' hSw; (try dsimp only at hSw); go_simp; (try with_reducible rfl))); (try simp only [Act.put, nE]); (refine tkT (i := 3) (v := ?v4) (by simp only [gE]; rfl) hHeld (Or.inl ⟨by rfl, ?hy4⟩) ?r4; case hy4 => (intro w' hSw; (try dsimp only at hSw); go_simp; (try with_reducible rfl))); (try simp only [Act.put, nE]); (refine tkT (i := 4) (v := ?v5) (by simp only [gE]; rfl) hHeld (Or.inl ⟨by rfl, ?hy5⟩) ?r5; case hy5 => (intro w' hSw; (try dsimp only at hSw); go_simp; (try with_reducible rfl))); (try simp only [Act.put, nE]); (refine tkT (i := 5) (v := ?v6) (by simp only [gE]; rfl) hHeld (Or.inl ⟨by rfl, ?hy6⟩) ?r6; case hy6 => (intro w' hSw; (try dsimp only at hSw); go_simp; (try with_reducible rfl))); (try simp only [Act.put, nE]); (refine tkT (i := 6) (v := ?v7) (by simp only [gE]; rfl) hHeld (Or.inl ⟨by rfl, ?hy7⟩) ?r7; case hy7 => (intro w' hSw; (try dsimp only at hSw); go_simp; (try with_reducible rfl))); (try simp only [Act.put, nE]); (refine tkT (i := 7) (v := ?v8) (by simp only [gE]; rfl) hHeld (Or.inl ⟨by rfl, ?hy8⟩) ?r8; case hy8 => (intro w' hSw; (try dsimp only at hSw); go_simp; (try with_reducible rfl))); (try simp only [Act.put, nE]); (refine tkT (i := 8) (v := ?v9) (by simp only [gE]; rfl) hHeld (Or.inl ⟨by rfl, ?hy9⟩) ?r9; case hy9 => (intro w' hSw; (try dsimp only at hSw); go_simp; (try with_reducible rfl))); (try simp only [Act.put, nE]); (refine tkT (i := 11) (v := ?v10) (by simp only [gE]; rfl) hHeld (Or.inl ⟨by rfl, ?hy10⟩) ?r10; case hy10 => (intro w' hSw; (try dsimp only at hSw); go_simp; (try with_reducible rfl))); (try simp only [Act.put, nE]); (refine tkT (i := 12) (v := ?v11) (by simp only [gE]; rfl) hHeld (Or.inl ⟨by rfl, ?hy11⟩) ?r11; case hy11 => (intro w' hSw; (try dsimp only at hSw); go_simp; (try with_reducible rfl))); (try simp only [Act.put, nE]); (refine tkT (i := 13) (v := ?v12) (by simp only [gE]; rfl) hHeld (Or.inl ⟨by rfl, ?hy12⟩) ?r12; case hy12 => (intro w' hSw; (try dsimp only at hSw); go_simp; (try with_reducible rfl))); (try simp only [Act.put, nE]); (refine tkT (i := 14) (v := ?v13) (by simp only [gE]; rfl) hHeld (Or.inl ⟨by rfl, ?hy13⟩) ?r13; case hy13 => (intro w' hSw; (try dsimp only at hSw); go_simp; (try with_reducible rfl))); (try simp only [Act.put, nE]); (refine tkT (i := 15) (v := ?v14) (by simp only [gE]; rfl) hHeld (Or.inl ⟨by rfl, ?hy14⟩) ?r14; case hy14 => (intro w' hSw; (try dsimp only at hSw); go_simp; (try with_reducible rfl))); (try simp only [Act.put, nE]); (refine tkT (i := 16) (v := ?v15) (by simp only [gE]; rfl) hHeld (Or.inl ⟨by rfl, ?hy15⟩) ?r15; case hy15 => (intro w' hSw; (try dsimp only at hSw); go_simp; (try with_reducible rfl))); (try simp only [Act.put, nE]); (refine tkT (i := 17) (v := ?v16) (by simp only [gE]; rfl) hHeld (Or.inl ⟨by rfl, ?hy16⟩) ?r16; case hy16 => (intro w' hSw; (try dsimp only at hSw); go_simp; (try with_reducible rfl))); (try simp only [Act.put, nE]); (refine tkT (i := 18) (v := ?v17) (by simp only [gE]; rfl) hHeld (Or.inl ⟨by rfl, ?hy17⟩) ?r17; case hy17 => (intro w' hSw; (try dsimp only at hSw); go_simp; (try with_reducible rfl))); (try simp only [Act.put, nE]); (refine tkT (i := 19) (v := ?v18) (by simp only [gE]; rfl) hHeld (Or.inl ⟨by rfl, ?hy18⟩) ?r18; case hy18 => (intro w' hSw; (try dsimp only at hSw); go_simp; (try with_reducible rfl))); (try simp only [Act.put, nE]))
                have hSx : ∀ W, Ext wm W → W.cell? ⟨pb, 0, none⟩ = some (.slice (some ⟨gn, 0, none⟩) D.length cn) ∧ W.cell? ⟨gn, m * 2, none⟩ = some (.slice aL (D[m]).1.length cL) ∧ W.cell? ⟨gn, m * 2 + 1, none⟩ = some (.slice aR (D[m]).2.length cR) := fun W h => by obtain ⟨q0, q1, q2, -, -⟩ := HS.out W (ext_trans hEm h); exact ⟨q0, q1, q2⟩
                have hLs : ∀ W, Ext wm W → Ints W (.slice aL (D[m]).1.length cL) (toZ (D[m]).1) := fun W h => (HS.out W (ext_trans hEm h)).2.2.2.1
                have hRs : ∀ W, Ext wm W → Ints W (.slice aR (D[m]).2.length cR) (toZ (D[m]).2) := fun W h => (HS.out W (ext_trans hEm h)).2.2.2.2
                have hatl := HF.out.atl
                have hAt : ∀ W, Ext wm W → Ints W (.slice (some ⟨gat, 0, none⟩) (root + 1) (root + 1)) (toZ at_) := fun W h => (Ints.of_own (l := toZ at_) HM.out.atr (by rw [toZ_len]; omega)).ext (ext_trans HX.out h)
                have hgl := good_lens HB.out.good hmD
                have len1 : (toZ (D[m]).1).length ≤ 1000000000 := by rw [toZ_len]; omega
                have len2 : (toZ (D[m]).2).length ≤ 1000000000 := by rw [toZ_len]; omega
                have hwm := HB.out.good.wf m _ (List.getElem?_eq_getElem hmD)
                have bnd1 : ∀ x, x ∈ toZ (D[m]).1 → 0 ≤ x ∧ x < (toZ at_).length := fun x hx => by obtain ⟨n, hn, rfl⟩ := toZ_mem hx; have := hwm.1 n hn; rw [toZ_len, hatl]; omega
                have bnd2 : ∀ x, x ∈ toZ (D[m]).2 → 0 ≤ x ∧ x < (toZ at_).length := fun x hx => by obtain ⟨n, hn, rfl⟩ := toZ_mem hx; have := hwm.2 n hn; rw [toZ_len, hatl]; omega
                obtain ⟨xl1, xl2⟩ := xn_list (at_ := at_) hmD
                have hEx : Ext wm wm.drew := ⟨rfl, rfl, rfl, Nat.le_refl _, fun _ _ => rfl⟩
                obtain ⟨W, hW⟩ : ∃ W, W = wm.drew := ⟨_, rfl⟩
                rw [← hW] at hEx hHeld ⊢
                clear hW
                refine wpAnyT_two (i := 9) (j := 23) (by kernel_rfl) ?_ ?_
                · (refine StepT.run (i := 9) (o := _) (by simp only [gE]; rfl) (fun K hK => ?_); go_simp)
                  refine (l3At_any _ _ (toZ at_) (toZ (D[m]).1) _ (hAt _ hEx) (hLs _ hEx) bnd1 len1).mono ?_
                  rintro e W ⟨vA, rfl, hIAn, hxN⟩
                  (try replace hIA := hIA.ext hxN)
                  (try replace hIB := hIB.ext hxN)
                  (try replace hIC := hIC.ext hxN)
                  (try replace hID := hID.ext hxN)
                  (try replace hP := hP.ext hxN)
                  (try replace hfB := fun b hb => And.intro (hfB b hb).1 (Nat.lt_of_lt_of_le (hfB b hb).2 hxN.size))
                  (try replace hfD := fun b hb => And.intro (hfD b hb).1 (Nat.lt_of_lt_of_le (hfD b hb).2 hxN.size))
                  replace hEx := ext_trans hEx hxN
                  have hHeld := hSx _ hEx
                  have hIA := hIAn
                  refine hK.out _ _ (fun _ => hHeld) ?_
                  clear hK K
                  (try simp only [Act.put, nE])
                  refine wpAnyT_two (i := 10) (j := 23) (by kernel_rfl) ?_ ?_
                  · (refine StepT.run (i := 10) (o := _) (by simp only [gE]; rfl) (fun K hK => ?_); go_simp)
                    refine (l3Sorted_any _ _ _ hIA (by rw [atZ_len]; exact len1)).mono ?_
                    rintro e W ⟨vB, rfl, hIBn, hxN, hfBn⟩
                    (try have hBp : ∀ b, vB.ownBlock = some b → b ≠ p := fun b hb e => by have h1 := blk_lt hP; have h2 := (hfBn b hb).1; omega)
                    have hfB : ∀ b, vB.ownBlock = some b → wm.heap.size ≤ b ∧ b < W.heap.size := fun b hb => ⟨Nat.le_trans hEx.size (hfBn b hb).1, (hfBn b hb).2⟩
                    clear hfBn
                    rw [xl1] at hIBn
                    obtain ⟨aB, cB, rfl, -⟩ := id hIBn
                    (try replace hIA := hIA.ext hxN)
                    (try replace hIB := hIB.ext hxN)
                    (try replace hIC := hIC.ext hxN)
                    (try replace hID := hID.ext hxN)
                    (try replace hP := hP.ext hxN)
                    (try replace hfB := fun b hb => And.intro (hfB b hb).1 (Nat.lt_of_lt_of_le (hfB b hb).2 hxN.size))
                    (try replace hfD := fun b hb => And.intro (hfD b hb).1 (Nat.lt_of_lt_of_le (hfD b hb).2 hxN.size))
                    replace hEx := ext_trans hEx hxN
                    have hHeld := hSx _ hEx
                    have hIB := hIBn
                    refine hK.out _ _ (fun _ => hHeld) ?_
                    clear hK K
                    (try simp only [Act.put, nE])
                    refine wpAnyT_two (i := 20) (j := 23) (by kernel_rfl) ?_ ?_
                    · (refine StepT.run (i := 20) (o := _) (by simp only [gE]; rfl) (fun K hK => ?_); go_simp)
                      refine (l3At_any _ _ (toZ at_) (toZ (D[m]).2) _ (hAt _ hEx) (hRs _ hEx) bnd2 len2).mono ?_
                      rintro e W ⟨vC, rfl, hICn, hxN⟩
                      (try replace hIA := hIA.ext hxN)
                      (try replace hIB := hIB.ext hxN)
                      (try replace hIC := hIC.ext hxN)
                      (try replace hID := hID.ext hxN)
                      (try replace hP := hP.ext hxN)
                      (try replace hfB := fun b hb => And.intro (hfB b hb).1 (Nat.lt_of_lt_of_le (hfB b hb).2 hxN.size))
                      (try replace hfD := fun b hb => And.intro (hfD b hb).1 (Nat.lt_of_lt_of_le (hfD b hb).2 hxN.size))
                      replace hEx := ext_trans hEx hxN
                      have hHeld := hSx _ hEx
                      have hIC := hICn
                      refine hK.out _ _ (fun _ => hHeld) ?_
                      clear hK K
                      (try simp only [Act.put, nE])
                      refine wpAnyT_two (i := 21) (j := 23) (by kernel_rfl) ?_ ?_
                      · (refine StepT.run (i := 21) (o := _) (by simp only [gE]; rfl) (fun K hK => ?_); go_simp)
                        refine (l3Sorted_any _ _ _ hIC (by rw [atZ_len]; exact len2)).mono ?_
                        rintro e W ⟨vD, rfl, hIDn, hxN, hfDn⟩
                        (try have hDp : ∀ b, vD.ownBlock = some b → b ≠ p := fun b hb e => by have h1 := blk_lt hP; have h2 := (hfDn b hb).1; omega)
                        have hfD : ∀ b, vD.ownBlock = some b → wm.heap.size ≤ b ∧ b < W.heap.size := fun b hb => ⟨Nat.le_trans hEx.size (hfDn b hb).1, (hfDn b hb).2⟩
                        clear hfDn
                        rw [xl2] at hIDn
                        obtain ⟨aD, cD, rfl, -⟩ := id hIDn
                        (try replace hIA := hIA.ext hxN)
                        (try replace hIB := hIB.ext hxN)
                        (try replace hIC := hIC.ext hxN)
                        (try replace hID := hID.ext hxN)
                        (try replace hP := hP.ext hxN)
                        (try replace hfB := fun b hb => And.intro (hfB b hb).1 (Nat.lt_of_lt_of_le (hfB b hb).2 hxN.size))
                        (try replace hfD := fun b hb => And.intro (hfD b hb).1 (Nat.lt_of_lt_of_le (hfD b hb).2 hxN.size))
                        replace hEx := ext_trans hEx hxN
                        have hHeld := hSx _ hEx
                        have hID := hIDn
                        refine hK.out _ _ (fun _ => hHeld) ?_
                        clear hK K
                        (try simp only [Act.put, nE])
                        ((refine tkT (i := 22) (v := ?v19) (by simp only [gE]; rfl) hHeld (Or.inl ⟨by rfl, ?hy19⟩) ?r19; case hy19 => (intro w' hSw; (try dsimp only at hSw); go_simp; (try with_reducible rfl))); (try simp only [Act.put, nE]))
                        (refine wpAnyT_step (i := 23) (o := _) (by kernel_rfl) (by simp only [gE]; rfl) (fun K hK => ?_); go_simp)
                        have hxN : Ext W (W.alloc (.cells #[.slice none 0 0, .slice none 0 0] 80)) := by go_grown
                        have hPn : PAt (W.alloc (.cells #[.slice none 0 0, .slice none 0 0] 80)) W.heap.size (.slice none 0 0) (.slice none 0 0) := heap_alloc_new _ _
                        have hpz : wm.heap.size ≤ W.heap.size := hEx.size
                        (try have hBp := fun b hb => Nat.ne_of_lt (hfB b hb).2)
                        (try have hDp := fun b hb => Nat.ne_of_lt (hfD b hb).2)
                        (try replace hIA := hIA.ext hxN)
                        (try replace hIB := hIB.ext hxN)
                        (try replace hIC := hIC.ext hxN)
                        (try replace hID := hID.ext hxN)
                        (try replace hP := hP.ext hxN)
                        (try replace hfB := fun b hb => And.intro (hfB b hb).1 (Nat.lt_of_lt_of_le (hfB b hb).2 hxN.size))
                        (try replace hfD := fun b hb => And.intro (hfD b hb).1 (Nat.lt_of_lt_of_le (hfD b hb).2 hxN.size))
                        replace hEx := ext_trans hEx hxN
                        have hHeld := hSx _ hEx
                        have hP := hPn
                        clear hPn
                        refine hK.out _ _ (fun _ => hHeld) ?_
                        clear hK K
                        (try simp only [Act.put, nE])
                        generalize W.alloc (.cells #[.slice none 0 0, .slice none 0 0] 80) = W1 at *
                        generalize W.heap.size = p at *
                        clear hxN
                        obtain ⟨W, rfl⟩ : ∃ W, W = W1 := ⟨_, rfl⟩
                        have q0 : W.cell? ⟨p, 0, none⟩ = some (.slice none 0 0) := cell_of_row W p 0 _ _ _ hP
                        have q1 : W.cell? ⟨p, 1, none⟩ = some (.slice none 0 0) := cell_of_row W p 1 _ _ _ hP
                        have q2 := frozen_of_row W p 0 _ _ hP
                        have q3 := frozen_of_row W p 1 _ _ hP
                        refine wpAnyT_tail [24] [?o20_24] _ _ _ _ (by simp) (by kernel_rfl) (by rfl) (by simp only [List.map_cons, List.map_nil, gE]; rfl) ?_
                        go_wp2_with fail
                        go_meet
                        case rel => exact ⟨p, aB, _, cB, aD, _, cD, rfl, (made_node hEx hpz hP hIB hID hfB hfD hBp hDp).1, hpz, (made_node hEx hpz hP hIB hID hfB hfD hBp hDp).2⟩
                      · (refine StepT.run (i := 23) (o := _) (by simp only [gE]; rfl) (fun K hK => ?_); go_simp)
                        have hxN : Ext W (W.alloc (.cells #[.slice none 0 0, .slice none 0 0] 80)) := by go_grown
                        have hPn : PAt (W.alloc (.cells #[.slice none 0 0, .slice none 0 0] 80)) W.heap.size (.slice none 0 0) (.slice none 0 0) := heap_alloc_new _ _
                        have hpz : wm.heap.size ≤ W.heap.size := hEx.size
                        (try have hBp := fun b hb => Nat.ne_of_lt (hfB b hb).2)
                        (try have hDp := fun b hb => Nat.ne_of_lt (hfD b hb).2)
                        (try replace hIA := hIA.ext hxN)
                        (try replace hIB := hIB.ext hxN)
                        (try replace hIC := hIC.ext hxN)
                        (try replace hID := hID.ext hxN)
                        (try replace hP := hP.ext hxN)
                        (try replace hfB := fun b hb => And.intro (hfB b hb).1 (Nat.lt_of_lt_of_le (hfB b hb).2 hxN.size))
                        (try replace hfD := fun b hb => And.intro (hfD b hb).1 (Nat.lt_of_lt_of_le (hfD b hb).2 hxN.size))
                        replace hEx := ext_trans hEx hxN
                        have hHeld := hSx _ hEx
                        have hP := hPn
                        clear hPn
                        refine hK.out _ _ (fun _ => hHeld) ?_
                        clear hK K
                        (try simp only [Act.put, nE])
                        generalize W.alloc (.cells #[.slice none 0 0, .slice none 0 0] 80) = W1 at *
                        generalize W.heap.size = p at *
                        clear hxN
                        obtain ⟨W, rfl⟩ : ∃ W, W = W1 := ⟨_, rfl⟩
                        (refine wpAnyT_step (i := 21) (o := _) (by kernel_rfl) (by simp only [gE]; rfl) (fun K hK => ?_); go_simp)
                        refine (l3Sorted_any _ _ _ hIC (by rw [atZ_len]; exact len2)).mono ?_
                        rintro e W ⟨vD, rfl, hIDn, hxN, hfDn⟩
                        (try have hDp : ∀ b, vD.ownBlock = some b → b ≠ p := fun b hb e => by have h1 := blk_lt hP; have h2 := (hfDn b hb).1; omega)
                        have hfD : ∀ b, vD.ownBlock = some b → wm.heap.size ≤ b ∧ b < W.heap.size := fun b hb => ⟨Nat.le_trans hEx.size (hfDn b hb).1, (hfDn b hb).2⟩
                        clear hfDn
                        rw [xl2] at hIDn
                        obtain ⟨aD, cD, rfl, -⟩ := id hIDn
                        (try replace hIA := hIA.ext hxN)
                        (try replace hIB := hIB.ext hxN)
                        (try replace hIC := hIC.ext hxN)
                        (try replace hID := hID.ext hxN)
                        (try replace hP := hP.ext hxN)
                        (try replace hfB := fun b hb => And.intro (hfB b hb).1 (Nat.lt_of_lt_of_le (hfB b hb).2 hxN.size))
                        (try replace hfD := fun b hb => And.intro (hfD b hb).1 (Nat.lt_of_lt_of_le (hfD b hb).2 hxN.size))
                        replace hEx := ext_trans hEx hxN
                        have hHeld := hSx _ hEx
                        have hID := hIDn
                        refine hK.out _ _ (fun _ => hHeld) ?_
                        clear hK K
                        (try simp only [Act.put, nE])
                        ((refine tkT (i := 22) (v := ?v21) (by simp only [gE]; rfl) hHeld (Or.inl ⟨by rfl, ?hy21⟩) ?r21; case hy21 => (intro w' hSw; (try dsimp only at hSw); go_simp; (try with_reducible rfl))); (try simp only [Act.put, nE]))
                        have q0 : W.cell? ⟨p, 0, none⟩ = some (.slice none 0 0) := cell_of_row W p 0 _ _ _ hP
                        have q1 : W.cell? ⟨p, 1, none⟩ = some (.slice none 0 0) := cell_of_row W p 1 _ _ _ hP
                        have q2 := frozen_of_row W p 0 _ _ hP
                        have q3 := frozen_of_row W p 1 _ _ hP
                        refine wpAnyT_tail [24] [?o22_24] _ _ _ _ (by simp) (by kernel_rfl) (by rfl) (by simp only [List.map_cons, List.map_nil, gE]; rfl) ?_
                        go_wp2_with fail
                        go_meet
                        case rel => exact ⟨p, aB, _, cB, aD, _, cD, rfl, (made_node hEx hpz hP hIB hID hfB hfD hBp hDp).1, hpz, (made_node hEx hpz hP hIB hID hfB hfD hBp hDp).2⟩
                    · (refine StepT.run (i := 23) (o := _) (by simp only [gE]; rfl) (fun K hK => ?_); go_simp)
                      have hxN : Ext W (W.alloc (.cells #[.slice none 0 0, .slice none 0 0] 80)) := by go_grown
                      have hPn : PAt (W.alloc (.cells #[.slice none 0 0, .slice none 0 0] 80)) W.heap.size (.slice none 0 0) (.slice none 0 0) := heap_alloc_new _ _
                      have hpz : wm.heap.size ≤ W.heap.size := hEx.size
                      (try have hBp := fun b hb => Nat.ne_of_lt (hfB b hb).2)
                      (try have hDp := fun b hb => Nat.ne_of_lt (hfD b hb).2)
                      (try replace hIA := hIA.ext hxN)
                      (try replace hIB := hIB.ext hxN)
                      (try replace hIC := hIC.ext hxN)
                      (try replace hID := hID.ext hxN)
                      (try replace hP := hP.ext hxN)
                      (try replace hfB := fun b hb => And.intro (hfB b hb).1 (Nat.lt_of_lt_of_le (hfB b hb).2 hxN.size))
                      (try replace hfD := fun b hb => And.intro (hfD b hb).1 (Nat.lt_of_lt_of_le (hfD b hb).2 hxN.size))
                      replace hEx := ext_trans hEx hxN
                      have hHeld := hSx _ hEx
                      have hP := hPn
                      clear hPn
                      refine hK.out _ _ (fun _ => hHeld) ?_
                      clear hK K
                      (try simp only [Act.put, nE])
                      generalize W.alloc (.cells #[.slice none 0 0, .slice none 0 0] 80) = W1 at *
                      generalize W.heap.size = p at *
                      clear hxN
                      obtain ⟨W, rfl⟩ : ∃ W, W = W1 := ⟨_, rfl⟩
                      (refine wpAnyT_step (i := 20) (o := _) (by kernel_rfl) (by simp only [gE]; rfl) (fun K hK => ?_); go_simp)
                      refine (l3At_any _ _ (toZ at_) (toZ (D[m]).2) _ (hAt _ hEx) (hRs _ hEx) bnd2 len2).mono ?_
                      rintro e W ⟨vC, rfl, hICn, hxN⟩
                      (try replace hIA := hIA.ext hxN)
                      (try replace hIB := hIB.ext hxN)
                      (try replace hIC := hIC.ext hxN)
                      (try replace hID := hID.ext hxN)
                      (try replace hP := hP.ext hxN)
                      (try replace hfB := fun b hb => And.intro (hfB b hb).1 (Nat.lt_of_lt_of_le (hfB b hb).2 hxN.size))
                      (try replace hfD := fun b hb => And.intro (hfD b hb).1 (Nat.lt_of_lt_of_le (hfD b hb).2 hxN.size))
                      replace hEx := ext_trans hEx hxN
                      have hHeld := hSx _ hEx
                      have hIC := hICn
                      refine hK.out _ _ (fun _ => hHeld) ?_
                      clear hK K
                      (try simp only [Act.put, nE])
                      (refine wpAnyT_step (i := 21) (o := _) (by kernel_rfl) (by simp only [gE]; rfl) (fun K hK => ?_); go_simp)
                      refine (l3Sorted_any _ _ _ hIC (by rw [atZ_len]; exact len2)).mono ?_
                      rintro e W ⟨vD, rfl, hIDn, hxN, hfDn⟩
                      (try have hDp : ∀ b, vD.ownBlock = some b → b ≠ p := fun b hb e => by have h1 := blk_lt hP; have h2 := (hfDn b hb).1; omega)
                      have hfD : ∀ b, vD.ownBlock = some b → wm.heap.size ≤ b ∧ b < W.heap.size := fun b hb => ⟨Nat.le_trans hEx.size (hfDn b hb).1, (hfDn b hb).2⟩
                      clear hfDn
                      rw [xl2] at hIDn
                      obtain ⟨aD, cD, rfl, -⟩ := id hIDn
                      (try replace hIA := hIA.ext hxN)
                      (try replace hIB := hIB.ext hxN)
                      (try replace hIC := hIC.ext hxN)
                      (try replace hID := hID.ext hxN)
                      (try replace hP := hP.ext hxN)
                      (try replace hfB := fun b hb => And.intro (hfB b hb).1 (Nat.lt_of_lt_of_le (hfB b hb).2 hxN.size))
                      (try replace hfD := fun b hb => And.intro (hfD b hb).1 (Nat.lt_of_lt_of_le (hfD b hb).2 hxN.size))
                      replace hEx := ext_trans hEx hxN
                      have hHeld := hSx _ hEx
                      have hID := hIDn
                      refine hK.out _ _ (fun _ => hHeld) ?_
                      clear hK K
                      (try simp only [Act.put, nE])
                      ((refine tkT (i := 22) (v := ?v23) (by simp only [gE]; rfl) hHeld (Or.inl ⟨by rfl, ?hy23⟩) ?r23; case hy23 => (intro w' hSw; (try dsimp only at hSw); go_simp; (try with_reducible rfl))); (try simp only [Act.put, nE]))
                      have q0 : W.cell? ⟨p, 0, none⟩ = some (.slice none 0 0) := cell_of_row W p 0 _ _ _ hP
                      have q1 : W.cell? ⟨p, 1, none⟩ = some (.slice none 0 0) := cell_of_row W p 1 _ _ _ hP
                      have q2 := frozen_of_row W p 0 _ _ hP
                      have q3 := frozen_of_row W p 1 _ _ hP
                      refine wpAnyT_tail [24] [?o24_24] _ _ _ _ (by simp) (by kernel_rfl) (by rfl) (by simp only [List.map_cons, List.map_nil, gE]; rfl) ?_
                      go_wp2_with fail
                      go_meet
                      case rel => exact ⟨p, aB, _, cB, aD, _, cD, rfl, (made_node hEx hpz hP hIB hID hfB hfD hBp hDp).1, hpz, (made_node hEx hpz hP hIB hID hfB hfD hBp hDp).2⟩
                  · (refine StepT.run (i := 23) (o := _) (by simp only [gE]; rfl) (fun K hK => ?_); go_simp)
                    have hxN : Ext W (W.alloc (.cells #[.slice none 0 0, .slice none 0 0] 80)) := by go_grown
                    have hPn : PAt (W.alloc (.cells #[.slice none 0 0, .slice none 0 0] 80)) W.heap.size (.slice none 0 0) (.slice none 0 0) := heap_alloc_new _ _
                    have hpz : wm.heap.size ≤ W.heap.size := hEx.size
                    (try have hBp := fun b hb => Nat.ne_of_lt (hfB b hb).2)
                    (try have hDp := fun b hb => Nat.ne_of_lt (hfD b hb).2)
                    (try replace hIA := hIA.ext hxN)
                    (try replace hIB := hIB.ext hxN)
                    (try replace hIC := hIC.ext hxN)
                    (try replace hID := hID.ext hxN)
                    (try replace hP := hP.ext hxN)
                    (try replace hfB := fun b hb => And.intro (hfB b hb).1 (Nat.lt_of_lt_of_le (hfB b hb).2 hxN.size))
                    (try replace hfD := fun b hb => And.intro (hfD b hb).1 (Nat.lt_of_lt_of_le (hfD b hb).2 hxN.size))
                    replace hEx := ext_trans hEx hxN
                    have hHeld := hSx _ hEx
                    have hP := hPn
                    clear hPn
                    refine hK.out _ _ (fun _ => hHeld) ?_
                    clear hK K
                    (try simp only [Act.put, nE])
                    generalize W.alloc (.cells #[.slice none 0 0, .slice none 0 0] 80) = W1 at *
                    generalize W.heap.size = p at *
                    clear hxN
                    obtain ⟨W, rfl⟩ : ∃ W, W = W1 := ⟨_, rfl⟩
                    (refine wpAnyT_step (i := 10) (o := _) (by kernel_rfl) (by simp only [gE]; rfl) (fun K hK => ?_); go_simp)
                    refine (l3Sorted_any _ _ _ hIA (by rw [atZ_len]; exact len1)).mono ?_
                    rintro e W ⟨vB, rfl, hIBn, hxN, hfBn⟩
                    (try have hBp : ∀ b, vB.ownBlock = some b → b ≠ p := fun b hb e => by have h1 := blk_lt hP; have h2 := (hfBn b hb).1; omega)
                    have hfB : ∀ b, vB.ownBlock = some b → wm.heap.size ≤ b ∧ b < W.heap.size := fun b hb => ⟨Nat.le_trans hEx.size (hfBn b hb).1, (hfBn b hb).2⟩
                    clear hfBn
                    rw [xl1] at hIBn
                    obtain ⟨aB, cB, rfl, -⟩ := id hIBn
                    (try replace hIA := hIA.ext hxN)
                    (try replace hIB := hIB.ext hxN)
                    (try replace hIC := hIC.ext hxN)
                    (try replace hID := hID.ext hxN)
                    (try replace hP := hP.ext hxN)
                    (try replace hfB := fun b hb => And.intro (hfB b hb).1 (Nat.lt_of_lt_of_le (hfB b hb).2 hxN.size))
                    (try replace hfD := fun b hb => And.intro (hfD b hb).1 (Nat.lt_of_lt_of_le (hfD b hb).2 hxN.size))
                    replace hEx := ext_trans hEx hxN
                    have hHeld := hSx _ hEx
                    have hIB := hIBn
                    refine hK.out _ _ (fun _ => hHeld) ?_
                    clear hK K
                    (try simp only [Act.put, nE])
                    (refine wpAnyT_step (i := 20) (o := _) (by kernel_rfl) (by simp only [gE]; rfl) (fun K hK => ?_); go_simp)
                    refine (l3At_any _ _ (toZ at_) (toZ (D[m]).2) _ (hAt _ hEx) (hRs _ hEx) bnd2 len2).mono ?_
                    rintro e W ⟨vC, rfl, hICn, hxN⟩
                    (try replace hIA := hIA.ext hxN)
                    (try replace hIB := hIB.ext hxN)
                    (try replace hIC := hIC.ext hxN)
                    (try replace hID := hID.ext hxN)
                    (try replace hP := hP.ext hxN)
                    (try replace hfB := fun b hb => And.intro (hfB b hb).1 (Nat.lt_of_lt_of_le (hfB b hb).2 hxN.size))
                    (try replace hfD := fun b hb => And.intro (hfD b hb).1 (Nat.lt_of_lt_of_le (hfD b hb).2 hxN.size))
                    replace hEx := ext_trans hEx hxN
                    have hHeld := hSx _ hEx
                    have hIC := hICn
                    refine hK.out _ _ (fun _ => hHeld) ?_
                    clear hK K
                    (try simp only [Act.put, nE])
                    (refine wpAnyT_step (i := 21) (o := _) (by kernel_rfl) (by simp only [gE]; rfl) (fun K hK => ?_); go_simp)
                    refine (l3Sorted_any _ _ _ hIC (by rw [atZ_len]; exact len2)).mono ?_
                    rintro e W ⟨vD, rfl, hIDn, hxN, hfDn⟩
                    (try have hDp : ∀ b, vD.ownBlock = some b → b ≠ p := fun b hb e => by have h1 := blk_lt hP; have h2 := (hfDn b hb).1; omega)
                    have hfD : ∀ b, vD.ownBlock = some b → wm.heap.size ≤ b ∧ b < W.heap.size := fun b hb => ⟨Nat.le_trans hEx.size (hfDn b hb).1, (hfDn b hb).2⟩
                    clear hfDn
                    rw [xl2] at hIDn
                    obtain ⟨aD, cD, rfl, -⟩ := id hIDn
                    (try replace hIA := hIA.ext hxN)
                    (try replace hIB := hIB.ext hxN)
                    (try replace hIC := hIC.ext hxN)
                    (try replace hID := hID.ext hxN)
                    (try replace hP := hP.ext hxN)
                    (try replace hfB := fun b hb => And.intro (hfB b hb).1 (Nat.lt_of_lt_of_le (hfB b hb).2 hxN.size))
                    (try replace hfD := fun b hb => And.intro (hfD b hb).1 (Nat.lt_of_lt_of_le (hfD b hb).2 hxN.size))
                    replace hEx := ext_trans hEx hxN
                    have hHeld := hSx _ hEx
                    have hID := hIDn
                    refine hK.out _ _ (fun _ => hHeld) ?_
                    clear hK K
                    (try simp only [Act.put, nE])
                    ((refine tkT (i := 22) (v := ?v25) (by simp only [gE]; rfl) hHeld (Or.inl ⟨by rfl, ?hy25⟩) ?r25; case hy25 => (intro w' hSw; (try dsimp only at hSw); go_simp; (try with_reducible rfl))); (try simp only [Act.put, nE]))
                    have q0 : W.cell? ⟨p, 0, none⟩ = some (.slice none 0 0) := cell_of_row W p 0 _ _ _ hP
                    have q1 : W.cell? ⟨p, 1, none⟩ = some (.slice none 0 0) := cell_of_row W p 1 _ _ _ hP
                    have q2 := frozen_of_row W p 0 _ _ hP
                    have q3 := frozen_of_row W p 1 _ _ hP
                    refine wpAnyT_tail [24] [?o26_24] _ _ _ _ (by simp) (by kernel_rfl) (by rfl) (by simp only [List.map_cons, List.map_nil, gE]; rfl) ?_
                    go_wp2_with fail
                    go_meet
                    case rel => exact ⟨p, aB, _, cB, aD, _, cD, rfl, (made_node hEx hpz hP hIB hID hfB hfD hBp hDp).1, hpz, (made_node hEx hpz hP hIB hID hfB hfD hBp hDp).2⟩
                · (refine StepT.run (i := 23) (o := _) (by simp only [gE]; rfl) (fun K hK => ?_); go_simp)
                  have hxN : Ext W (W.alloc (.cells #[.slice none 0 0, .slice none 0 0] 80)) := by go_grown
                  have hPn : PAt (W.alloc (.cells #[.slice none 0 0, .slice none 0 0] 80)) W.heap.size (.slice none 0 0) (.slice none 0 0) := heap_alloc_new _ _
                  have hpz : wm.heap.size ≤ W.heap.size := hEx.size
                  (try have hBp := fun b hb => Nat.ne_of_lt (hfB b hb).2)
                  (try have hDp := fun b hb => Nat.ne_of_lt (hfD b hb).2)
                  (try replace hIA := hIA.ext hxN)
                  (try replace hIB := hIB.ext hxN)
                  (try replace hIC := hIC.ext hxN)
                  (try replace hID := hID.ext hxN)
                  (try replace hP := hP.ext hxN)
                  (try replace hfB := fun b hb => And.intro (hfB b hb).1 (Nat.lt_of_lt_of_le (hfB b hb).2 hxN.size))
                  (try replace hfD := fun b hb => And.intro (hfD b hb).1 (Nat.lt_of_lt_of_le (hfD b hb).2 hxN.size))
                  replace hEx := ext_trans hEx hxN
                  have hHeld := hSx _ hEx
                  have hP := hPn
                  clear hPn
                  refine hK.out _ _ (fun _ => hHeld) ?_
                  clear hK K
                  (try simp only [Act.put, nE])
                  generalize W.alloc (.cells #[.slice none 0 0, .slice none 0 0] 80) = W1 at *
                  generalize W.heap.size = p at *
                  clear hxN
                  obtain ⟨W, rfl⟩ : ∃ W, W = W1 := ⟨_, rfl⟩
                  (refine wpAnyT_step (i := 9) (o := _) (by kernel_rfl) (by simp only [gE]; rfl) (fun K hK => ?_); go_simp)
                  refine (l3At_any _ _ (toZ at_) (toZ (D[m]).1) _ (hAt _ hEx) (hLs _ hEx) bnd1 len1).mono ?_
                  rintro e W ⟨vA, rfl, hIAn, hxN⟩
                  (try replace hIA := hIA.ext hxN)
                  (try replace hIB := hIB.ext hxN)
                  (try replace hIC := hIC.ext hxN)
                  (try replace hID := hID.ext hxN)
                  (try replace hP := hP.ext hxN)
                  (try replace hfB := fun b hb => And.intro (hfB b hb).1 (Nat.lt_of_lt_of_le (hfB b hb).2 hxN.size))
                  (try replace hfD := fun b hb => And.intro (hfD b hb).1 (Nat.lt_of_lt_of_le (hfD b hb).2 hxN.size))
                  replace hEx := ext_trans hEx hxN
                  have hHeld := hSx _ hEx
                  have hIA := hIAn
                  refine hK.out _ _ (fun _ => hHeld) ?_
                  clear hK K
                  (try simp only [Act.put, nE])
                  (refine wpAnyT_step (i := 10) (o := _) (by kernel_rfl) (by simp only [gE]; rfl) (fun K hK => ?_); go_simp)
                  refine (l3Sorted_any _ _ _ hIA (by rw [atZ_len]; exact len1)).mono ?_
                  rintro e W ⟨vB, rfl, hIBn, hxN, hfBn⟩
                  (try have hBp : ∀ b, vB.ownBlock = some b → b ≠ p := fun b hb e => by have h1 := blk_lt hP; have h2 := (hfBn b hb).1; omega)
                  have hfB : ∀ b, vB.ownBlock = some b → wm.heap.size ≤ b ∧ b < W.heap.size := fun b hb => ⟨Nat.le_trans hEx.size (hfBn b hb).1, (hfBn b hb).2⟩
                  clear hfBn
                  rw [xl1] at hIBn
                  obtain ⟨aB, cB, rfl, -⟩ := id hIBn
                  (try replace hIA := hIA.ext hxN)
                  (try replace hIB := hIB.ext hxN)
                  (try replace hIC := hIC.ext hxN)
                  (try replace hID := hID.ext hxN)
                  (try replace hP := hP.ext hxN)
                  (try replace hfB := fun b hb => And.intro (hfB b hb).1 (Nat.lt_of_lt_of_le (hfB b hb).2 hxN.size))
                  (try replace hfD := fun b hb => And.intro (hfD b hb).1 (Nat.lt_of_lt_of_le (hfD b hb).2 hxN.size))
                  replace hEx := ext_trans hEx hxN
                  have hHeld := hSx _ hEx
                  have hIB := hIBn
                  refine hK.out _ _ (fun _ => hHeld) ?_
                  clear hK K
                  (try simp only [Act.put, nE])
                  (refine wpAnyT_step (i := 20) (o := _) (by kernel_rfl) (by simp only [gE]; rfl) (fun K hK => ?_); go_simp)
                  refine (l3At_any _ _ (toZ at_) (toZ (D[m]).2) _ (hAt _ hEx) (hRs _ hEx) bnd2 len2).mono ?_
                  rintro e W ⟨vC, rfl, hICn, hxN⟩
                  (try replace hIA := hIA.ext hxN)
                  (try replace hIB := hIB.ext hxN)
                  (try replace hIC := hIC.ext hxN)
                  (try replace hID := hID.ext hxN)
                  (try replace hP := hP.ext hxN)
                  (try replace hfB := fun b hb => And.intro (hfB b hb).1 (Nat.lt_of_lt_of_le (hfB b hb).2 hxN.size))
                  (try replace hfD := fun b hb => And.intro (hfD b hb).1 (Nat.lt_of_lt_of_le (hfD b hb).2 hxN.size))
                  replace hEx := ext_trans hEx hxN
                  have hHeld := hSx _ hEx
                  have hIC := hICn
                  refine hK.out _ _ (fun _ => hHeld) ?_
                  clear hK K
                  (try simp only [Act.put, nE])
                  (refine wpAnyT_step (i := 21) (o := _) (by kernel_rfl) (by simp only [gE]; rfl) (fun K hK => ?_); go_simp)
                  refine (l3Sorted_any _ _ _ hIC (by rw [atZ_len]; exact len2)).mono ?_
                  rintro e W ⟨vD, rfl, hIDn, hxN, hfDn⟩
                  (try have hDp : ∀ b, vD.ownBlock = some b → b ≠ p := fun b hb e => by have h1 := blk_lt hP; have h2 := (hfDn b hb).1; omega)
                  have hfD : ∀ b, vD.ownBlock = some b → wm.heap.size ≤ b ∧ b < W.heap.size := fun b hb => ⟨Nat.le_trans hEx.size (hfDn b hb).1, (hfDn b hb).2⟩
                  clear hfDn
                  rw [xl2] at hIDn
                  obtain ⟨aD, cD, rfl, -⟩ := id hIDn
                  (try replace hIA := hIA.ext hxN)
                  (try replace hIB := hIB.ext hxN)
                  (try replace hIC := hIC.ext hxN)
                  (try replace hID := hID.ext hxN)
                  (try replace hP := hP.ext hxN)
                  (try replace hfB := fun b hb => And.intro (hfB b hb).1 (Nat.lt_of_lt_of_le (hfB b hb).2 hxN.size))
                  (try replace hfD := fun b hb => And.intro (hfD b hb).1 (Nat.lt_of_lt_of_le (hfD b hb).2 hxN.size))
                  replace hEx := ext_trans hEx hxN
                  have hHeld := hSx _ hEx
                  have hID := hIDn
                  refine hK.out _ _ (fun _ => hHeld) ?_
                  clear hK K
                  (try simp only [Act.put, nE])
                  ((refine tkT (i := 22) (v := ?v27) (by simp only [gE]; rfl) hHeld (Or.inl ⟨by rfl, ?hy27⟩) ?r27; case hy27 => (intro w' hSw; (try dsimp only at hSw); go_simp; (try with_reducible rfl))); (try simp only [Act.put, nE]))
                  have q0 : W.cell? ⟨p, 0, none⟩ = some (.slice none 0 0) := cell_of_row W p 0 _ _ _ hP
                  have q1 : W.cell? ⟨p, 1, none⟩ = some (.slice none 0 0) := cell_of_row W p 1 _ _ _ hP
                  have q2 := frozen_of_row W p 0 _ _ hP
                  have q3 := frozen_of_row W p 1 _ _ hP
                  refine wpAnyT_tail [24] [?o28_24] _ _ _ _ (by simp) (by kernel_rfl) (by rfl) (by simp only [List.map_cons, List.map_nil, gE]; rfl) ?_
                  go_wp2_with fail
                  go_meet
                  case rel => exact ⟨p, aB, _, cB, aD, _, cD, rfl, (made_node hEx hpz hP hIB hID hfB hfD hBp hDp).1, hpz, (made_node hEx hpz hP hIB hID hfB hfD hBp hDp).2⟩
              case rest =>
                obtain ⟨p, aB, nB, cB, aD, nD, cD, rfl, hxc, hpz, hP, hIB, hID, hfB, hfD⟩ := hcut
                obtain ⟨gl, cl_, rfl⟩ := HLM.out.s1
                obtain ⟨gf, cf, rfl⟩ := HLM.out.s2
                have HP := Lib.hid hP
                have HIB := Lib.hid hIB
                have HID := Lib.hid hID
                have HfB := Lib.hid hfB
                have HfD := Lib.hid hfD
                have HXC := Lib.hid hxc
                have hp0 : wc.cell? ⟨p, 0, none⟩ = some (.slice aB nB cB) := cell_of_row wc p 0 _ _ _ hP
                have hp1 : wc.cell? ⟨p, 1, none⟩ = some (.slice aD nD cD) := cell_of_row wc p 1 _ _ _ hP
                have hll : from_.length ≤ root + 1 := nodup_len HL.out.nd (fun x hx => by have := ((HL.out.mem x).1 hx).1; omega)
                clear hP hIB hID hfB hfD hxc p0 p1 p2 p3 p4 hHeld0 hcbit hcborn hcb1
                go_upto_block 4 with fail
                go_cut [13] (fun ii w3 => ∃ i, i ≤ from_.length ∧ ii = .int .i64 ((i : Nat) : Int) ∧ Ext wc w3 ∧ (∀ j (h : j < from_.length), j < i → nc (Xn D at_ from_[j]) (Xn D at_ m) < 0) ∧ (∀ h : i < from_.length, ¬ nc (Xn D at_ from_[i]) (Xn D at_ m) < 0))
                case first =>
                  go_wp2_with fail
                  go_loopw [13] (fun ii w3 => ∃ i, i ≤ from_.length ∧ ii = .int .i64 ((i : Nat) : Int) ∧ Ext wc w3 ∧ Hid (∀ j (h : j < from_.length), j < i → nc (Xn D at_ from_[j]) (Xn D at_ m) < 0)) (fun ii _ => from_.length - (intOf ii).toNat)
                  case atStart => exact ⟨0, Nat.zero_le _, rfl, Below.refl _ _, fun j _ h => absurd h (by omega)⟩
                  case round =>
                    obtain ⟨i, hi, rfl, hx3, HNC⟩ := hrel
                    have hx30 := ext_trans HXC.out hx3
                    have hP3 := HP.out.ext hx3
                    have hp0 : wr.cell? ⟨p, 0, none⟩ = some (.slice aB nB cB) := cell_of_row wr p 0 _ _ _ hP3
                    have hp1 : wr.cell? ⟨p, 1, none⟩ = some (.slice aD nD cD) := cell_of_row wr p 1 _ _ _ hP3
                    clear hP3
                    by_cases hlt : i < from_.length
                    · obtain ⟨xs, hrow, hnr⟩ := HLM.out.rows
                      have hrow3 := own_keep hrow hx30
                      have hnr3 := hnr.ext hx30
                      obtain ⟨L, R, e1, e2, e3, e4, -, -⟩ := hnr3 i (by simpa using hlt)
                      rw [List.getElem_map] at e3 e4
                      obtain ⟨aX, cX, rfl, -⟩ := id e3
                      obtain ⟨aY, cY, rfl, -⟩ := id e4
                      have cx := (hrow3.cellAt (i * 2) (by omega)).trans e1
                      have cy := (hrow3.cellAt (i * 2 + 1) (by omega)).trans e2
                      have HE3 := Lib.hid e3
                      have HE4 := Lib.hid e4
                      have HX3 := Lib.hid hx3
                      clear hrow hnr hrow3 hnr3 e1 e2 e3 e4 hx30 hx3
                      by_cases hnc : nc (Xn D at_ from_[i]) (Xn D at_ m) < 0
                      · have hd : decide (nc (Xn D at_ from_[i]) (Xn D at_ m) < 0) = true := decide_eq_true hnc
                        have HNL := Lib.hid hnc
                        clear hnc
                        go_wp2_with fail
                        refine wp_region_T (fun w' => w'.cell? ⟨gl, i * 2, none⟩ = some (.slice aX (toZ (Xn D at_ from_[i]).1).length cX) ∧ w'.cell? ⟨gl, i * 2 + 1, none⟩ = some (.slice aY (toZ (Xn D at_ from_[i]).2).length cY) ∧ w'.cell? ⟨p, 0, none⟩ = some (.slice aB nB cB) ∧ w'.cell? ⟨p, 1, none⟩ = some (.slice aD nD cD)) [10, 11] (by kernel_rfl) ⟨cx, cy, hp0, hp1⟩ (fun hHeld => ?_)
                        ((refine tkT (i := 0) (v := ?v29) (by simp only [gE]; rfl) hHeld (Or.inl ⟨by rfl, ?hy29⟩) ?r29; case hy29 => (intro w' hSw; (try dsimp only at hSw); go_simp; (try with_reducible rfl))); (try simp only [Act.put, nE]); (refine tkT (i := 1) (v := ?v30) (by simp only [gE]; rfl) hHeld (Or.inl ⟨by rfl, ?hy30⟩) ?r30; case hy30 => (intro w' hSw; (try dsimp only at hSw); go_simp; (try with_reducible rfl))); (try simp only [Act.put, nE]); (refine tkT (i := 2) (v := ?v31) (by simp only [gE]; rfl) hHeld (Or.inl ⟨by rfl, ?hy31⟩) ?r31; case hy31 => (intro w' hSw; (try dsimp only at hSw); go_simp; (try with_reducible rfl))); (try simp only [Act.put, nE]); (refine tkT (i := 3) (v := ?v32) (by simp only [gE]; rfl) hHeld (Or.inl ⟨by rfl, ?hy32⟩) ?r32; case hy32 => (intro w' hSw; (try dsimp only at hSw); go_simp; (try with_reducible rfl))); (try simp only [Act.put, nE]); (refine tkT (i := 4) (v := ?v33) (by simp only [gE]; rfl) hHeld (Or.inl ⟨by rfl, ?hy33⟩) ?r33; case hy33 => (intro w' hSw; (try dsimp only at hSw); go_simp; (try with_reducible rfl))); (try simp only [Act.put, nE]); (refine tkT (i := 5) (v := ?v34) (by simp only [gE]; rfl) hHeld (Or.inl ⟨by rfl, ?hy34⟩) ?r34; case hy34 => (intro w' hSw; (try dsimp only at hSw); go_simp; (try with_reducible rfl))); (try simp only [Act.put, nE]); (refine tkT (i := 6) (v := ?v35) (by simp only [gE]; rfl) hHeld (Or.inl ⟨by rfl, ?hy35⟩) ?r35; case hy35 => (intro w' hSw; (try dsimp only at hSw); go_simp; (try with_reducible rfl))); (try simp only [Act.put, nE]); (refine tkT (i := 7) (v := ?v36) (by simp only [gE]; rfl) hHeld (Or.inl ⟨by rfl, ?hy36⟩) ?r36; case hy36 => (intro w' hSw; (try dsimp only at hSw); go_simp; (try with_reducible rfl))); (try simp only [Act.put, nE]); (refine tkT (i := 8) (v := ?v37) (by simp only [gE]; rfl) hHeld (Or.inl ⟨by rfl, ?hy37⟩) ?r37; case hy37 => (intro w' hSw; (try dsimp only at hSw); go_simp; (try with_reducible rfl))); (try simp only [Act.put, nE]); (refine tkT (i := 9) (v := ?v38) (by simp only [gE]; rfl) hHeld (Or.inl ⟨by rfl, ?hy38⟩) ?r38; case hy38 => (intro w' hSw; (try dsimp only at hSw); go_simp; (try with_reducible rfl))); (try simp only [Act.put, nE]))
                        refine wpAnyT_tail [10, 11] [?o39_10, ?o39_11] _ _ _ _ (by simp) (by kernel_rfl) (by rfl) (by simp only [List.map_cons, List.map_nil, gE]; rfl) ?_
                        go_wp2_with (go_at_call 70; refine (nodeAhead_any _ _ _ _ (Xn D at_ from_[i]) (Xn D at_ m) _ (HE3.out.ext (by go_grown)) (HE4.out.ext (by go_grown)) (HIB.out.ext (ext_trans HX3.out (by go_grown))) (HID.out.ext (ext_trans HX3.out (by go_grown)))).mono ?_; rintro e w4 ⟨rfl, hx4⟩; rw [hd])
                        go_roundw
                        case rel => exact ⟨i + 1, by omega, by go_num, ext_trans HX3.out (ext_trans (by go_grown) hx4), fun j hj hji => by
                          by_cases e : j = i
                          · subst e; exact HNL.out
                          · exact HNC.out j hj (by omega)⟩
                        case measure => simp [intOf]; omega
                      · have hd : decide (nc (Xn D at_ from_[i]) (Xn D at_ m) < 0) = false := decide_eq_false hnc
                        have HNL := Lib.hid hnc
                        clear hnc
                        go_wp2_with fail
                        refine wp_region_T (fun w' => w'.cell? ⟨gl, i * 2, none⟩ = some (.slice aX (toZ (Xn D at_ from_[i]).1).length cX) ∧ w'.cell? ⟨gl, i * 2 + 1, none⟩ = some (.slice aY (toZ (Xn D at_ from_[i]).2).length cY) ∧ w'.cell? ⟨p, 0, none⟩ = some (.slice aB nB cB) ∧ w'.cell? ⟨p, 1, none⟩ = some (.slice aD nD cD)) [10, 11] (by kernel_rfl) ⟨cx, cy, hp0, hp1⟩ (fun hHeld => ?_)
                        ((refine tkT (i := 0) (v := ?v40) (by simp only [gE]; rfl) hHeld (Or.inl ⟨by rfl, ?hy40⟩) ?r40; case hy40 => (intro w' hSw; (try dsimp only at hSw); go_simp; (try with_reducible rfl))); (try simp only [Act.put, nE]); (refine tkT (i := 1) (v := ?v41) (by simp only [gE]; rfl) hHeld (Or.inl ⟨by rfl, ?hy41⟩) ?r41; case hy41 => (intro w' hSw; (try dsimp only at hSw); go_simp; (try with_reducible rfl))); (try simp only [Act.put, nE]); (refine tkT (i := 2) (v := ?v42) (by simp only [gE]; rfl) hHeld (Or.inl ⟨by rfl, ?hy42⟩) ?r42; case hy42 => (intro w' hSw; (try dsimp only at hSw); go_simp; (try with_reducible rfl))); (try simp only [Act.put, nE]); (refine tkT (i := 3) (v := ?v43) (by simp only [gE]; rfl) hHeld (Or.inl ⟨by rfl, ?hy43⟩) ?r43; case hy43 => (intro w' hSw; (try dsimp only at hSw); go_simp; (try with_reducible rfl))); (try simp only [Act.put, nE]); (refine tkT (i := 4) (v := ?v44) (by simp only [gE]; rfl) hHeld (Or.inl ⟨by rfl, ?hy44⟩) ?r44; case hy44 => (intro w' hSw; (try dsimp only at hSw); go_simp; (try with_reducible rfl))); (try simp only [Act.put, nE]); (refine tkT (i := 5) (v := ?v45) (by simp only [gE]; rfl) hHeld (Or.inl ⟨by rfl, ?hy45⟩) ?r45; case hy45 => (intro w' hSw; (try dsimp only at hSw); go_simp; (try with_reducible rfl))); (try simp only [Act.put, nE]); (refine tkT (i := 6) (v := ?v46) (by simp only [gE]; rfl) hHeld (Or.inl ⟨by rfl, ?hy46⟩) ?r46; case hy46 => (intro w' hSw; (try dsimp only at hSw); go_simp; (try with_reducible rfl))); (try simp only [Act.put, nE]); (refine tkT (i := 7) (v := ?v47) (by simp only [gE]; rfl) hHeld (Or.inl ⟨by rfl, ?hy47⟩) ?r47; case hy47 => (intro w' hSw; (try dsimp only at hSw); go_simp; (try with_reducible rfl))); (try simp only [Act.put, nE]); (refine tkT (i := 8) (v := ?v48) (by simp only [gE]; rfl) hHeld (Or.inl ⟨by rfl, ?hy48⟩) ?r48; case hy48 => (intro w' hSw; (try dsimp only at hSw); go_simp; (try with_reducible rfl))); (try simp only [Act.put, nE]); (refine tkT (i := 9) (v := ?v49) (by simp only [gE]; rfl) hHeld (Or.inl ⟨by rfl, ?hy49⟩) ?r49; case hy49 => (intro w' hSw; (try dsimp only at hSw); go_simp; (try with_reducible rfl))); (try simp only [Act.put, nE]))
                        refine wpAnyT_tail [10, 11] [?o50_10, ?o50_11] _ _ _ _ (by simp) (by kernel_rfl) (by rfl) (by simp only [List.map_cons, List.map_nil, gE]; rfl) ?_
                        go_wp2_with (go_at_call 70; refine (nodeAhead_any _ _ _ _ (Xn D at_ from_[i]) (Xn D at_ m) _ (HE3.out.ext (by go_grown)) (HE4.out.ext (by go_grown)) (HIB.out.ext (ext_trans HX3.out (by go_grown))) (HID.out.ext (ext_trans HX3.out (by go_grown)))).mono ?_; rintro e w4 ⟨rfl, hx4⟩; rw [hd])
                        go_meet
                        case rel => exact ⟨i, by omega, rfl, ext_trans HX3.out (ext_trans (by go_grown) hx4), HNC.out, fun _ => by have := HNL.out; omega⟩
                    · have hie : i = from_.length := by omega
                      have hlt' : ¬ ((i : Int) < (from_.length : Int)) := by omega
                      go_wp2_with fail
                      refine wp_region_T (fun w' => w'.cell? ⟨p, 0, none⟩ = some (.slice aB nB cB)) [11] (by kernel_rfl) hp0 (fun hHeld => ?_)
                      ((refine tkT (i := 0) (v := ?v51) (by simp only [gE]; rfl) hHeld (Or.inl ⟨by rfl, ?hy51⟩) ?r51; case hy51 => (intro w' hSw; (try dsimp only at hSw); go_simp; (try with_reducible rfl))); (try simp only [Act.put, nE]); (refine tkT (i := 1) (v := ?v52) (by simp only [gE]; rfl) hHeld (Or.inl ⟨by rfl, ?hy52⟩) ?r52; case hy52 => (intro w' hSw; (try dsimp only at hSw); go_simp; (try with_reducible rfl))); (try simp only [Act.put, nE]); (refine tkT (i := 2) (v := ?v53) (by simp only [gE]; rfl) hHeld (Or.inl ⟨by rfl, ?hy53⟩) ?r53; case hy53 => (intro w' hSw; (try dsimp only at hSw); go_simp; (try with_reducible rfl))); (try simp only [Act.put, nE]); (refine tkT (i := 3) (v := ?v54) (by simp only [gE]; rfl) hHeld (Or.inl ⟨by rfl, ?hy54⟩) ?r54; case hy54 => (intro w' hSw; (try dsimp only at hSw); go_simp; (try with_reducible rfl))); (try simp only [Act.put, nE]); (refine tkT (i := 4) (v := ?v55) (by simp only [gE]; rfl) hHeld (Or.inl ⟨by rfl, ?hy55⟩) ?r55; case hy55 => (intro w' hSw; (try dsimp only at hSw); go_simp; (try with_reducible rfl))); (try simp only [Act.put, nE]))
                      ((refine wpAnyT_take (i := 5) (oi := _) (v := undef) (by simp only [gE]; rfl) (by kernel_rfl) (by kernel_rfl) (by kernel_rfl) (by kernel_rfl) (by exact fun _ _ _ h => h) hHeld (Or.inr ⟨by rfl, rfl⟩) ?r56); (try simp only [Act.put, nE]); (refine wpAnyT_take (i := 6) (oi := _) (v := undef) (by simp only [gE]; rfl) (by kernel_rfl) (by kernel_rfl) (by kernel_rfl) (by kernel_rfl) (by exact fun _ _ _ h => h) hHeld (Or.inr ⟨by rfl, rfl⟩) ?r57); (try simp only [Act.put, nE]); (refine wpAnyT_take (i := 7) (oi := _) (v := undef) (by simp only [gE]; rfl) (by kernel_rfl) (by kernel_rfl) (by kernel_rfl) (by kernel_rfl) (by exact fun _ _ _ h => h) hHeld (Or.inr ⟨by rfl, rfl⟩) ?r58); (try simp only [Act.put, nE]); (refine wpAnyT_take (i := 8) (oi := _) (v := undef) (by simp only [gE]; rfl) (by kernel_rfl) (by kernel_rfl) (by kernel_rfl) (by kernel_rfl) (by exact fun _ _ _ h => h) hHeld (Or.inr ⟨by rfl, rfl⟩) ?r59); (try simp only [Act.put, nE]); (refine wpAnyT_take (i := 9) (oi := _) (v := undef) (by simp only [gE]; rfl) (by kernel_rfl) (by kernel_rfl) (by kernel_rfl) (by kernel_rfl) (by exact fun _ _ _ h => h) hHeld (Or.inr ⟨by rfl, rfl⟩) ?r60); (try simp only [Act.put, nE]); (refine wpAnyT_take (i := 10) (oi := _) (v := undef) (by simp only [gE]; rfl) (by kernel_rfl) (by kernel_rfl) (by kernel_rfl) (by kernel_rfl) (by exact fun _ _ _ h => h) hHeld (Or.inr ⟨by rfl, rfl⟩) ?r61); (try simp only [Act.put, nE]))
                      refine wpAnyT_tail [11] [?o62_11] _ _ _ _ (by simp) (by kernel_rfl) (by rfl) (by simp only [List.map_cons, List.map_nil, gE]; rfl) ?_
                      go_wp2_with fail
                      go_meet
                      case rel => exact ⟨from_.length, Nat.le_refl _, rfl, ext_trans hx3 (by go_grown), fun j hj _ => HNC.out j hj (by omega), fun h => absurd h (by omega)⟩
                case rest =>
                  obtain ⟨i, hi, rfl, hx3, HNC, hne⟩ := hcut
                  obtain ⟨w3, rfl⟩ : ∃ w3 : World, w3 = wc := ⟨_, rfl⟩
                  have hx30 := ext_trans HXC.out hx3
                  have hP3 := HP.out.ext hx3
                  have hp0 : w3.cell? ⟨p, 0, none⟩ = some (.slice aB nB cB) := cell_of_row w3 p 0 _ _ _ hP3
                  have hp1 : w3.cell? ⟨p, 1, none⟩ = some (.slice aD nD cD) := cell_of_row w3 p 1 _ _ _ hP3
                  obtain ⟨xs, hrow, hnr⟩ := HLM.out.rows
                  have hrow3 := own_keep hrow hx30
                  have hxl : xs.length = from_.length * 2 := hrow.1
                  obtain ⟨hcap1, hcap2⟩ : from_.length ≤ cl_ ∧ cl_ ≤ maxLen := by obtain ⟨_, _, e, h1, h2⟩ := own_len hrow3; simp only [Value.slice.injEq] at e; obtain ⟨_, _, rfl⟩ := e; exact ⟨h1, h2⟩
                  have hone := hnr.one (by simpa using hxl)
                  have HNR := Lib.hid hnr
                  have HROW := Lib.hid hrow3
                  have HX30 := Lib.hid hx30
                  have HNC' := Lib.hid HNC
                  have HNE := Lib.hid hne
                  have HX3 := Lib.hid hx3
                  have hcapi : i ≤ cl_ := by omega
                  clear hP3 hrow hnr hrow3 hx30 HNC hne hx3
                  go_wp2_with fail
                  go_cut [9] (fun lv w4 => ∃ g cap xs', lv = .slice (some ⟨g, 0, none⟩) (from_.length + 1) cap ∧ Ext w3 w4 ∧ w3.heap.size ≤ g ∧ w4.ownsRow w.heap.size 80 2 lv (from_.length + 1) xs' ∧ NodeRow w4 xs' ((from_.take i ++ m :: from_.drop i).map (Xn D at_)) w.heap.size (KF w o gat vN))
                  case first =>
                    have hSx : ∀ W, Ext w3 W → W.cell? ⟨p, 0, none⟩ = some (.slice aB nB cB) ∧ W.cell? ⟨p, 1, none⟩ = some (.slice aD nD cD) := fun W h => ⟨(h.cell (lt_of_cell hp0)).trans hp0, (h.cell (lt_of_cell hp1)).trans hp1⟩
                    have HNR3 := HNR.out.ext HX30.out
                    have HB3 := HIB.out.ext HX3.out
                    have HD3 := HID.out.ext HX3.out
                    have hz3 := HX3.out.size
                    have hkl := HM.out.klt
                    have hzm := HX.out.size
                    have hzw := hE.size
                    have HfB3 : ∀ b, Value.ownBlock (.slice aB nB cB) = some b → w.heap.size ≤ b ∧ b < w3.heap.size ∧ ¬ KF w o gat vN b := fun b hb => ⟨by have := (HfB.out b hb).1; omega, by have := (HfB.out b hb).2; omega, fun k => by have := hkl b k; have := (HfB.out b hb).1; omega⟩
                    have HfD3 : ∀ b, Value.ownBlock (.slice aD nD cD) = some b → w.heap.size ≤ b ∧ b < w3.heap.size ∧ ¬ KF w o gat vN b := fun b hb => ⟨by have := (HfD.out b hb).1; omega, by have := (HfD.out b hb).2; omega, fun k => by have := hkl b k; have := (HfD.out b hb).1; omega⟩
                    have hw3 : w.heap.size ≤ w3.heap.size := by have := HX30.out.size; omega
                    refine wp_region_T (fun w' => w'.cell? ⟨p, 0, none⟩ = some (.slice aB nB cB) ∧ w'.cell? ⟨p, 1, none⟩ = some (.slice aD nD cD)) [11, 12] (by kernel_rfl) ⟨hp0, hp1⟩ (fun hHeld => ?_)
                    ((refine tkT (i := 1) (v := ?v63) (by simp only [gE]; rfl) hHeld (Or.inl ⟨by rfl, ?hy63⟩) ?r63; case hy63 => (intro w' hSw; (try dsimp only at hSw); go_simp; (try with_reducible rfl))); (try simp only [Act.put, nE]); (refine tkT (i := 2) (v := ?v64) (by simp only [gE]; rfl) hHeld (Or.inl ⟨by rfl, ?hy64⟩) ?r64; case hy64 => (intro w' hSw; (try dsimp only at hSw); go_simp; (try with_reducible rfl))); (try simp only [Act.put, nE]); (refine tkT (i := 3) (v := ?v65) (by simp only [gE]; rfl) hHeld (Or.inl ⟨by rfl, ?hy65⟩) ?r65; case hy65 => (intro w' hSw; (try dsimp only at hSw); go_simp; (try with_reducible rfl))); (try simp only [Act.put, nE]); (refine tkT (i := 5) (v := ?v66) (by simp only [gE]; rfl) hHeld (Or.inl ⟨by rfl, ?hy66⟩) ?r66; case hy66 => (intro w' hSw; (try dsimp only at hSw); go_simp; (try with_reducible rfl))); (try simp only [Act.put, nE]); (refine tkT (i := 8) (v := ?v67) (by simp only [gE]; rfl) hHeld (Or.inl ⟨by rfl, ?hy67⟩) ?r67; case hy67 => (intro w' hSw; (try dsimp only at hSw); go_simp; (try with_reducible rfl))); (try simp only [Act.put, nE]); (refine tkT (i := 9) (v := ?v68) (by simp only [gE]; rfl) hHeld (Or.inl ⟨by rfl, ?hy68⟩) ?r68; case hy68 => (intro w' hSw; (try dsimp only at hSw); go_simp; (try with_reducible rfl))); (try simp only [Act.put, nE]); (refine tkT (i := 10) (v := ?v69) (by simp only [gE]; rfl) hHeld (Or.inl ⟨by rfl, ?hy69⟩) ?r69; case hy69 => (intro w' hSw; (try dsimp only at hSw); go_simp; (try with_reducible rfl))); (try simp only [Act.put, nE]))
                    have hEx : Ext w3 w3.drew := ⟨rfl, rfl, rfl, Nat.le_refl _, fun _ _ => rfl⟩
                    obtain ⟨W, hW⟩ : ∃ W, W = w3.drew := ⟨_, rfl⟩
                    rw [← hW] at hEx hHeld ⊢
                    clear hW
                    refine wpAnyT_two (i := 0) (j := 6) (by kernel_rfl) ?_ ?_
                    · (refine StepT.run (i := 0) (o := _) (by simp only [gE]; rfl) (fun K hK => ?_); go_simp)
                      have hxN : Ext W (W.alloc (.cells #[] 80)) := by go_grown
                      have hroN : (W.alloc (.cells #[] 80)).ownsRow w3.heap.size 80 2 (.slice (some ⟨W.heap.size, 0, none⟩) 0 0) 0 [] := World.ownsRow_made W #[] 0 hEx.size (by decide) (by simp)
                      (try have hqr : ∀ b, Value.ownBlock (.slice (some ⟨W.heap.size, 0, none⟩) 0 0) = some b → b ≠ q := fun b hb e => by have h1 := blk_lt hP; simp [Value.ownBlock] at hb; omega)
                      (try replace hP := hP.ext hxN)
                      have hro := hroN
                      clear hroN
                      replace hEx := ext_trans hEx hxN
                      have hHeld := hSx _ hEx
                      refine hK.out _ _ (fun _ => hHeld) ?_
                      clear hK K
                      (try simp only [Act.put, nE])
                      generalize W.alloc (.cells #[] 80) = W1 at *
                      generalize W.heap.size = h0 at *
                      clear hxN
                      obtain ⟨W, rfl⟩ : ∃ W, W = W1 := ⟨_, rfl⟩
                      refine wpAnyT_two (i := 4) (j := 6) (by kernel_rfl) ?_ ?_
                      · (refine StepT.run (i := 4) (o := _) (by simp only [gE]; rfl) (fun K hK => ?_))
                        refine app_step rfl (.tmp 94) (.tmp 97) 26 rfl w3.heap.size 80 i1 (.agg #[.slice none 0 0, .slice none 0 0]) 2 48 Tryz.underlying26 hi1 hy0 hy1 hy2 rfl (by decide) (.slice (some ⟨h0, 0, none⟩) 0 0) 0 [] rfl hro _ i _ ((xs.drop 0).take (i * 2)) rfl (by simp; omega) (.inr ⟨⟨gl, 0, none⟩, rfl, row_src HROW.out hEx 0 (i * 2) (by omega)⟩) (fun u hu => hone u (List.mem_of_mem_drop (List.mem_of_mem_take hu))) (by unfold maxLen; omega) (by omega) hEx.size ?_
                        intro v1 W hro1 hg1 hl1
                        simp only [Nat.zero_add, List.nil_append, List.drop_zero] at hro1
                        (try have hqr1 := lies_ne hP hl1 hqr)
                        (try replace hP := PAt.grown hP hg1 hqr)
                        (try replace hqr := hqr1)
                        replace hEx := ext_grown hEx hg1 (fun k hk => (hro.lt k hk).1)
                        replace hro := hro1
                        clear hro1
                        have hHeld := hSx _ hEx
                        refine hK.out _ _ (fun _ => hHeld) ?_
                        clear hK K
                        (try simp only [Act.put, nE])
                        (refine wpAnyT_step (i := 6) (o := _) (by kernel_rfl) (by simp only [gE]; rfl) (fun K hK => ?_); go_simp)
                        have hxN : Ext W (W.alloc (.cells #[.slice aB nB cB, .slice aD nD cD] 80)) := by go_grown
                        have hPn : PAt (W.alloc (.cells #[.slice aB nB cB, .slice aD nD cD] 80)) W.heap.size (.slice aB nB cB) (.slice aD nD cD) := heap_alloc_new _ _
                        (try have hqr := fun b hb => Nat.ne_of_lt (hro.lt b hb).2)
                        (try replace hro := own_keep hro hxN)
                        have hP := hPn
                        clear hPn
                        replace hEx := ext_trans hEx hxN
                        have hHeld := hSx _ hEx
                        refine hK.out _ _ (fun _ => hHeld) ?_
                        clear hK K
                        (try simp only [Act.put, nE])
                        generalize W.alloc (.cells #[.slice aB nB cB, .slice aD nD cD] 80) = W1 at *
                        generalize W.heap.size = q at *
                        clear hxN
                        obtain ⟨W, rfl⟩ : ∃ W, W = W1 := ⟨_, rfl⟩
                        (refine wpAnyT_step (i := 7) (o := _) (by kernel_rfl) (by simp only [gE]; rfl) (fun K hK => ?_))
                        refine app_step rfl (.tmp 98) (.tmp 100) 26 rfl w3.heap.size 80 i1 (.agg #[.slice none 0 0, .slice none 0 0]) 2 48 Tryz.underlying26 hi1 hy0 hy1 hy2 rfl (by decide) v1 i (xs.take (i * 2)) rfl hro _ 1 _ [.slice aB nB cB, .slice aD nD cD] rfl rfl (.inr ⟨⟨q, 0, none⟩, rfl, pair_src hP⟩) two_cell (by unfold maxLen; omega) (by omega) hEx.size ?_
                        intro v2 W hro2 hg2 hl2
                        replace hEx := ext_grown hEx hg2 (fun k hk => (hro.lt k hk).1)
                        have hHeld := hSx _ hEx
                        refine hK.out _ _ (fun _ => hHeld) ?_
                        clear hK K
                        (try simp only [Act.put, nE])
                        (refine wpAnyT_step (i := 11) (o := _) (by kernel_rfl) (by simp only [gE]; rfl) (fun K hK => ?_))
                        refine app_step rfl (.tmp 101) (.tmp 104) 26 rfl w3.heap.size 80 i1 (.agg #[.slice none 0 0, .slice none 0 0]) 2 48 Tryz.underlying26 hi1 hy0 hy1 hy2 rfl (by decide) v2 (i + 1) (xs.take (i * 2) ++ [.slice aB nB cB, .slice aD nD cD]) rfl hro2 _ (from_.length - i) _ ((xs.drop (i * 2)).take ((from_.length - i) * 2)) rfl (by simp; omega) (by
                            rcases Nat.lt_or_ge i from_.length with h | h
                            · exact .inr ⟨⟨gl, i * 2, none⟩, by first | rfl | (rw [if_neg (by omega)]), row_src HROW.out hEx (i * 2) ((from_.length - i) * 2) (by omega)⟩
                            · exact .inl (by omega)) (fun u hu => hone u (List.mem_of_mem_drop (List.mem_of_mem_take hu))) (by unfold maxLen; omega) (by omega) hEx.size ?_
                        intro v3 W hro3 hg3 hl3
                        replace hEx := ext_grown hEx hg3 (fun k hk => (hro2.lt k hk).1)
                        have hHeld := hSx _ hEx
                        refine hK.out _ _ (fun _ => hHeld) ?_
                        clear hK K
                        (try simp only [Act.put, nE])
                        refine wpAnyT_tail [12] [?o70_12] _ _ _ _ (by simp) (by kernel_rfl) (by rfl) (by simp only [List.map_cons, List.map_nil, gE]; rfl) ?_
                        go_wp2_with fail
                        all_goals (go_meet; exact insert_done hro3 HNR3 hEx hxl hi HB3 HD3 HfB3 HfD3 hw3)
                      · (refine StepT.run (i := 6) (o := _) (by simp only [gE]; rfl) (fun K hK => ?_); go_simp)
                        have hxN : Ext W (W.alloc (.cells #[.slice aB nB cB, .slice aD nD cD] 80)) := by go_grown
                        have hPn : PAt (W.alloc (.cells #[.slice aB nB cB, .slice aD nD cD] 80)) W.heap.size (.slice aB nB cB) (.slice aD nD cD) := heap_alloc_new _ _
                        (try have hqr := fun b hb => Nat.ne_of_lt (hro.lt b hb).2)
                        (try replace hro := own_keep hro hxN)
                        have hP := hPn
                        clear hPn
                        replace hEx := ext_trans hEx hxN
                        have hHeld := hSx _ hEx
                        refine hK.out _ _ (fun _ => hHeld) ?_
                        clear hK K
                        (try simp only [Act.put, nE])
                        generalize W.alloc (.cells #[.slice aB nB cB, .slice aD nD cD] 80) = W1 at *
                        generalize W.heap.size = q at *
                        clear hxN
                        obtain ⟨W, rfl⟩ : ∃ W, W = W1 := ⟨_, rfl⟩
                        (refine wpAnyT_step (i := 4) (o := _) (by kernel_rfl) (by simp only [gE]; rfl) (fun K hK => ?_))
                        refine app_step rfl (.tmp 94) (.tmp 97) 26 rfl w3.heap.size 80 i1 (.agg #[.slice none 0 0, .slice none 0 0]) 2 48 Tryz.underlying26 hi1 hy0 hy1 hy2 rfl (by decide) (.slice (some ⟨h0, 0, none⟩) 0 0) 0 [] rfl hro _ i _ ((xs.drop 0).take (i * 2)) rfl (by simp; omega) (.inr ⟨⟨gl, 0, none⟩, rfl, row_src HROW.out hEx 0 (i * 2) (by omega)⟩) (fun u hu => hone u (List.mem_of_mem_drop (List.mem_of_mem_take hu))) (by unfold maxLen; omega) (by omega) hEx.size ?_
                        intro v1 W hro1 hg1 hl1
                        simp only [Nat.zero_add, List.nil_append, List.drop_zero] at hro1
                        (try have hqr1 := lies_ne hP hl1 hqr)
                        (try replace hP := PAt.grown hP hg1 hqr)
                        (try replace hqr := hqr1)
                        replace hEx := ext_grown hEx hg1 (fun k hk => (hro.lt k hk).1)
                        replace hro := hro1
                        clear hro1
                        have hHeld := hSx _ hEx
                        refine hK.out _ _ (fun _ => hHeld) ?_
                        clear hK K
                        (try simp only [Act.put, nE])
                        (refine wpAnyT_step (i := 7) (o := _) (by kernel_rfl) (by simp only [gE]; rfl) (fun K hK => ?_))
                        refine app_step rfl (.tmp 98) (.tmp 100) 26 rfl w3.heap.size 80 i1 (.agg #[.slice none 0 0, .slice none 0 0]) 2 48 Tryz.underlying26 hi1 hy0 hy1 hy2 rfl (by decide) v1 i (xs.take (i * 2)) rfl hro _ 1 _ [.slice aB nB cB, .slice aD nD cD] rfl rfl (.inr ⟨⟨q, 0, none⟩, rfl, pair_src hP⟩) two_cell (by unfold maxLen; omega) (by omega) hEx.size ?_
                        intro v2 W hro2 hg2 hl2
                        replace hEx := ext_grown hEx hg2 (fun k hk => (hro.lt k hk).1)
                        have hHeld := hSx _ hEx
                        refine hK.out _ _ (fun _ => hHeld) ?_
                        clear hK K
                        (try simp only [Act.put, nE])
                        (refine wpAnyT_step (i := 11) (o := _) (by kernel_rfl) (by simp only [gE]; rfl) (fun K hK => ?_))
                        refine app_step rfl (.tmp 101) (.tmp 104) 26 rfl w3.heap.size 80 i1 (.agg #[.slice none 0 0, .slice none 0 0]) 2 48 Tryz.underlying26 hi1 hy0 hy1 hy2 rfl (by decide) v2 (i + 1) (xs.take (i * 2) ++ [.slice aB nB cB, .slice aD nD cD]) rfl hro2 _ (from_.length - i) _ ((xs.drop (i * 2)).take ((from_.length - i) * 2)) rfl (by simp; omega) (by
                            rcases Nat.lt_or_ge i from_.length with h | h
                            · exact .inr ⟨⟨gl, i * 2, none⟩, by first | rfl | (rw [if_neg (by omega)]), row_src HROW.out hEx (i * 2) ((from_.length - i) * 2) (by omega)⟩
                            · exact .inl (by omega)) (fun u hu => hone u (List.mem_of_mem_drop (List.mem_of_mem_take hu))) (by unfold maxLen; omega) (by omega) hEx.size ?_
                        intro v3 W hro3 hg3 hl3
                        replace hEx := ext_grown hEx hg3 (fun k hk => (hro2.lt k hk).1)
                        have hHeld := hSx _ hEx
                        refine hK.out _ _ (fun _ => hHeld) ?_
                        clear hK K
                        (try simp only [Act.put, nE])
                        refine wpAnyT_tail [12] [?o71_12] _ _ _ _ (by simp) (by kernel_rfl) (by rfl) (by simp only [List.map_cons, List.map_nil, gE]; rfl) ?_
                        go_wp2_with fail
                        all_goals (go_meet; exact insert_done hro3 HNR3 hEx hxl hi HB3 HD3 HfB3 HfD3 hw3)
                    · (refine StepT.run (i := 6) (o := _) (by simp only [gE]; rfl) (fun K hK => ?_); go_simp)
                      have hxN : Ext W (W.alloc (.cells #[.slice aB nB cB, .slice aD nD cD] 80)) := by go_grown
                      have hPn : PAt (W.alloc (.cells #[.slice aB nB cB, .slice aD nD cD] 80)) W.heap.size (.slice aB nB cB) (.slice aD nD cD) := heap_alloc_new _ _
                      (try have hqr := fun b hb => Nat.ne_of_lt (hro.lt b hb).2)
                      (try replace hro := own_keep hro hxN)
                      have hP := hPn
                      clear hPn
                      replace hEx := ext_trans hEx hxN
                      have hHeld := hSx _ hEx
                      refine hK.out _ _ (fun _ => hHeld) ?_
                      clear hK K
                      (try simp only [Act.put, nE])
                      generalize W.alloc (.cells #[.slice aB nB cB, .slice aD nD cD] 80) = W1 at *
                      generalize W.heap.size = q at *
                      clear hxN
                      obtain ⟨W, rfl⟩ : ∃ W, W = W1 := ⟨_, rfl⟩
                      (refine wpAnyT_step (i := 0) (o := _) (by kernel_rfl) (by simp only [gE]; rfl) (fun K hK => ?_); go_simp)
                      have hxN : Ext W (W.alloc (.cells #[] 80)) := by go_grown
                      have hroN : (W.alloc (.cells #[] 80)).ownsRow w3.heap.size 80 2 (.slice (some ⟨W.heap.size, 0, none⟩) 0 0) 0 [] := World.ownsRow_made W #[] 0 hEx.size (by decide) (by simp)
                      (try have hqr : ∀ b, Value.ownBlock (.slice (some ⟨W.heap.size, 0, none⟩) 0 0) = some b → b ≠ q := fun b hb e => by have h1 := blk_lt hP; simp [Value.ownBlock] at hb; omega)
                      (try replace hP := hP.ext hxN)
                      have hro := hroN
                      clear hroN
                      replace hEx := ext_trans hEx hxN
                      have hHeld := hSx _ hEx
                      refine hK.out _ _ (fun _ => hHeld) ?_
                      clear hK K
                      (try simp only [Act.put, nE])
                      generalize W.alloc (.cells #[] 80) = W1 at *
                      generalize W.heap.size = h0 at *
                      clear hxN
                      obtain ⟨W, rfl⟩ : ∃ W, W = W1 := ⟨_, rfl⟩
                      (refine wpAnyT_step (i := 4) (o := _) (by kernel_rfl) (by simp only [gE]; rfl) (fun K hK => ?_))
                      refine app_step rfl (.tmp 94) (.tmp 97) 26 rfl w3.heap.size 80 i1 (.agg #[.slice none 0 0, .slice none 0 0]) 2 48 Tryz.underlying26 hi1 hy0 hy1 hy2 rfl (by decide) (.slice (some ⟨h0, 0, none⟩) 0 0) 0 [] rfl hro _ i _ ((xs.drop 0).take (i * 2)) rfl (by simp; omega) (.inr ⟨⟨gl, 0, none⟩, rfl, row_src HROW.out hEx 0 (i * 2) (by omega)⟩) (fun u hu => hone u (List.mem_of_mem_drop (List.mem_of_mem_take hu))) (by unfold maxLen; omega) (by omega) hEx.size ?_
                      intro v1 W hro1 hg1 hl1
                      simp only [Nat.zero_add, List.nil_append, List.drop_zero] at hro1
                      (try have hqr1 := lies_ne hP hl1 hqr)
                      (try replace hP := PAt.grown hP hg1 hqr)
                      (try replace hqr := hqr1)
                      replace hEx := ext_grown hEx hg1 (fun k hk => (hro.lt k hk).1)
                      replace hro := hro1
                      clear hro1
                      have hHeld := hSx _ hEx
                      refine hK.out _ _ (fun _ => hHeld) ?_
                      clear hK K
                      (try simp only [Act.put, nE])
                      (refine wpAnyT_step (i := 7) (o := _) (by kernel_rfl) (by simp only [gE]; rfl) (fun K hK => ?_))
                      refine app_step rfl (.tmp 98) (.tmp 100) 26 rfl w3.heap.size 80 i1 (.agg #[.slice none 0 0, .slice none 0 0]) 2 48 Tryz.underlying26 hi1 hy0 hy1 hy2 rfl (by decide) v1 i (xs.take (i * 2)) rfl hro _ 1 _ [.slice aB nB cB, .slice aD nD cD] rfl rfl (.inr ⟨⟨q, 0, none⟩, rfl, pair_src hP⟩) two_cell (by unfold maxLen; omega) (by omega) hEx.size ?_
                      intro v2 W hro2 hg2 hl2
                      replace hEx := ext_grown hEx hg2 (fun k hk => (hro.lt k hk).1)
                      have hHeld := hSx _ hEx
                      refine hK.out _ _ (fun _ => hHeld) ?_
                      clear hK K
                      (try simp only [Act.put, nE])
                      (refine wpAnyT_step (i := 11) (o := _) (by kernel_rfl) (by simp only [gE]; rfl) (fun K hK => ?_))
                      refine app_step rfl (.tmp 101) (.tmp 104) 26 rfl w3.heap.size 80 i1 (.agg #[.slice none 0 0, .slice none 0 0]) 2 48 Tryz.underlying26 hi1 hy0 hy1 hy2 rfl (by decide) v2 (i + 1) (xs.take (i * 2) ++ [.slice aB nB cB, .slice aD nD cD]) rfl hro2 _ (from_.length - i) _ ((xs.drop (i * 2)).take ((from_.length - i) * 2)) rfl (by simp; omega) (by
                          rcases Nat.lt_or_ge i from_.length with h | h
                          · exact .inr ⟨⟨gl, i * 2, none⟩, by first | rfl | (rw [if_neg (by omega)]), row_src HROW.out hEx (i * 2) ((from_.length - i) * 2) (by omega)⟩
                          · exact .inl (by omega)) (fun u hu => hone u (List.mem_of_mem_drop (List.mem_of_mem_take hu))) (by unfold maxLen; omega) (by omega) hEx.size ?_
                      intro v3 W hro3 hg3 hl3
                      replace hEx := ext_grown hEx hg3 (fun k hk => (hro2.lt k hk).1)
                      have hHeld := hSx _ hEx
                      refine hK.out _ _ (fun _ => hHeld) ?_
                      clear hK K
                      (try simp only [Act.put, nE])
                      refine wpAnyT_tail [12] [?o72_12] _ _ _ _ (by simp) (by kernel_rfl) (by rfl) (by simp only [List.map_cons, List.map_nil, gE]; rfl) ?_
                      go_wp2_with fail
                      all_goals (go_meet; exact insert_done hro3 HNR3 hEx hxl hi HB3 HD3 HfB3 HfD3 hw3)
                  case rest =>
                    obtain ⟨g5, c5, xs5, rfl, hx4, hg5, hro5, hnr5⟩ := hcut
                    obtain ⟨w4, rfl⟩ : ∃ w4 : World, w4 = wc := ⟨_, rfl⟩
                    have hx40 := ext_trans HX30.out hx4
                    have hrof := own_keep HLM.out.froms hx40
                    obtain ⟨hcaf1, hcaf2⟩ : from_.length ≤ cf ∧ cf ≤ maxLen := by obtain ⟨_, _, e, h1, h2⟩ := own_len hrof; simp only [Value.slice.injEq] at e; obtain ⟨_, _, rfl⟩ := e; exact ⟨h1, h2⟩
                    have HROF := Lib.hid hrof
                    have HX40 := Lib.hid hx40
                    have HRO5 := Lib.hid hro5
                    have HNR5 := Lib.hid hnr5
                    have HX4 := Lib.hid hx4
                    have hcapf : i ≤ cf := by omega
                    have hz4 := hx4.size
                    clear hx4 hro5 hnr5 hrof hx40 hp0 hp1
                    go_wp2_with fail
                    have hw4 : w.heap.size ≤ w4.heap.size := by have := HX40.out.size; have := HX.out.size; have := hE.size; omega
                    have hSx : ∀ W, Ext w4 W → True := fun _ _ => trivial
                    refine wp_region_T (fun w' => True) [11, 12] (by kernel_rfl) trivial (fun hHeld => ?_)
                    ((refine tkT (i := 1) (v := ?v73) (by simp only [gE]; rfl) hHeld (Or.inl ⟨by rfl, ?hy73⟩) ?r73; case hy73 => (intro w' hSw; (try dsimp only at hSw); go_simp; (try with_reducible rfl))); (try simp only [Act.put, nE]); (refine tkT (i := 2) (v := ?v74) (by simp only [gE]; rfl) hHeld (Or.inl ⟨by rfl, ?hy74⟩) ?r74; case hy74 => (intro w' hSw; (try dsimp only at hSw); go_simp; (try with_reducible rfl))); (try simp only [Act.put, nE]); (refine tkT (i := 3) (v := ?v75) (by simp only [gE]; rfl) hHeld (Or.inl ⟨by rfl, ?hy75⟩) ?r75; case hy75 => (intro w' hSw; (try dsimp only at hSw); go_simp; (try with_reducible rfl))); (try simp only [Act.put, nE]); (refine tkT (i := 5) (v := ?v76) (by simp only [gE]; rfl) hHeld (Or.inl ⟨by rfl, ?hy76⟩) ?r76; case hy76 => (intro w' hSw; (try dsimp only at hSw); go_simp; (try with_reducible rfl))); (try simp only [Act.put, nE]); (refine tkT (i := 8) (v := ?v77) (by simp only [gE]; rfl) hHeld (Or.inl ⟨by rfl, ?hy77⟩) ?r77; case hy77 => (intro w' hSw; (try dsimp only at hSw); go_simp; (try with_reducible rfl))); (try simp only [Act.put, nE]); (refine tkT (i := 9) (v := ?v78) (by simp only [gE]; rfl) hHeld (Or.inl ⟨by rfl, ?hy78⟩) ?r78; case hy78 => (intro w' hSw; (try dsimp only at hSw); go_simp; (try with_reducible rfl))); (try simp only [Act.put, nE]); (refine tkT (i := 10) (v := ?v79) (by simp only [gE]; rfl) hHeld (Or.inl ⟨by rfl, ?hy79⟩) ?r79; case hy79 => (intro w' hSw; (try dsimp only at hSw); go_simp; (try with_reducible rfl))); (try simp only [Act.put, nE]))
                    have hEx : Ext w4 w4.drew := ⟨rfl, rfl, rfl, Nat.le_refl _, fun _ _ => rfl⟩
                    obtain ⟨W, hW⟩ : ∃ W, W = w4.drew := ⟨_, rfl⟩
                    rw [← hW] at hEx ⊢
                    clear hW
                    refine wpAnyT_two (i := 0) (j := 6) (by kernel_rfl) ?_ ?_
                    · (refine StepT.run (i := 0) (o := _) (by simp only [gE]; rfl) (fun K hK => ?_); go_simp)
                      have hxN : Ext W (W.alloc (.cells #[] 3)) := by go_grown
                      have hroN : (W.alloc (.cells #[] 3)).ownsRow w4.heap.size 3 1 (.slice (some ⟨W.heap.size, 0, none⟩) 0 0) 0 [] := World.ownsRow_made W #[] 0 hEx.size (by decide) (by simp)
                      (try have hqr : ∀ b, Value.ownBlock (.slice (some ⟨W.heap.size, 0, none⟩) 0 0) = some b → b ≠ q := fun b hb e => by have h1 := blk_lt hP; simp [Value.ownBlock] at hb; omega)
                      (try replace hP := hP.ext hxN)
                      have hro := hroN
                      clear hroN
                      replace hEx := ext_trans hEx hxN
                      have hHeld := hSx _ hEx
                      refine hK.out _ _ (fun _ => hHeld) ?_
                      clear hK K
                      (try simp only [Act.put, nE])
                      generalize W.alloc (.cells #[] 3) = W1 at *
                      generalize W.heap.size = h0 at *
                      clear hxN
                      obtain ⟨W, rfl⟩ : ∃ W, W = W1 := ⟨_, rfl⟩
                      refine wpAnyT_two (i := 4) (j := 6) (by kernel_rfl) ?_ ?_
                      · (refine StepT.run (i := 4) (o := _) (by simp only [gE]; rfl) (fun K hK => ?_))
                        refine app_step rfl (.tmp 106) (.tmp 109) 22 rfl w4.heap.size 3 i0 (.int .i64 0) 1 8 Tryz.underlying22 hi0 hz0 hz1 hz2 rfl (by decide) (.slice (some ⟨h0, 0, none⟩) 0 0) 0 [] rfl hro _ i _ ((((toZ from_).map (Value.int .i64)).drop 0).take i) rfl (by simp [toZ_len]; omega) (.inr ⟨⟨gf, 0, none⟩, rfl, row_src HROF.out hEx 0 i (by omega)⟩) (fun u hu => ints_onecell _ u (List.mem_of_mem_drop (List.mem_of_mem_take hu))) (by unfold maxLen; omega) (by omega) hEx.size ?_
                        intro v1 W hro1 hg1 hl1
                        simp only [Nat.zero_add, List.nil_append, List.drop_zero] at hro1
                        (try have hqr1 := lies_neB hP hl1 hqr)
                        (try replace hP := BAt.grown hP hg1 hqr)
                        (try replace hqr := hqr1)
                        replace hEx := ext_grown hEx hg1 (fun k hk => (hro.lt k hk).1)
                        replace hro := hro1
                        clear hro1
                        have hHeld := hSx _ hEx
                        refine hK.out _ _ (fun _ => hHeld) ?_
                        clear hK K
                        (try simp only [Act.put, nE])
                        (refine wpAnyT_step (i := 6) (o := _) (by kernel_rfl) (by simp only [gE]; rfl) (fun K hK => ?_); go_simp)
                        have hxN : Ext W (W.alloc (.cells #[.int .i64 ((m : Nat) : Int)] 3)) := by go_grown
                        have hPn : BAt (W.alloc (.cells #[.int .i64 ((m : Nat) : Int)] 3)) W.heap.size (.int .i64 ((m : Nat) : Int)) := heap_alloc_new _ _
                        (try have hqr := fun b hb => Nat.ne_of_lt (hro.lt b hb).2)
                        (try replace hro := own_keep hro hxN)
                        have hP := hPn
                        clear hPn
                        replace hEx := ext_trans hEx hxN
                        have hHeld := hSx _ hEx
                        refine hK.out _ _ (fun _ => hHeld) ?_
                        clear hK K
                        (try simp only [Act.put, nE])
                        generalize W.alloc (.cells #[.int .i64 ((m : Nat) : Int)] 3) = W1 at *
                        generalize W.heap.size = q at *
                        clear hxN
                        obtain ⟨W, rfl⟩ : ∃ W, W = W1 := ⟨_, rfl⟩
                        (refine wpAnyT_step (i := 7) (o := _) (by kernel_rfl) (by simp only [gE]; rfl) (fun K hK => ?_))
                        refine app_step rfl (.tmp 110) (.tmp 112) 22 rfl w4.heap.size 3 i0 (.int .i64 0) 1 8 Tryz.underlying22 hi0 hz0 hz1 hz2 rfl (by decide) v1 i (((toZ from_).map (Value.int .i64)).take i) rfl hro _ 1 _ [.int .i64 ((m : Nat) : Int)] rfl rfl (.inr ⟨⟨q, 0, none⟩, rfl, one_src (cell_of_row W q 0 _ _ _ hP)⟩) one_cell (by unfold maxLen; omega) (by omega) hEx.size ?_
                        intro v2 W hro2 hg2 hl2
                        replace hEx := ext_grown hEx hg2 (fun k hk => (hro.lt k hk).1)
                        have hHeld := hSx _ hEx
                        refine hK.out _ _ (fun _ => hHeld) ?_
                        clear hK K
                        (try simp only [Act.put, nE])
                        (refine wpAnyT_step (i := 11) (o := _) (by kernel_rfl) (by simp only [gE]; rfl) (fun K hK => ?_))
                        refine app_step rfl (.tmp 113) (.tmp 116) 22 rfl w4.heap.size 3 i0 (.int .i64 0) 1 8 Tryz.underlying22 hi0 hz0 hz1 hz2 rfl (by decide) v2 (i + 1) (((toZ from_).map (Value.int .i64)).take i ++ [.int .i64 ((m : Nat) : Int)]) rfl hro2 _ (from_.length - i) _ ((((toZ from_).map (Value.int .i64)).drop i).take (from_.length - i)) rfl (by simp [toZ_len]) (by
                            rcases Nat.lt_or_ge i from_.length with h | h
                            · exact .inr ⟨⟨gf, i, none⟩, by first | rfl | (rw [if_neg (by omega)]), row_src HROF.out hEx i (from_.length - i) (by omega)⟩
                            · exact .inl (by omega)) (fun u hu => ints_onecell _ u (List.mem_of_mem_drop (List.mem_of_mem_take hu))) (by unfold maxLen; omega) (by omega) hEx.size ?_
                        intro v3 W hro3 hg3 hl3
                        replace hEx := ext_grown hEx hg3 (fun k hk => (hro2.lt k hk).1)
                        have hHeld := hSx _ hEx
                        refine hK.out _ _ (fun _ => hHeld) ?_
                        clear hK K
                        (try simp only [Act.put, nE])
                        refine wpAnyT_tail [12] [?o80_12] _ _ _ _ (by simp) (by kernel_rfl) (by rfl) (by simp only [List.map_cons, List.map_nil, gE]; rfl) ?_
                        go_wp2_with fail
                        all_goals go_roundw
                        all_goals first
                          | exact stage_put HB.out.good HF.out hr HL.out hreach.out hbm hmt hi HNC'.out (fun h => by have := HNE.out h; omega) (ext_trans HX.out HX40.out) hEx HRO5.out HNR5.out (by have := HX.out.size; have := HX30.out.size; omega) (insert_ints hro3 hEx hi hw4) HM.out.klt
                          | (simp [intOf]; omega)
                      · (refine StepT.run (i := 6) (o := _) (by simp only [gE]; rfl) (fun K hK => ?_); go_simp)
                        have hxN : Ext W (W.alloc (.cells #[.int .i64 ((m : Nat) : Int)] 3)) := by go_grown
                        have hPn : BAt (W.alloc (.cells #[.int .i64 ((m : Nat) : Int)] 3)) W.heap.size (.int .i64 ((m : Nat) : Int)) := heap_alloc_new _ _
                        (try have hqr := fun b hb => Nat.ne_of_lt (hro.lt b hb).2)
                        (try replace hro := own_keep hro hxN)
                        have hP := hPn
                        clear hPn
                        replace hEx := ext_trans hEx hxN
                        have hHeld := hSx _ hEx
                        refine hK.out _ _ (fun _ => hHeld) ?_
                        clear hK K
                        (try simp only [Act.put, nE])
                        generalize W.alloc (.cells #[.int .i64 ((m : Nat) : Int)] 3) = W1 at *
                        generalize W.heap.size = q at *
                        clear hxN
                        obtain ⟨W, rfl⟩ : ∃ W, W = W1 := ⟨_, rfl⟩
                        (refine wpAnyT_step (i := 4) (o := _) (by kernel_rfl) (by simp only [gE]; rfl) (fun K hK => ?_))
                        refine app_step rfl (.tmp 106) (.tmp 109) 22 rfl w4.heap.size 3 i0 (.int .i64 0) 1 8 Tryz.underlying22 hi0 hz0 hz1 hz2 rfl (by decide) (.slice (some ⟨h0, 0, none⟩) 0 0) 0 [] rfl hro _ i _ ((((toZ from_).map (Value.int .i64)).drop 0).take i) rfl (by simp [toZ_len]; omega) (.inr ⟨⟨gf, 0, none⟩, rfl, row_src HROF.out hEx 0 i (by omega)⟩) (fun u hu => ints_onecell _ u (List.mem_of_mem_drop (List.mem_of_mem_take hu))) (by unfold maxLen; omega) (by omega) hEx.size ?_
                        intro v1 W hro1 hg1 hl1
                        simp only [Nat.zero_add, List.nil_append, List.drop_zero] at hro1
                        (try have hqr1 := lies_neB hP hl1 hqr)
                        (try replace hP := BAt.grown hP hg1 hqr)
                        (try replace hqr := hqr1)
                        replace hEx := ext_grown hEx hg1 (fun k hk => (hro.lt k hk).1)
                        replace hro := hro1
                        clear hro1
                        have hHeld := hSx _ hEx
                        refine hK.out _ _ (fun _ => hHeld) ?_
                        clear hK K
                        (try simp only [Act.put, nE])
                        (refine wpAnyT_step (i := 7) (o := _) (by kernel_rfl) (by simp only [gE]; rfl) (fun K hK => ?_))
                        refine app_step rfl (.tmp 110) (.tmp 112) 22 rfl w4.heap.size 3 i0 (.int .i64 0) 1 8 Tryz.underlying22 hi0 hz0 hz1 hz2 rfl (by decide) v1 i (((toZ from_).map (Value.int .i64)).take i) rfl hro _ 1 _ [.int .i64 ((m : Nat) : Int)] rfl rfl (.inr ⟨⟨q, 0, none⟩, rfl, one_src (cell_of_row W q 0 _ _ _ hP)⟩) one_cell (by unfold maxLen; omega) (by omega) hEx.size ?_
                        intro v2 W hro2 hg2 hl2
                        replace hEx := ext_grown hEx hg2 (fun k hk => (hro.lt k hk).1)
                        have hHeld := hSx _ hEx
                        refine hK.out _ _ (fun _ => hHeld) ?_
                        clear hK K
                        (try simp only [Act.put, nE])
                        (refine wpAnyT_step (i := 11) (o := _) (by kernel_rfl) (by simp only [gE]; rfl) (fun K hK => ?_))
                        refine app_step rfl (.tmp 113) (.tmp 116) 22 rfl w4.heap.size 3 i0 (.int .i64 0) 1 8 Tryz.underlying22 hi0 hz0 hz1 hz2 rfl (by decide) v2 (i + 1) (((toZ from_).map (Value.int .i64)).take i ++ [.int .i64 ((m : Nat) : Int)]) rfl hro2 _ (from_.length - i) _ ((((toZ from_).map (Value.int .i64)).drop i).take (from_.length - i)) rfl (by simp [toZ_len]) (by
                            rcases Nat.lt_or_ge i from_.length with h | h
                            · exact .inr ⟨⟨gf, i, none⟩, by first | rfl | (rw [if_neg (by omega)]), row_src HROF.out hEx i (from_.length - i) (by omega)⟩
                            · exact .inl (by omega)) (fun u hu => ints_onecell _ u (List.mem_of_mem_drop (List.mem_of_mem_take hu))) (by unfold maxLen; omega) (by omega) hEx.size ?_
                        intro v3 W hro3 hg3 hl3
                        replace hEx := ext_grown hEx hg3 (fun k hk => (hro2.lt k hk).1)
                        have hHeld := hSx _ hEx
                        refine hK.out _ _ (fun _ => hHeld) ?_
                        clear hK K
                        (try simp only [Act.put, nE])
                        refine wpAnyT_tail [12] [?o81_12] _ _ _ _ (by simp) (by kernel_rfl) (by rfl) (by simp only [List.map_cons, List.map_nil, gE]; rfl) ?_
                        go_wp2_with fail
                        all_goals go_roundw
                        all_goals first
                          | exact stage_put HB.out.good HF.out hr HL.out hreach.out hbm hmt hi HNC'.out (fun h => by have := HNE.out h; omega) (ext_trans HX.out HX40.out) hEx HRO5.out HNR5.out (by have := HX.out.size; have := HX30.out.size; omega) (insert_ints hro3 hEx hi hw4) HM.out.klt
                          | (simp [intOf]; omega)
                    · (refine StepT.run (i := 6) (o := _) (by simp only [gE]; rfl) (fun K hK => ?_); go_simp)
                      have hxN : Ext W (W.alloc (.cells #[.int .i64 ((m : Nat) : Int)] 3)) := by go_grown
                      have hPn : BAt (W.alloc (.cells #[.int .i64 ((m : Nat) : Int)] 3)) W.heap.size (.int .i64 ((m : Nat) : Int)) := heap_alloc_new _ _
                      (try have hqr := fun b hb => Nat.ne_of_lt (hro.lt b hb).2)
                      (try replace hro := own_keep hro hxN)
                      have hP := hPn
                      clear hPn
                      replace hEx := ext_trans hEx hxN
                      have hHeld := hSx _ hEx
                      refine hK.out _ _ (fun _ => hHeld) ?_
                      clear hK K
                      (try simp only [Act.put, nE])
                      generalize W.alloc (.cells #[.int .i64 ((m : Nat) : Int)] 3) = W1 at *
                      generalize W.heap.size = q at *
                      clear hxN
                      obtain ⟨W, rfl⟩ : ∃ W, W = W1 := ⟨_, rfl⟩
                      (refine wpAnyT_step (i := 0) (o := _) (by kernel_rfl) (by simp only [gE]; rfl) (fun K hK => ?_); go_simp)
                      have hxN : Ext W (W.alloc (.cells #[] 3)) := by go_grown
                      have hroN : (W.alloc (.cells #[] 3)).ownsRow w4.heap.size 3 1 (.slice (some ⟨W.heap.size, 0, none⟩) 0 0) 0 [] := World.ownsRow_made W #[] 0 hEx.size (by decide) (by simp)
                      (try have hqr : ∀ b, Value.ownBlock (.slice (some ⟨W.heap.size, 0, none⟩) 0 0) = some b → b ≠ q := fun b hb e => by have h1 := blk_lt hP; simp [Value.ownBlock] at hb; omega)
                      (try replace hP := hP.ext hxN)
                      have hro := hroN
                      clear hroN
                      replace hEx := ext_trans hEx hxN
                      have hHeld := hSx _ hEx
                      refine hK.out _ _ (fun _ => hHeld) ?_
                      clear hK K
                      (try simp only [Act.put, nE])
                      generalize W.alloc (.cells #[] 3) = W1 at *
                      generalize W.heap.size = h0 at *
                      clear hxN
                      obtain ⟨W, rfl⟩ : ∃ W, W = W1 := ⟨_, rfl⟩
                      (refine wpAnyT_step (i := 4) (o := _) (by kernel_rfl) (by simp only [gE]; rfl) (fun K hK => ?_))
                      refine app_step rfl (.tmp 106) (.tmp 109) 22 rfl w4.heap.size 3 i0 (.int .i64 0) 1 8 Tryz.underlying22 hi0 hz0 hz1 hz2 rfl (by decide) (.slice (some ⟨h0, 0, none⟩) 0 0) 0 [] rfl hro _ i _ ((((toZ from_).map (Value.int .i64)).drop 0).take i) rfl (by simp [toZ_len]; omega) (.inr ⟨⟨gf, 0, none⟩, rfl, row_src HROF.out hEx 0 i (by omega)⟩) (fun u hu => ints_onecell _ u (List.mem_of_mem_drop (List.mem_of_mem_take hu))) (by unfold maxLen; omega) (by omega) hEx.size ?_
                      intro v1 W hro1 hg1 hl1
                      simp only [Nat.zero_add, List.nil_append, List.drop_zero] at hro1
                      (try have hqr1 := lies_neB hP hl1 hqr)
                      (try replace hP := BAt.grown hP hg1 hqr)
                      (try replace hqr := hqr1)
                      replace hEx := ext_grown hEx hg1 (fun k hk => (hro.lt k hk).1)
                      replace hro := hro1
                      clear hro1
                      have hHeld := hSx _ hEx
                      refine hK.out _ _ (fun _ => hHeld) ?_
                      clear hK K
                      (try simp only [Act.put, nE])
                      (refine wpAnyT_step (i := 7) (o := _) (by kernel_rfl) (by simp only [gE]; rfl) (fun K hK => ?_))
                      refine app_step rfl (.tmp 110) (.tmp 112) 22 rfl w4.heap.size 3 i0 (.int .i64 0) 1 8 Tryz.underlying22 hi0 hz0 hz1 hz2 rfl (by decide) v1 i (((toZ from_).map (Value.int .i64)).take i) rfl hro _ 1 _ [.int .i64 ((m : Nat) : Int)] rfl rfl (.inr ⟨⟨q, 0, none⟩, rfl, one_src (cell_of_row W q 0 _ _ _ hP)⟩) one_cell (by unfold maxLen; omega) (by omega) hEx.size ?_
                      intro v2 W hro2 hg2 hl2
                      replace hEx := ext_grown hEx hg2 (fun k hk => (hro.lt k hk).1)
                      have hHeld := hSx _ hEx
                      refine hK.out _ _ (fun _ => hHeld) ?_
                      clear hK K
                      (try simp only [Act.put, nE])
                      (refine wpAnyT_step (i := 11) (o := _) (by kernel_rfl) (by simp only [gE]; rfl) (fun K hK => ?_))
                      refine app_step rfl (.tmp 113) (.tmp 116) 22 rfl w4.heap.size 3 i0 (.int .i64 0) 1 8 Tryz.underlying22 hi0 hz0 hz1 hz2 rfl (by decide) v2 (i + 1) (((toZ from_).map (Value.int .i64)).take i ++ [.int .i64 ((m : Nat) : Int)]) rfl hro2 _ (from_.length - i) _ ((((toZ from_).map (Value.int .i64)).drop i).take (from_.length - i)) rfl (by simp [toZ_len]) (by
                          rcases Nat.lt_or_ge i from_.length with h | h
                          · exact .inr ⟨⟨gf, i, none⟩, by first | rfl | (rw [if_neg (by omega)]), row_src HROF.out hEx i (from_.length - i) (by omega)⟩
                          · exact .inl (by omega)) (fun u hu => ints_onecell _ u (List.mem_of_mem_drop (List.mem_of_mem_take hu))) (by unfold maxLen; omega) (by omega) hEx.size ?_
                      intro v3 W hro3 hg3 hl3
                      replace hEx := ext_grown hEx hg3 (fun k hk => (hro2.lt k hk).1)
                      have hHeld := hSx _ hEx
                      refine hK.out _ _ (fun _ => hHeld) ?_
                      clear hK K
                      (try simp only [Act.put, nE])
                      refine wpAnyT_tail [12] [?o82_12] _ _ _ _ (by simp) (by kernel_rfl) (by rfl) (by simp only [List.map_cons, List.map_nil, gE]; rfl) ?_
                      go_wp2_with fail
                      all_goals go_roundw
                      all_goals first
                        | exact stage_put HB.out.good HF.out hr HL.out hreach.out hbm hmt hi HNC'.out (fun h => by have := HNE.out h; omega) (ext_trans HX.out HX40.out) hEx HRO5.out HNR5.out (by have := HX.out.size; have := HX30.out.size; omega) (insert_ints hro3 hEx hi hw4) HM.out.klt
                        | (simp [intOf]; omega)
            · have hbn : ((born (vl D m) : Int) == (b : Int)) = false := by rw [beq_eq_false_iff_ne]; omega
              have hbn' : ¬ ((born (vl D m) : Int) = (b : Int)) := by omega
              go_wp2
              go_roundw
              case rel => exact ⟨m + 1, from_, by omega, by go_num, HL.out.skip (fun h => hbm h.2), HX.out, HLM.out⟩
              case measure => simp [intOf]; omega
        · have hme : m = root + 1 := by omega
          subst hme
          have hlt' : ¬ (((root + 1 : Nat) : Int) ≤ (root : Int)) := by omega
          obtain ⟨gl, cl_, rfl⟩ := hLM.s1
          obtain ⟨gf, cf, rfl⟩ := hLM.s2
          have HL := Lib.hid hL
          have hM1 := HM.out.ext' hx
          have hN1 := own_keep HN.out hx
          have hfl : from_.length ≤ root + 1 := nodup_len hL.nd (fun x hx => by have := ((hL.mem x).1 hx).1; omega)
          have hFl : F.length ≤ root + 1 := by
            rw [← HF.out.len]; exact nodup_len HF.out.nd (fun x hx => by have := Cgt.reach_lt HB.out.good.wf ((HF.out.mem x).1 hx).1; omega)
          clear hL hx
          go_wp2
          go_loopw [14] (fun ii wr => ∃ i vN2 at2, i ≤ from_.length ∧ ii = .int .i64 ((i : Nat) : Int) ∧ FMem w wr o gat vN2 root (F ++ (from_.map (Xn D at_)).take i) at2 ∧ LMem w wr (KF w o gat vN2) (.slice (some ⟨gl, 0, none⟩) from_.length cl_) (.slice (some ⟨gf, 0, none⟩) from_.length cf) from_ (Xn D at_) ∧
            wr.ownsRow 0 4 1 (.slice (some ⟨gneed, 0, none⟩) (root + 1) cneed) (root + 1) (bs.map Value.bool) ∧ ¬ KF w o gat vN2 gneed ∧ at2.length = root + 1 ∧ Hid (∀ j (h : j < from_.length), j < i → at2[from_[j]]? = some (F.length + j)) ∧ Hid (∀ y, (∀ j (h : j < from_.length), j < i → from_[j] ≠ y) → at2[y]? = at_[y]?)) (fun ii _ => from_.length - (intOf ii).toNat)
          case atStart => exact ⟨0, vN, at_, Nat.zero_le _, rfl, by simpa using hM1, hLM, hN1, HK.out, HF.out.atl, fun j _ h => absurd h (by omega), fun y _ => rfl⟩
          case round =>
            clear hM1 hN1 hLM
            obtain ⟨i, vN2, at2, hi, rfl, hM2, hLM2, hN2, hK2, hl2, HA, HA2⟩ := hrel
            obtain ⟨Fi, hFi⟩ : ∃ Fi, Fi = F ++ (from_.map (Xn D at_)).take i := ⟨_, rfl⟩
            rw [← hFi] at hM2
            have hlN : Fi.length = F.length + i := by rw [hFi]; simp; omega
            have HFi := Lib.hid hFi
            have HLN := Lib.hid hlN
            clear hFi
            by_cases hlt : i < from_.length
            · have hlt' : ((i : Int) < (from_.length : Int)) := by omega
              obtain ⟨xsN, hroN, hnrN⟩ := hM2.nodes
              obtain ⟨aN, capN, rfl, hcN1, hcN2⟩ := own_len hroN
              obtain ⟨xs, hrow, hnr⟩ := hLM2.rows
              obtain ⟨L, R, e1, e2, e3, e4, e5, e6⟩ := hnr i (by simpa using hlt)
              rw [List.getElem_map] at e3 e4
              obtain ⟨aX, cX, rfl, -⟩ := id e3
              obtain ⟨aY, cY, rfl, -⟩ := id e4
              have cx := (hrow.cellAt (i * 2) (by omega)).trans e1
              have cy := (hrow.cellAt (i * 2 + 1) (by omega)).trans e2
              have cf1 : wr.cell? ⟨gf, i, none⟩ = some (.int .i64 ((from_[i] : Nat) : Int)) := by rw [hLM2.froms.cellAt i (by omega)]; simp [toZ, hlt]
              have hxr : from_[i] < root + 1 := ((HL.out.mem _).1 (List.getElem_mem hlt)).1
              obtain ⟨av, hav⟩ : ∃ a, at2[from_[i]]? = some a := ⟨_, List.getElem?_eq_getElem (l := at2) (i := from_[i]) (by omega)⟩
              have cat : wr.cell? ⟨gat, from_[i], none⟩ = some (.int .i64 ((av : Nat) : Int)) := by rw [hM2.atr.cellAt _ (by omega)]; simp [toZ, hav]
              have fat := hM2.atr.frozenAt from_[i]
              have co := cell_of_row wr o 0 _ _ _ hM2.out
              have HM2 := Lib.hid hM2
              have HLM2 := Lib.hid hLM2
              have HN2 := Lib.hid hN2
              have HK2 := Lib.hid hK2
              have HXR := Lib.hid hxr
              clear hM2 hLM2 hN2 hK2 hroN hnrN hrow hnr e1 e2
              generalize hxd : from_[i] = xd at *
              have hxi : ((xd : Nat) : Int) < (root : Int) + 1 := by have := HXR.out; omega
              clear hlN
              go_wp2_with fail
              refine wp_region_T (fun w' => w'.cell? ⟨gf, i, none⟩ = some (.int .i64 ((xd : Nat) : Int)) ∧ w'.cell? ⟨o, 0, none⟩ = some (.slice aN Fi.length capN)) [9] (by kernel_rfl) ⟨cf1, co⟩ (fun hHeld => ?_)
              ((refine tkT (i := 0) (v := ?v83) (by simp only [gE]; rfl) hHeld (Or.inl ⟨by rfl, ?hy83⟩) ?r83; case hy83 => (intro w' hSw; (try dsimp only at hSw); go_simp; (try with_reducible rfl))); (try simp only [Act.put, nE]); (refine tkT (i := 1) (v := ?v84) (by simp only [gE]; rfl) hHeld (Or.inl ⟨by rfl, ?hy84⟩) ?r84; case hy84 => (intro w' hSw; (try dsimp only at hSw); go_simp; (try with_reducible rfl))); (try simp only [Act.put, nE]); (refine tkT (i := 2) (v := ?v85) (by simp only [gE]; rfl) hHeld (Or.inl ⟨by rfl, ?hy85⟩) ?r85; case hy85 => (intro w' hSw; (try dsimp only at hSw); go_simp; (try with_reducible rfl))); (try simp only [Act.put, nE]); (refine tkT (i := 3) (v := ?v86) (by simp only [gE]; rfl) hHeld (Or.inl ⟨by rfl, ?hy86⟩) ?r86; case hy86 => (intro w' hSw; (try dsimp only at hSw); go_simp; (try with_reducible rfl))); (try simp only [Act.put, nE]); (refine tkT (i := 4) (v := ?v87) (by simp only [gE]; rfl) hHeld (Or.inl ⟨by rfl, ?hy87⟩) ?r87; case hy87 => (intro w' hSw; (try dsimp only at hSw); go_simp; (try with_reducible rfl))); (try simp only [Act.put, nE]); (refine tkT (i := 5) (v := ?v88) (by simp only [gE]; rfl) hHeld (Or.inl ⟨by rfl, ?hy88⟩) ?r88; case hy88 => (intro w' hSw; (try dsimp only at hSw); go_simp; (try with_reducible rfl))); (try simp only [Act.put, nE]); (refine tkT (i := 6) (v := ?v89) (by simp only [gE]; rfl) hHeld (Or.inl ⟨by rfl, ?hy89⟩) ?r89; case hy89 => (intro w' hSw; (try dsimp only at hSw); go_simp; (try with_reducible rfl))); (try simp only [Act.put, nE]); (refine tkT (i := 7) (v := ?v90) (by simp only [gE]; rfl) hHeld (Or.inl ⟨by rfl, ?hy90⟩) ?r90; case hy90 => (intro w' hSw; (try dsimp only at hSw); go_simp; (try with_reducible rfl))); (try simp only [Act.put, nE]); (refine tkT (i := 8) (v := ?v91) (by simp only [gE]; rfl) hHeld (Or.inl ⟨by rfl, ?hy91⟩) ?r91; case hy91 => (intro w' hSw; (try dsimp only at hSw); go_simp; (try with_reducible rfl))); (try simp only [Act.put, nE]))
              refine wpAnyT_tail [9] [?o92_9] _ _ _ _ (by simp) (by kernel_rfl) (by rfl) (by simp only [List.map_cons, List.map_nil, gE]; rfl) ?_
              go_wp2_with fail
              obtain ⟨hM3, hk3⟩ := HM2.out.setAt xd Fi.length
              generalize wr.setCell ⟨gat, xd, none⟩ (.int .i64 ((Fi.length : Nat) : Int)) = W at *
              have hLM3 := HLM2.out.keep hk3 (fun _ h => h) (fun _ k => .inl k)
              have hN3 := own_keepG HN2.out hk3 (fun b hb k => by simp [Value.ownBlock] at hb; subst hb; exact HK2.out k)
              have hdr : Ext W W.drew := ⟨rfl, rfl, rfl, Nat.le_refl _, fun _ _ => rfl⟩
              have hdr2 : Ext W W.drew.drew := ⟨rfl, rfl, rfl, Nat.le_refl _, fun _ _ => rfl⟩
              obtain ⟨xsN, hroN, hnrN⟩ := hM3.nodes
              have hxN : xsN.length = Fi.length * 2 := hroN.1
              obtain ⟨xs, hrow, hnr⟩ := hLM3.rows
              obtain ⟨L, R, e1, e2, e3, e4, e5, e6⟩ := hnr i (by simpa using hlt)
              rw [List.getElem_map, hxd] at e3 e4
              obtain ⟨aX, cX, rfl, -⟩ := id e3
              obtain ⟨aY, cY, rfl, -⟩ := id e4
              have cx := (hrow.cellAt (i * 2) (by omega)).trans e1
              have cy := (hrow.cellAt (i * 2 + 1) (by omega)).trans e2
              have co := cell_of_row W o 0 _ _ _ hM3.out
              have ao := hM3.a1
              have agl : gl ≠ o ∧ ∀ b, Value.ownBlock (.slice aN Fi.length capN) = some b → gl ≠ b := ⟨fun e => hLM3.k1 gl rfl (.inl e), fun b hb e => hLM3.k1 gl rfl (.inr (.inr (.inr (by rw [hb, e]))))⟩
              have HM3 := Lib.hid hM3
              have HLM3 := Lib.hid hLM3
              have HN3 := Lib.hid hN3
              have HK3 := Lib.hid hk3
              have HRN := Lib.hid hroN
              have HNR := Lib.hid hnrN
              have E3 := Lib.hid e3
              have E4 := Lib.hid e4
              have E5 := Lib.hid e5
              have E6 := Lib.hid e6
              clear hM3 hk3 hLM3 hN3 hroN hnrN hrow hnr e1 e2 e3 e4 e5 e6 HM2 HLM2 HN2 hHeld fat cat cf1
              refine wp_region_T (fun w' => w'.cell? ⟨gl, i * 2, none⟩ = some (.slice aX (toZ (Xn D at_ xd).1).length cX) ∧ w'.cell? ⟨gl, i * 2 + 1, none⟩ = some (.slice aY (toZ (Xn D at_ xd).2).length cY) ∧ w'.cell? ⟨o, 0, none⟩ = some (.slice aN Fi.length capN)) [7, 8, 9] (by kernel_rfl) ⟨cx, cy, co⟩ (fun hHeld => ?_)
              ((refine tkT (i := 0) (v := ?v93) (by simp only [gE]; rfl) hHeld (Or.inl ⟨by rfl, ?hy93⟩) ?r93; case hy93 => (intro w' hSw; (try dsimp only at hSw); go_simp; (try with_reducible rfl))); (try simp only [Act.put, nE]); (refine tkT (i := 1) (v := ?v94) (by simp only [gE]; rfl) hHeld (Or.inl ⟨by rfl, ?hy94⟩) ?r94; case hy94 => (intro w' hSw; (try dsimp only at hSw); go_simp; (try with_reducible rfl))); (try simp only [Act.put, nE]); (refine tkT (i := 2) (v := ?v95) (by simp only [gE]; rfl) hHeld (Or.inl ⟨by rfl, ?hy95⟩) ?r95; case hy95 => (intro w' hSw; (try dsimp only at hSw); go_simp; (try with_reducible rfl))); (try simp only [Act.put, nE]); (refine tkT (i := 3) (v := ?v96) (by simp only [gE]; rfl) hHeld (Or.inl ⟨by rfl, ?hy96⟩) ?r96; case hy96 => (intro w' hSw; (try dsimp only at hSw); go_simp; (try with_reducible rfl))); (try simp only [Act.put, nE]); (refine tkT (i := 4) (v := ?v97) (by simp only [gE]; rfl) hHeld (Or.inl ⟨by rfl, ?hy97⟩) ?r97; case hy97 => (intro w' hSw; (try dsimp only at hSw); go_simp; (try with_reducible rfl))); (try simp only [Act.put, nE]); (refine tkT (i := 5) (v := ?v98) (by simp only [gE]; rfl) hHeld (Or.inl ⟨by rfl, ?hy98⟩) ?r98; case hy98 => (intro w' hSw; (try dsimp only at hSw); go_simp; (try with_reducible rfl))); (try simp only [Act.put, nE]))
              (refine wpAnyT_step (i := 6) (o := _) (by kernel_rfl) (by simp only [gE]; rfl) (fun K hK => ?_); go_simp)
              have hx6 : Ext W (W.alloc (.cells #[.slice aX (toZ (Xn D at_ xd).1).length cX, .slice aY (toZ (Xn D at_ xd).2).length cY] 80)).drew.drew := Below.drew (Below.drew (by go_grown))
              have hq6 : (W.alloc (.cells #[.slice aX (toZ (Xn D at_ xd).1).length cX, .slice aY (toZ (Xn D at_ xd).2).length cY] 80)).heap[W.heap.size]? = some (.cells #[.slice aX (toZ (Xn D at_ xd).1).length cX, .slice aY (toZ (Xn D at_ xd).2).length cY] 80 (0, 0)) := heap_alloc_new _ _
              refine hK.out _ _ (fun _ => ⟨(hx6.cell (lt_of_cell cx)).trans cx, (hx6.cell (lt_of_cell cy)).trans cy, (hx6.cell (lt_of_cell co)).trans co⟩) ?_
              clear hK K
              (try simp only [Act.put, nE])
              refine wpAnyT_tail [7, 8, 9] [?o99_7, ?o99_8, ?o99_9] _ _ _ _ (by simp) (by kernel_rfl) (by rfl) (by simp only [List.map_cons, List.map_nil, gE]; rfl) ?_
              have hzW := hx6.size
              have hlN := HLN.out
              refine app_list rfl (.tmp 134) (.tmp 139) 26 rfl w.heap.size 80 i1 (.agg #[.slice none 0 0, .slice none 0 0]) 2 48 Tryz.underlying26 hi1 hy0 hy1 hy2 rfl (by decide) (.slice aN Fi.length capN) Fi.length xsN rfl (own_keep HRN.out hx6) _ 1 _ [.slice aX (toZ (Xn D at_ xd).1).length cX, .slice aY (toZ (Xn D at_ xd).2).length cY] rfl rfl (.inr ⟨⟨W.heap.size, 0, none⟩, rfl, pair_src (q := W.heap.size) hq6⟩) two_cell (by unfold maxLen; omega) (by omega) (by have := HM3.out.ext.size; omega) ?_
              intro v7 w7 ho7 hg7 hl7
              obtain ⟨hM7, hk7, hK7⟩ := HM3.out.push (wd := W.drew.drew) HNR.out hxN hdr2 rfl E3.out E4.out E5.out E6.out hg7 ho7 hl7
              have co7 : w7.cell? ⟨o, 0, none⟩ = some (.slice aN Fi.length capN) := hg7.cell ((hx6.cell (lt_of_cell co)).trans co) (fun e => ao e.symm)
              have hb7 : w7.heap[o]? = some (.cells #[.slice aN Fi.length capN] 28 (0, 0)) := by
                rw [hg7.block o (Nat.lt_of_lt_of_le (lt_of_cell co) hzW) (fun e => ao e.symm), hx6.block o (lt_of_cell co)]; exact HM3.out.out
              have fo7 := frozen_of_row w7 o 0 _ _ hb7
              obtain ⟨a7, cap7, rfl, _, _⟩ := own_len ho7
              have hneedlt := (HN3.out.lt gneed rfl).2
              clear ho7 hg7 hl7 hb7 hlN
              (try simp only [Act.put, nE])
              go_wp2_with fail
              go_roundw
              case rel =>
                have hX : (from_.map (Xn D at_)).take (i + 1) = (from_.map (Xn D at_)).take i ++ [Xn D at_ xd] := by
                  rw [List.take_succ_eq_append_getElem (by simpa using hlt), List.getElem_map, hxd]
                refine ⟨i + 1, _, at2.set xd Fi.length, by omega, by go_num, ?_, HLM3.out.keep hk7 (fun _ h => h) hK7, own_keepG HN3.out hk7 (fun b hb k => ?_), fun k => ?_, by simpa using hl2, ?_, ?_⟩
                · rw [hX, ← List.append_assoc, ← HFi.out]; exact hM7
                · simp [Value.ownBlock] at hb; subst hb; exact HK2.out k
                · rcases hK7 _ k with k | k
                  · exact HK2.out k
                  · omega
                · exact place_step HL.out.nd hlt hxd (by rw [hl2]; exact HXR.out) HLN.out HA.out
                · exact place_rest hlt hxd HA2.out
              case measure => simp [intOf]; omega
            · have hie : i = from_.length := by omega
              have hlt' : ¬ ((i : Int) < (from_.length : Int)) := by omega
              have HIE := Lib.hid hie
              have HM2 := Lib.hid hM2
              clear hie hM2
              go_wp2
              go_roundw
              case rel =>
                refine ⟨b + 1, vN2, F ++ from_.map (Xn D at_), idx ++ from_, at2, by go_num, by omega, HF.out.next HB.out.good HL.out hl2 (fun j hj => HA.out j hj (by have := HIE.out; omega)) (fun y hy => HA2.out y (fun j hj _ e => hy (e ▸ List.getElem_mem hj))), ?_, hN2, hK2⟩
                have h := HM2.out
                rw [HFi.out, List.take_of_length_le (by have := HIE.out; simp; omega)] at h
                exact h
              case measure => simp [intOf]; omega
    · have hbe : b = born (vl D root) + 1 := by omega
      have hbt' : ¬ ((b : Int) ≤ (born (vl D root) : Int)) := by omega
      obtain ⟨xsN, hroN, hnrN⟩ := hM.nodes
      obtain ⟨aN, capN, rfl, _, _⟩ := own_len hroN
      have co := cell_of_row wo o 0 _ _ _ hM.out
      have cr := cell_of_row wo w.heap.size 0 _ _ _ hM.res
      rw [hbe] at hF
      have hfin := hF.last HB.out.good hr
      have hks := keep_set (w := wo) (p := ⟨w.heap.size, 0, none⟩) (v := .slice aN F.length capN)
      have hro2 := own_keepG hroN hks (fun b hb e => hM.a3 (by rw [hb, e]))
      have hnr2 := hnrN.keep hks (fun b e => .inr (.inr (.inl e))) (fun b k => .inl k)
      have hres := Nodes.of_own hro2 hnr2
      have hEw : Ext w (wo.setCell ⟨w.heap.size, 0, none⟩ (.slice aN F.length capN)) := hE.setCell (p := ⟨w.heap.size, 0, none⟩) (Nat.le_refl _) _
      have cr2 := World.cell?_setCell_same wo ⟨w.heap.size, 0, none⟩ (.slice aN F.length capN) cr
      have hh := heap_setCell_same wo w.heap.size 0 _ _ (.slice aN F.length capN) hM.res
      have HH : Hid ((wo.setCell ⟨w.heap.size, 0, none⟩ (.slice aN F.length capN)).heap[w.heap.size]? = some (.cells #[.slice aN F.length capN] 28 (0, 0))) := hh
      have HFIN := Lib.hid hfin
      have HRES := Lib.hid hres
      have HEW := Lib.hid hEw
      clear hF hM hroN hnrN hro2 hnr2 hks hneed hK cb2 hfin hres hEw hbe hh
      go_wp2
      (try simp only [Exit.inBlock, Exit.then])
      refine bodyPost_ret (results_cell_row rfl _ _ w.heap.size 28 #[.slice aN F.length capN] (0, 0) _ rfl HH.out Tryz.underlying28 rfl (by kernel_rfl)) rfl ?_
      exact ⟨_, rfl, F, HRES.out, HFIN.out.1, HFIN.out.2, HEW.out⟩

end Go.Proofs.YtjkdanmpihildaaGreatDoor
