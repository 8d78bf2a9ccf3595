/-
  Contract of the program's form at one root: its canonical nodes where they fit.
-/
import Derived.Test.YteknjeohbcgpdaaGreatDoorY25
import Derived.Test.YteknjeohbcgpdaaGreatDoorY42
set_option maxRecDepth 100000
namespace Go.Proofs.YteknjeohbcgpdaaGreatDoor
open Go.RowKit
open Cgt (Dag Nd vl IsForm topOf Same)

theorem SInts.one (w : World) (i : Nat) (t : TypeId) : SInts (fun b => b = w.heap.size) (w.alloc (.cells #[.int .i64 (i : Int)] t)) (.slice (some ⟨w.heap.size, 0, none⟩) 1 1) [i] := by
  have hc := new_cell w (.int .i64 (i : Int)) t
  refine ⟨fun b hb => by subst hb; rw [World.size_alloc]; omega, fun w' h => ?_⟩
  have hb := World.cell?_of_block (a := ⟨w.heap.size, 0, none⟩) (h _ rfl)
  refine ⟨_, 1, rfl, by simp [toZ], by simp [toZ], fun _ => ⟨w.heap.size, 0, rfl, fun j hj => ?_⟩⟩
  have hj0 : j = 0 := by simp [toZ] at hj; omega
  subst hj0
  rw [hb, hc]
  simp [toZ, zat]

def slOf (G : List En) (j : Nat) : Value := ((G.flatMap En.two)[j]?).getD undef
theorem flat2 : ∀ (G : List En) (j : Nat) (hj : j < G.length) (t : Nat), t < 2 → (G.flatMap En.two)[j * 2 + t]? = (G[j].two)[t]?
  | [], j, hj, _, _ => by simp at hj
  | x :: G, 0, _, t, ht => by
    rw [List.flatMap_cons, List.getElem?_append_left (by simp [En.two]; omega)]; simp
  | x :: G, j + 1, hj, t, ht => by
    rw [List.flatMap_cons, List.getElem?_append_right (by simp [En.two]; omega)]
    have e : (j + 1) * 2 + t - x.two.length = j * 2 + t := by simp [En.two]; omega
    rw [e, flat2 G j (by simpa using hj) t ht]; simp
theorem sl_at (G : List En) (j : Nat) (hj : j < 2 * G.length) : ∃ e, e ∈ G ∧ ∃ h : j / 2 < G.length, e = G[j / 2] ∧ (G.flatMap En.two)[j]? = some (slOf G j) ∧ slOf G j = if j % 2 = 0 then e.lv else e.rv := by
  have h : j / 2 < G.length := by omega
  refine ⟨G[j / 2], List.getElem_mem h, h, rfl, ?_⟩
  have h1 := flat2 G (j / 2) h (j % 2) (by omega)
  have e : j / 2 * 2 + j % 2 = j := by omega
  rw [e] at h1
  have h2 : (G[j / 2].two)[j % 2]? = some (if j % 2 = 0 then G[j / 2].lv else G[j / 2].rv) := by
    by_cases c : j % 2 = 0
    · rw [c]; rfl
    · have c1 : j % 2 = 1 := by omega
      rw [c1]; rfl
  rw [h2] at h1
  unfold slOf
  rw [h1]
  exact ⟨rfl, rfl⟩
theorem OM.form {w w1 wr : World} {lb lc rb mr : Nat} {nv gv : Value} {Lc : List Nat} {fm : Value → Option Value} {nodes : List En} (m : OM w1 wr lb lc rb nv gv Lc mr fm nodes [] nodes) (hx : Ext w w1) : FO wr w.heap.size nv (nodes.map En.nd).length (slOf nodes) (lsOf (nodes.map En.nd)) := by
  have hz := hx.size
  rw [List.length_map]
  have hown : ∀ j, j < 2 * nodes.length → wr.ownsRow w.heap.size 3 1 (slOf nodes j) (lsOf (nodes.map En.nd) j).length ((lsOf (nodes.map En.nd) j).map (Value.int .i64)) := by
    intro j hj
    obtain ⟨e, he, h, e1, -, e2⟩ := sl_at nodes j hj
    have ha := m.ents e he
    have hd : (nodes.map En.nd).getD (j / 2) ([], []) = e.nd := by rw [List.getD_eq_getElem?_getD, List.getElem?_map, List.getElem?_eq_getElem h, e1]; rfl
    rw [e2]
    unfold lsOf
    rw [hd]
    by_cases c : j % 2 = 0
    · simp only [c, if_true]
      have := own_lower ha.1 hz
      rw [toZ_len]; exact this
    · simp only [c, if_false]
      have := own_lower ha.2.1 hz
      rw [toZ_len]; exact this
  refine ⟨⟨nodes.flatMap En.two, own_lower m.node hz, fun j hj => ?_⟩, hown, fun i j hi hj hne b hb hc => ?_, fun j hj b hb hc => ?_⟩
  · obtain ⟨e, he, h, e1, e2, e3⟩ := sl_at nodes j hj; exact e2
  · obtain ⟨e, he, h, e1, -, e2⟩ := sl_at nodes i hi
    obtain ⟨e', he', h', e1', -, e2'⟩ := sl_at nodes j hj
    rw [e2] at hb
    rw [e2'] at hc
    have hbe : e.blk b := by
      by_cases c : i % 2 = 0
      · rw [if_pos c] at hb; exact .inl hb
      · rw [if_neg c] at hb; exact .inr hb
    have hbe' : e'.blk b := by
      by_cases c : j % 2 = 0
      · rw [if_pos c] at hc; exact .inl hc
      · rw [if_neg c] at hc; exact .inr hc
    by_cases hij : i / 2 = j / 2
    · have hee : e = e' := by
        rw [e1, e1']; congr 1
      subst hee
      have hs := m.self e he
      by_cases c : i % 2 = 0
      · have c' : ¬ j % 2 = 0 := by omega
        rw [if_pos c] at hb; rw [if_neg c'] at hc
        exact hs b hb hc
      · have c' : j % 2 = 0 := by omega
        rw [if_neg c] at hb; rw [if_pos c'] at hc
        exact hs b hc hb
    · rcases Nat.lt_or_gt_of_ne hij with hl | hl
      · have := List.pairwise_iff_getElem.1 m.apart (i / 2) (j / 2) h h' hl
        rw [← e1, ← e1'] at this
        exact this b hbe hbe'
      · have := List.pairwise_iff_getElem.1 m.apart (j / 2) (i / 2) h' h hl
        rw [← e1, ← e1'] at this
        exact this b hbe' hbe
  · obtain ⟨e, he, h, e1, -, e2⟩ := sl_at nodes j hj
    have hbe : e.blk b := by
      rw [e2] at hb
      by_cases c : j % 2 = 0
      · rw [if_pos c] at hb; exact .inl hb
      · rw [if_neg c] at hb; exact .inr hb
    exact (m.far e he b hbe).2.2.1 hc
theorem FO.lower {w : World} {B B' : Nat} {v : Value} {n : Nat} {sl : Nat → Value} {ls : Nat → List Int} (h : FO w B v n sl ls) (hB : B' ≤ B) : FO w B' v n sl ls := by
  obtain ⟨xs, h1, h2⟩ := h.row
  exact ⟨⟨xs, own_lower h1 hB, h2⟩, fun j hj => own_lower (h.own j hj) hB, h.ap, h.ap0⟩
theorem FO.none (w : World) (sl : Nat → Value) (ls : Nat → List Int) (B : Nat) : FO w B (.slice none 0 0) 0 sl ls :=
  ⟨⟨[], ⟨by simp, .inl ⟨rfl, rfl⟩⟩, fun j hj => absurd hj (by omega)⟩, fun j hj => absurd hj (by omega), fun i j hi => absurd hi (by omega), fun j hj => absurd hj (by omega)⟩

def FormPost (s : PSt) (root : Nat) (w : World) (e : Ending) (w' : World) : Prop :=
  ∃ F vN Fr ok sl, e = .returned (.tuple #[.agg #[vN], .bool ok]) ∧ IsForm F ∧ Same (topOf F) (vl s.D root) ∧ ok = fitsN F ∧ Fr = (if ok then F else []) ∧ FO w' w.heap.size vN Fr.length sl (lsOf Fr) ∧ Ext w w'

theorem same_len {A B : List Nat} (ha : A.Nodup) (hb : B.Nodup) (h : ∀ x, x ∈ A ↔ x ∈ B) : A.length = B.length := by
  have p : A.Perm B := by
    rw [List.perm_ext_iff_of_nodup ha hb]; exact h
  exact p.length_eq

theorem group_ex (P : Nat → Prop) : ∀ rest : List Nat, ∃ q, q ≤ rest.length ∧ (∀ j (hj : j < rest.length), j < q → P rest[j]) ∧ (∀ hl : q < rest.length, ¬ P rest[q])
  | [] => ⟨0, Nat.le_refl _, fun j hj => absurd hj (by simp), fun h => absurd h (by simp)⟩
  | x :: rest => by
    by_cases c : P x
    · obtain ⟨q, h1, h2, h3⟩ := group_ex P rest
      refine ⟨q + 1, by simp; omega, fun j hj hq => ?_, fun hl => ?_⟩
      · cases j with
        | zero => exact c
        | succ j => exact h2 j (by simpa using hj) (by omega)
      · exact h3 (by simpa using hl)
    · exact ⟨0, Nat.zero_le _, fun j _ h => absurd h (by omega), fun _ => c⟩
def leX (D : Dag) (at_ : List Nat) (x y : Nat) : Bool := decide (Cgt.nc (Xn D at_ x) (Xn D at_ y) ≤ 0)
theorem le_total {D : Dag} {at_ : List Nat} (x y : Nat) : (leX D at_ x y || leX D at_ y x) = true := by
  unfold leX
  have := Cgt.nc_neg (Xn D at_ x) (Xn D at_ y)
  rw [Bool.or_eq_true, decide_eq_true_eq, decide_eq_true_eq]
  omega
theorem le_trans' {D : Dag} {at_ : List Nat} (x y z : Nat) (h : leX D at_ x y = true) (k : leX D at_ y z = true) : leX D at_ x z = true := by
  unfold leX at *
  rw [decide_eq_true_eq] at *
  by_cases e : Cgt.nc (Xn D at_ x) (Xn D at_ y) = 0
  · rw [Cgt.nc_zero e]; exact k
  · by_cases e2 : Cgt.nc (Xn D at_ y) (Xn D at_ z) = 0
    · rw [← Cgt.nc_zero e2]; exact h
    · have := Cgt.nc_trans (a := Xn D at_ x) (b := Xn D at_ y) (c := Xn D at_ z) (by omega) (by omega); omega
theorem form_fin {D : Dag} (g : Cgt.Good D) {root : Nat} (hr : root < D.length) : ∀ (n : Nat) (F : Dag) (idx at_ : List Nat) (b : Nat) (rest : List Nat), rest.length ≤ n → StInv D root F idx at_ b rest → ∃ F', IsForm F' ∧ Same (topOf F') (vl D root) ∧ F'.length = (idx ++ rest).length := by
  intro n
  induction n with
  | zero =>
    intro F idx at_ b rest hn h
    have e : rest = [] := List.eq_nil_of_length_eq_zero (by omega)
    subst e
    have h1 := h.last g hr
    exact ⟨F, h1.1, h1.2, by rw [List.append_nil]; exact h.form.len.symm⟩
  | succ n ih =>
    intro F idx at_ b rest hn h
    by_cases h0 : 0 < rest.length
    · have hs := h.stage h0
      obtain ⟨q, q1, q2, q3⟩ := group_ex (fun x => Cgt.born (vl D x) = Cgt.born (vl D rest[0])) rest
      have hq0 : 0 < q := by
        rcases Nat.eq_zero_or_pos q with e | e
        · subst e; exact absurd rfl (q3 h0)
        · exact e
      have hp := List.mergeSort_perm (rest.take q) (leX D at_)
      have hw := List.pairwise_mergeSort (le := leX D at_) le_trans' le_total (rest.take q)
      have h2 := hs.next g hr q1 q2 q3 hp (hw.imp (fun {a c} hac => by
        unfold leX at hac
        rw [decide_eq_true_eq] at hac
        have := Cgt.nc_neg (Xn D at_ a) (Xn D at_ c)
        omega))
      obtain ⟨F', f1, f2, f3⟩ := ih _ _ _ _ (rest.drop q) (by rw [List.length_drop]; omega) h2.1
      refine ⟨F', f1, f2, ?_⟩
      rw [f3]
      have := hp.length_eq
      simp only [List.length_append, List.length_drop, List.length_take] at this ⊢
      omega
    · exact ih F idx at_ b rest (by omega) h

theorem form_of {D : Dag} (g : Cgt.Good D) {root : Nat} (hr : root < D.length) {Ls : List Nat} (hn : Ls.Nodup) (hm : ∀ j, j ∈ Ls ↔ Cgt.Reach D root j) : ∃ F, IsForm F ∧ Same (topOf F) (vl D root) ∧ F.length = Ls.length := by
  have hp := List.mergeSort_perm Ls (fun x y => decide (Cgt.born (vl D x) ≤ Cgt.born (vl D y)))
  have hw := List.pairwise_mergeSort (le := fun x y => decide (Cgt.born (vl D x) ≤ Cgt.born (vl D y))) (fun a b c h k => by simp only [decide_eq_true_eq] at *; omega) (fun a b => by simp only [Bool.or_eq_true, decide_eq_true_eq]; omega) Ls
  have hS := StInv.start (D := D) (root := root) (hp.symm.nodup hn) (fun j => by rw [hp.mem_iff]; exact hm j) (hw.imp (fun {a b} h => by simpa using h))
  obtain ⟨F, f1, f2, f3⟩ := form_fin g hr _ _ _ _ _ _ (Nat.le_refl _) hS
  exact ⟨F, f1, f2, by rw [f3]; simp⟩
theorem fits_long {F : Dag} (h : 120 < F.length) : fitsN F = false := decide_eq_false (fun k => by omega)

set_option maxHeartbeats 4000000 in
theorem pform_any (pp h : Nat) (s : PSt) (root : Nat) (w : World) (hP : PoolAt w pp h s) (hr : root < s.D.length) :
    Calls Tryz.prog 69 #[.pointer (some ⟨pp, 0, none⟩), .int .i64 (root : Int)] w (FormPost s root w) := by
  have hds := hP.small
  have hb1 : (w.alloc (.cells #[.slice none 0 0] 28)).heap[w.heap.size]? = some (.cells #[.slice none 0 0] 28 (0, 0)) := heap_alloc_new _ _
  have hx1 : Ext w (w.alloc (.cells #[.slice none 0 0] 28)) := by go_grown
  go_enter Tryz.func69, Tryz.ntmps69
  go_upto_region 1 with fail
  generalize w.alloc (.cells #[.slice none 0 0] 28) = W1 at *
  have hx2 : Ext W1 (W1.alloc (.cells #[.int .i64 (root : Int)] 3)) := by go_grown
  have hv1 := SInts.one W1 root 3
  have hE2 := ext_trans hx1 hx2
  generalize hf1 : w.heap.size = f1 at *
  have hf1W : f1 < W1.heap.size := blk_lt hb1
  go_upto_region 2 with (go_at_call 117; refine (parts_any pp h s _ [root] _ _ (hP.ext hE2) (by simpa using hr) (by simp) hv1).mono ?_; rintro e w2 ⟨v2, Ls, rfl, ho2, hnd2, hm2, hx3⟩; obtain ⟨a2, c2, rfl, -, -⟩ := own_len ho2)
  · have hE3 := ext_trans hE2 hx3
    have hbf := ((ext_trans hx2 hx3).block f1 hf1W).trans hb1
    have c0 := cell_of_row w2 f1 0 _ _ _ hbf
    have q0 := frozen_of_row w2 f1 0 _ _ hbf
    have hl : 120 < Ls.length := by omega
    obtain ⟨F, g1, g2, g3⟩ := form_of hP.good hr hnd2 (fun j => by rw [hm2]; simp)
    have HF := Lib.hid (And.intro g1 (And.intro g2 g3))
    have HH := Lib.hid (heap_setCell_same w2 f1 0 _ _ (.slice none 0 0) hbf)
    clear hv1 hm2 g1 g2 g3
    go_wp2
    (try simp only [Exit.inBlock, Exit.then])
    refine bodyPost_ret (results_row_tmp rfl _ _ f1 28 #[.slice none 0 0] (0, 0) _ rfl HH.out Tryz.underlying28 rfl (by kernel_rfl) rfl) rfl ?_
    exact ⟨F, _, [], false, fun _ => undef, rfl, HF.out.1, HF.out.2.1, (fits_long (by rw [HF.out.2.2]; exact hl)).symm, rfl, FO.none _ _ _ _, hE3.setCell (p := ⟨f1, 0, none⟩) (by show w.heap.size ≤ f1; omega) _⟩
  · have hx4 : Ext w2 (w2.alloc (.cells #[.int .i64 (root : Int)] 3)) := by go_grown
    have hv4 := SInts.one w2 root 3
    have hE3 := ext_trans hE2 hx3
    have hE4 := ext_trans hE3 hx4
    refine (order_any pp h s root _ _ _ (hP.ext hE4) hr hv4).mono ?_
    rintro e w5 ⟨W5, lv, nv, lb, lc, rb, gv, Lc, mr, fm, nodes, rfl, hx5, hm, hF1, hF2, hnn, hmm⟩
    have hx6 : Ext W1 w5 := ext_trans (ext_trans hx2 (ext_trans hx3 hx4)) (ext_trans hx5 hm.ext)
    have hE6 := ext_trans hx1 hx6
    have hE5 := ext_trans hE4 hx5
    have hfW5 : f1 < W5.heap.size := Nat.lt_of_lt_of_le hf1W (ext_trans (ext_trans hx2 (ext_trans hx3 hx4)) hx5).size
    have hnl : nodes.length = Ls.length := by
      have := same_len hnn hnd2 (fun j => by rw [hmm, hm2]; simp)
      rw [List.length_map] at this; exact this
    have hn1 : 1 ≤ nodes.length := by
      have h1 : root ∈ nodes.map En.id := (hmm root).2 .here
      have := List.length_pos_of_mem h1
      rw [List.length_map] at this; exact this
    have hlen : nodes.length ≤ 120 := by omega
    clear hnl
    obtain ⟨g, cv, rfl, -, -, -⟩ := own_at hm.node hn1
    have HF := Lib.hid (And.intro hF1 hF2)
    clear hv1 hv4 hm2 hmm hnn hF1 hF2 hx3 hx4 ho2 hx5 hE2 hE3 hE4 hx2 hnd2
    go_wp2
    go_loopw [9, 26] (fun _ kk wr => ∃ i, i ≤ nodes.length ∧ kk = .int .i64 ((i : Nat) : Int) ∧ Ext w5 wr ∧ Hid (∀ j (hj : j < nodes.length), j < i → nodes[j].l.length ≤ 24 ∧ nodes[j].r.length ≤ 24)) (fun _ kk _ => nodes.length - (intOf kk).toNat)
    case atStart => exact ⟨0, Nat.zero_le _, rfl, Below.refl _ _, Lib.hid (fun j _ h => absurd h (by omega))⟩
    case round =>
      obtain ⟨i, hi, rfl, hx, HP⟩ := hrel
      have hmr := hm.ext' hx
      have hbr := (hx.block f1 (Nat.lt_of_lt_of_le hf1W hx6.size)).trans ((hx6.block f1 hf1W).trans hb1)
      have hEr := ext_trans hE6 hx
      by_cases hlt : i < nodes.length
      · have h1 : ((i : Nat) : Int) < (nodes.length : Int) := by omega
        have k0 : wr.cell? ⟨g, i * 2, none⟩ = some nodes[i].lv := by
          have := hmr.node.cellAt (i * 2) (by omega)
          rw [this]; exact flat2 nodes i hlt 0 (by omega)
        have k1 : wr.cell? ⟨g, i * 2 + 1, none⟩ = some nodes[i].rv := by
          have := hmr.node.cellAt (i * 2 + 1) (by omega)
          rw [this]; exact flat2 nodes i hlt 1 (by omega)
        have hen := hmr.ents _ (List.getElem_mem hlt)
        obtain ⟨b1, d1, e1, -, -⟩ := own_len hen.1
        obtain ⟨b2, d2, e2, -, -⟩ := own_len hen.2.1
        rw [e1] at k0
        rw [e2] at k1
        obtain ⟨nl, hnl'⟩ : ∃ n, n = nodes[i].l.length := ⟨_, rfl⟩
        obtain ⟨nr, hnr'⟩ : ∃ n, n = nodes[i].r.length := ⟨_, rfl⟩
        rw [← hnl'] at k0
        rw [← hnr'] at k1
        have hnlb : nl ≤ 1000000 := by rw [hnl']; exact hen.2.2.2.2.1
        have hnrb : nr ≤ 1000000 := by rw [hnr']; exact hen.2.2.2.2.2
        have HL := Lib.hid (And.intro hnl' hnr')
        have HX := Lib.hid hx
        have c0 := cell_of_row wr f1 0 _ _ _ hbr
        have q0 := frozen_of_row wr f1 0 _ _ hbr
        clear hen e1 e2 hnl' hnr' hmr hm hx
        by_cases hb : nl ≤ 24 ∧ nr ≤ 24
        · obtain ⟨hbl, hbr'⟩ := hb
          have h2 : ¬ ((24 : Int) < (nl : Int)) := by omega
          have h3 : ¬ ((24 : Int) < (nr : Int)) := by omega
          go_wp2
          go_roundw
          case rel => exact ⟨i + 1, by omega, by go_num, ext_alloc HX.out _, Lib.hid (fun j hj hji => by
            by_cases e : j = i
            · subst e; rw [← HL.out.1, ← HL.out.2]; omega
            · exact HP.out j hj (by omega))⟩
          case measure => simp [intOf]; omega
        · have hff : fitsN (nodes.map En.nd) = false := decide_eq_false (fun k => by
            have h1 := k.2.2 i (by rw [List.length_map]; exact hlt)
            rw [List.getElem_map] at h1
            have h2 : nodes[i].nd = (nodes[i].l, nodes[i].r) := rfl
            rw [h2, ← HL.out.1, ← HL.out.2] at h1
            exact hb h1)
          have HFF := Lib.hid hff
          have hbn := (ext_alloc (Below.refl _ wr) (.cells #[.slice b1 nl d1, .slice b2 nr d2] 89)).block f1 (blk_lt hbr)
          have hxn : Ext wr (wr.alloc (.cells #[.slice b1 nl d1, .slice b2 nr d2] 89)) := ext_alloc (Below.refl _ _) _
          have hbw := hbn.trans hbr
          have HW := Lib.hid (heap_setCell_same _ f1 0 _ _ (.slice none 0 0) hbw)
          have HEr := Lib.hid ((ext_trans hEr hxn).setCell (p := ⟨f1, 0, none⟩) (by show w.heap.size ≤ f1; omega) (.slice none 0 0))
          have c0' := cell_of_row _ f1 0 _ _ _ hbw
          have q0' := frozen_of_row _ f1 0 _ _ hbw
          clear hff hbn hbw c0 q0 hxn hEr
          by_cases hl : 24 < nl
          · have h2 : ((24 : Int) < (nl : Int)) := by omega
            clear hb
            go_wp2
            (try simp only [Exit.inBlock, Exit.then])
            refine bodyPost_ret (results_row_tmp rfl _ _ f1 28 #[.slice none 0 0] (0, 0) _ rfl HW.out Tryz.underlying28 rfl (by kernel_rfl) rfl) rfl ?_
            exact ⟨_, _, [], false, fun _ => undef, rfl, HF.out.1, HF.out.2, HFF.out.symm, rfl, FO.none _ _ _ _, HEr.out⟩
          · have h2 : ¬ ((24 : Int) < (nl : Int)) := by omega
            have h3 : ((24 : Int) < (nr : Int)) := by omega
            clear hb
            go_wp2
            (try simp only [Exit.inBlock, Exit.then])
            refine bodyPost_ret (results_row_tmp rfl _ _ f1 28 #[.slice none 0 0] (0, 0) _ rfl HW.out Tryz.underlying28 rfl (by kernel_rfl) rfl) rfl ?_
            exact ⟨_, _, [], false, fun _ => undef, rfl, HF.out.1, HF.out.2, HFF.out.symm, rfl, FO.none _ _ _ _, HEr.out⟩
      · have h1 : ¬ (((i : Nat) : Int) < (nodes.length : Int)) := by omega
        have hff : fitsN (nodes.map En.nd) = true := decide_eq_true ⟨by rw [List.length_map]; exact hn1, by rw [List.length_map]; exact hlen, fun j hj => by
          rw [List.length_map] at hj
          rw [List.getElem_map]
          exact HP.out j hj (by omega)⟩
        have HFF := Lib.hid hff
        have hFO := hmr.form (Below.refl _ _)
        have c0 := cell_of_row wr f1 0 _ _ _ hbr
        have q0 := frozen_of_row wr f1 0 _ _ hbr
        have HW := Lib.hid (heap_setCell_same _ f1 0 _ _ (.slice (some ⟨g, 0, none⟩) nodes.length cv) hbr)
        have HEr := Lib.hid (hEr.setCell (p := ⟨f1, 0, none⟩) (by show w.heap.size ≤ f1; omega) (.slice (some ⟨g, 0, none⟩) nodes.length cv))
        have HFO := Lib.hid hFO
        clear hff hFO hmr hEr
        go_wp2
        (try simp only [Exit.inBlock, Exit.then])
        refine bodyPost_ret (results_row_tmp rfl _ _ f1 28 #[.slice (some ⟨g, 0, none⟩) nodes.length cv] (0, 0) _ rfl HW.out Tryz.underlying28 rfl (by kernel_rfl) rfl) rfl ?_
        exact ⟨nodes.map En.nd, _, nodes.map En.nd, true, slOf nodes, rfl, HF.out.1, HF.out.2, HFF.out.symm, rfl, (HFO.out.keepG keep_set (fun b hb => by subst hb; exact hfW5)).lower hE5.size, HEr.out⟩

end Go.Proofs.YteknjeohbcgpdaaGreatDoor
