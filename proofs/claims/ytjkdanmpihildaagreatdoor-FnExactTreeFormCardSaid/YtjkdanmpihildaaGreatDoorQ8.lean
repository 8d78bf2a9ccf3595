/-
  Contract of the reference's book of games: put.
-/
import Derived.Test.YtjkdanmpihildaaGreatDoorQ7
import Derived.Deep.AppendLies
import Derived.OneCell
namespace Go.Proofs.YtjkdanmpihildaaGreatDoor
open Go.RowKit
open Cgt (Dag Nd vl)

def PutRel (D : Dag) (l r : List Nat) (D' : Dag) (i : Nat) : Prop :=
  D'[i]? = some (sortN l, sortN r) ∧ (D' = D ∨ D' = D ++ [(sortN l, sortN r)])

def ListBlk (w : World) (vn : Value) (n : Nat) (b : Nat) : Prop := ∃ i g cap v, i < n ∧ vn = .slice (some ⟨g, 0, none⟩) n cap ∧ (w.cell? ⟨g, i * 2, none⟩ = some v ∨ w.cell? ⟨g, i * 2 + 1, none⟩ = some v) ∧ v.ownBlock = some b

def PutPost (pb : Nat) (vn vb : Value) (D : Dag) (l r : List Nat) (w : World) (e : Ending) (w' : World) : Prop :=
  ∃ vn' vb' D' i, e = .returned (.int .i64 ((i : Nat) : Int)) ∧ BookAt w' pb vn' vb' D' ∧ Keep (InS pb vn vb) w w' ∧ (∀ b, InS pb vn' vb' b → InS pb vn vb b ∨ w.heap.size ≤ b) ∧ (∀ b, ListBlk w' vn' D'.length b → ListBlk w vn D.length b ∨ w.heap.size ≤ b) ∧ PutRel D l r D' i

def bornTo (D : Dag) (l : List Nat) : Int := l.foldl (fun m x => max m ((Cgt.born (vl D x) : Int) + 1)) 0

theorem BookAt.bornCell {w : World} {pb : Nat} {vn vb : Value} {D : Dag} (h : BookAt w pb vn vb D) {x : Nat} (hx : x < D.length) :
    ∃ g cap, vb = .slice (some ⟨g, 0, none⟩) D.length cap ∧ D.length ≤ cap ∧ cap ≤ maxLen ∧ w.cell? ⟨g, x, none⟩ = some (.int .i64 (Cgt.born (vl D x))) := by
  obtain ⟨g, cap, h1, h2, h3, h4⟩ := own_at h.born (by omega)
  refine ⟨g, cap, h1, h2, h3, ?_⟩
  rw [h4 x (by omega)]
  simp [hx]

theorem BookAt.nodeCells {w : World} {pb : Nat} {vn vb : Value} {D : Dag} (h : BookAt w pb vn vb D) {i : Nat} (hi : i < D.length) :
    ∃ g cap L R, vn = .slice (some ⟨g, 0, none⟩) D.length cap ∧ D.length ≤ cap ∧ cap ≤ maxLen ∧ w.cell? ⟨g, i * 2, none⟩ = some L ∧ w.cell? ⟨g, i * 2 + 1, none⟩ = some R ∧ Ints w L (toZ (D[i]).1) ∧ Ints w R (toZ (D[i]).2) := by
  obtain ⟨xs, ho, hn⟩ := h.nodes
  obtain ⟨g, cap, h1, h2, h3, h4⟩ := own_at ho (by omega)
  obtain ⟨L, R, e1, e2, e3, e4, _⟩ := hn i hi
  exact ⟨g, cap, L, R, h1, h2, h3, by rw [h4 _ (by omega), Nat.mul_comm]; exact e1, by rw [h4 _ (by omega), Nat.mul_comm]; exact e2, e3, e4⟩

theorem BookAt.nodeFull {w : World} {pb : Nat} {vn vb : Value} {D : Dag} (h : BookAt w pb vn vb D) {i : Nat} (hi : i < D.length) :
    ∃ g cap L R, vn = .slice (some ⟨g, 0, none⟩) D.length cap ∧ D.length ≤ cap ∧ cap ≤ maxLen ∧ w.cell? ⟨g, i * 2, none⟩ = some L ∧ w.cell? ⟨g, i * 2 + 1, none⟩ = some R ∧ Ints w L (toZ (D[i]).1) ∧ Ints w R (toZ (D[i]).2) ∧
      (∀ b, L.ownBlock = some b → ¬ InS pb vn vb b ∧ b < w.heap.size) ∧ (∀ b, R.ownBlock = some b → ¬ InS pb vn vb b ∧ b < w.heap.size) := by
  obtain ⟨xs, ho, hn⟩ := h.nodes
  obtain ⟨g, cap, h1, h2, h3, h4⟩ := own_at ho (by omega)
  obtain ⟨L, R, e1, e2, e3, e4, e5, e6⟩ := hn i hi
  exact ⟨g, cap, L, R, h1, h2, h3, by rw [h4 _ (by omega), Nat.mul_comm]; exact e1, by rw [h4 _ (by omega), Nat.mul_comm]; exact e2, e3, e4, e5, e6⟩
theorem ListBlk.back {w w' : World} {pb : Nat} {vn vb : Value} {D : Dag} (hB : BookAt w pb vn vb D) (hx : Ext w w') {b : Nat} (h : ListBlk w' vn D.length b) : ListBlk w vn D.length b := by
  obtain ⟨i, g, cap, v, hi, he, hc, hv⟩ := h
  obtain ⟨g', cap', L, R, he', _, _, c1, c2, _⟩ := hB.nodeCells hi
  rw [he] at he'
  simp only [Value.slice.injEq, Option.some.injEq, Addr.mk.injEq, and_true, true_and] at he'
  obtain ⟨rfl, rfl⟩ := he'
  refine ⟨i, g, cap, v, hi, he, ?_, hv⟩
  rcases hc with hc | hc
  · exact .inl (by rw [← hx.cell (lt_of_cell c1)]; exact hc)
  · exact .inr (by rw [← hx.cell (lt_of_cell c2)]; exact hc)
theorem bornTo_snoc (D : Dag) {l : List Nat} {k : Nat} (h : k < l.length) : bornTo D (l.take (k + 1)) = max (bornTo D (l.take k)) ((Cgt.born (vl D l[k]) : Int) + 1) := by
  rw [List.take_succ_eq_append_getElem h, bornTo, List.foldl_append]; rfl
theorem bornTo_snoc2 (D : Dag) (l : List Nat) {r : List Nat} {k : Nat} (h : k < r.length) : bornTo D (l ++ r.take (k + 1)) = max (bornTo D (l ++ r.take k)) ((Cgt.born (vl D r[k]) : Int) + 1) := by
  rw [List.take_succ_eq_append_getElem h, ← List.append_assoc, bornTo, List.foldl_append]; rfl
theorem bornTo_bd {D : Dag} (hD : Cgt.WF D) (l : List Nat) (hl : ∀ x, x ∈ l → x < D.length) : 0 ≤ bornTo D l ∧ bornTo D l ≤ D.length := by
  have main : ∀ (l : List Nat) (m : Int), 0 ≤ m → m ≤ D.length → (∀ x, x ∈ l → x < D.length) → 0 ≤ l.foldl (fun m x => max m ((Cgt.born (vl D x) : Int) + 1)) m ∧ l.foldl (fun m x => max m ((Cgt.born (vl D x) : Int) + 1)) m ≤ D.length := by
    intro l
    induction l with
    | nil => intro m h1 h2 _; exact ⟨h1, h2⟩
    | cons x l ih =>
      intro m h1 h2 hx
      have h3 := Cgt.born_vl_le hD x
      have h4 := hx x (by simp)
      exact ih _ (by show 0 ≤ max _ _; omega) (by show max _ _ ≤ _; omega) (fun y hy => hx y (by simp [hy]))
  exact main l 0 (by omega) (by omega) hl
theorem mem_take' {l : List Nat} {k : Nat} {D : Dag} (hl : ∀ x, x ∈ l → x < D.length) : ∀ x, x ∈ l.take k → x < D.length := fun x hx => hl x (List.mem_of_mem_take hx)
theorem sort_step {l : List Nat} {k : Nat} (h : k < l.length) : sortZ (toZ (l.take (k + 1))) = putZ (sortZ (toZ (l.take k))) (l[k] : Int) := by
  rw [List.take_succ_eq_append_getElem h, toZ, List.map_append]; exact sortZ_snoc _ _

theorem info_node : (Tryz.prog.info? 80).map (fun i => (i.zero, i.size, i.bytes)) = some (some (.agg #[.slice none 0 0, .slice none 0 0]), 2, 48) := by kernel_rfl
theorem two_src {w : World} {x y : Value} {e : TypeId} : ∀ j u, ([x, y] : List Value)[j]? = some u → (w.alloc (.cells #[x, y] e)).cell? ((⟨w.heap.size, 0, none⟩ : Addr).add j) = some u := by
  intro j u h
  match j with
  | 0 => simp at h; subst h; exact (World.cell?_alloc_at (w := w) #[x, y] e _ 0 rfl)
  | 1 => simp at h; subst h; exact (World.cell?_alloc_at (w := w) #[x, y] e _ 1 rfl)
  | n + 2 => simp at h
theorem alloc_cell {w : World} {a : Addr} {v : Value} (h : w.cell? a = some v) (o : Obj) : (w.alloc o).cell? a = some v := (World.cell?_alloc_lt w o a (lt_of_cell h)).trans h
theorem alloc_froz {w : World} {a : Addr} (o : Obj) (h : a.block < w.heap.size) : (w.alloc o).frozen? a = w.frozen? a := World.frozen?_alloc_old w o a (by omega)
theorem two_cell {a b : Option Addr} {n m c d : Nat} : ∀ u ∈ ([Value.slice a n c, Value.slice b m d] : List Value), u.oneCell' = true := by
  intro u h; simp at h; rcases h with rfl | rfl <;> rfl
theorem ints_dn {w : World} {v : Value} {l : List Int} (h : Ints w v l) (n : Nat) : Ints (w.drewN n) v l := h.ext (rd_ext ⟨n, rfl⟩)
theorem put_mid1 {wp w1 : World} {pb n : Nat} {vn vb L R : Value} {D : Dag} (hB : BookAt wp pb vn vb D) (hg : ((wp.drewN n).alloc (.cells #[L, R] 80)).grownBy w1 vn.ownBlock) :
    w1.cell? ⟨pb, 0, none⟩ = some vn ∧ w1.cell? ⟨pb, 1, none⟩ = some vb ∧ w1.frozen? ⟨pb, 0, none⟩ = false ∧ w1.frozen? ⟨pb, 1, none⟩ = false ∧ pb < w1.heap.size ∧
      w1.ownsRow 0 3 1 vb D.length ((D.mapIdx fun i _ => (Cgt.born (vl D i) : Int)).map (Value.int .i64)) := by
  have hlt : pb < (wp.drewN n).heap.size := hB.lt
  have hl1 : pb < ((wp.drewN n).alloc (.cells #[L, R] 80)).heap.size := by rw [World.size_alloc]; omega
  refine ⟨hg.cell (alloc_cell (w := wp.drewN n) hB.cell0 _) hB.apart1.symm, hg.cell (alloc_cell (w := wp.drewN n) hB.cell1 _) hB.apart1.symm, ?_, ?_, Nat.lt_of_lt_of_le hl1 hg.size, ?_⟩
  · exact (hg.frozen_far ⟨pb, 0, none⟩ hl1 hB.apart1.symm).trans ((alloc_froz (w := wp.drewN n) _ hlt).trans (hB.free 0))
  · exact (hg.frozen_far ⟨pb, 1, none⟩ hl1 hB.apart1.symm).trans ((alloc_froz (w := wp.drewN n) _ hlt).trans (hB.free 1))
  · refine World.ownsRow.kept ((own_drewN hB.born n).alloc _) hg ?_
    cases h : vb.ownBlock with
    | none => exact .inl rfl
    | some b => exact .inr (fun e => hB.apart3 b e.symm h)
theorem new_cell_set (w : World) (a : Addr) (u v : Value) (e : TypeId) : ((w.setCell a u).alloc (.cells #[v] e)).cell? ⟨w.heap.size, 0, none⟩ = some v := by
  have := new_cell (w.setCell a u) v e
  rw [World.size_setCell] at this; exact this
theorem put_mid2 {w1 w2 : World} {pb : Nat} {vn1 vb x : Value} (q2 : w1.cell? ⟨pb, 1, none⟩ = some vb) (q4 : w1.frozen? ⟨pb, 1, none⟩ = false) {u : Value} (q1 : w1.cell? ⟨pb, 0, none⟩ = some u) (ha : vb.ownBlock ≠ some pb) {e : TypeId} (hg : ((w1.setCell ⟨pb, 0, none⟩ vn1).alloc (.cells #[x] e)).grownBy w2 vb.ownBlock) :
    w2.cell? ⟨pb, 0, none⟩ = some vn1 ∧ w2.cell? ⟨pb, 1, none⟩ = some vb ∧ w2.frozen? ⟨pb, 1, none⟩ = false := by
  have c0 : (w1.setCell ⟨pb, 0, none⟩ vn1).cell? ⟨pb, 0, none⟩ = some vn1 := World.cell?_setCell_same _ _ _ q1
  have c1 : (w1.setCell ⟨pb, 0, none⟩ vn1).cell? ⟨pb, 1, none⟩ = some vb := (World.cell?_setCell_other _ _ _ _ (by simp)).trans q2
  refine ⟨hg.cell (alloc_cell c0 _) ha.symm, hg.cell (alloc_cell c1 _) ha.symm, ?_⟩
  have hl : pb < (w1.setCell ⟨pb, 0, none⟩ vn1).heap.size := lt_of_cell c0
  exact (hg.frozen_far ⟨pb, 1, none⟩ (by rw [World.size_alloc]; exact Nat.lt_succ_of_lt hl) ha.symm).trans ((alloc_froz _ hl).trans (by rw [World.frozen?_setCell]; exact q4))

theorem InS.of_lies {pb N M : Nat} {vn vb vn1 vb2 : Value} {b : Nat} (h1 : vn1.ownBlock = vn.ownBlock ∨ ∃ g, vn1.ownBlock = some g ∧ N ≤ g) (h2 : vb2.ownBlock = vb.ownBlock ∨ ∃ g, vb2.ownBlock = some g ∧ M ≤ g) (hMN : N ≤ M) (h : InS pb vn1 vb2 b) : InS pb vn vb b ∨ N ≤ b := by
  rcases h with h | h | h
  · exact .inl (.inl h)
  · rcases h1 with h1 | ⟨g, h1, h3⟩
    · exact .inl (.inr (.inl (h1 ▸ h)))
    · rw [h1] at h; injection h with h; exact .inr (by omega)
  · rcases h2 with h2 | ⟨g, h2, h3⟩
    · exact .inl (.inr (.inr (h2 ▸ h)))
    · rw [h2] at h; injection h with h; exact .inr (by omega)

theorem bornTo_le (D : Dag) (l : List Nat) (n : Nat) : bornTo D l ≤ n ↔ ∀ x, x ∈ l → Cgt.born (vl D x) < n := by
  have main : ∀ (l : List Nat) (m : Int), l.foldl (fun m x => max m ((Cgt.born (vl D x) : Int) + 1)) m ≤ n ↔ m ≤ n ∧ ∀ x, x ∈ l → Cgt.born (vl D x) < n := by
    intro l
    induction l with
    | nil => intro m; simp
    | cons x l ih =>
      intro m
      simp only [List.foldl_cons, ih, List.mem_cons]
      constructor
      · rintro ⟨h1, h2⟩
        exact ⟨by omega, fun y hy => by rcases hy with rfl | hy; omega; exact h2 y hy⟩
      · rintro ⟨h1, h2⟩
        have := h2 x (.inl rfl)
        exact ⟨by omega, fun y hy => h2 y (.inr hy)⟩
  have := main l 0
  unfold bornTo
  rw [this]; simp
theorem bornTo_born {D : Dag} (h : Cgt.WF D) {k : Nat} {l r l' r' : List Nat} (hd : D[k]? = some (l', r')) (hl : ∀ x, x ∈ l' ↔ x ∈ l) (hr : ∀ x, x ∈ r' ↔ x ∈ r) (h0 : 0 ≤ bornTo D (l ++ r)) :
    (Cgt.born (vl D k) : Int) = bornTo D (l ++ r) := by
  have e : ∀ n : Nat, Cgt.born (vl D k) ≤ n ↔ bornTo D (l ++ r) ≤ n := by
    intro n
    rw [Cgt.born_le, bornTo_le, Cgt.vl_l h hd, Cgt.vl_r h hd]
    simp only [List.forall_mem_map, hl, hr, List.mem_append]
    constructor
    · rintro ⟨a, b⟩ x (hx | hx)
      · exact a x hx
      · exact b x hx
    · intro a; exact ⟨fun x hx => a x (.inl hx), fun x hx => a x (.inr hx)⟩
  have h1 := (e (Cgt.born (vl D k))).1 (Nat.le_refl _)
  have h2 := (e (bornTo D (l ++ r)).toNat).2 (by omega)
  omega
set_option maxHeartbeats 1000000 in
theorem put_end {w wp w1 w2 : World} {pb n : Nat} {vn vb vn1 vb2 L R : Value} {D : Dag} {l r : List Nat} {xs : List Value} (hBw : BookAt w pb vn vb D) (hE : Ext w wp) (hown : wp.ownsRow 0 80 2 vn D.length xs)
    (hnd : ∀ i (h : i < D.length), ∃ L R, xs[2 * i]? = some L ∧ xs[2 * i + 1]? = some R ∧ Ints wp L (toZ (D[i]).1) ∧ Ints wp R (toZ (D[i]).2) ∧ (∀ b, L.ownBlock = some b → ¬ InS pb vn vb b ∧ b < wp.heap.size) ∧ (∀ b, R.ownBlock = some b → ¬ InS pb vn vb b ∧ b < wp.heap.size))
    (hg1 : ((wp.drewN n).alloc (.cells #[L, R] 80)).grownBy w1 vn.ownBlock) (ho1 : w1.ownsRow 0 80 2 vn1 (D.length + 1) (xs ++ [L, R])) (hl1 : Lies ((wp.drewN n).alloc (.cells #[L, R] 80)) vn vn1)
    (hg2 : ((w1.setCell ⟨pb, 0, none⟩ vn1).alloc (.cells #[.int .i64 (bornTo D (l ++ r))] 3)).grownBy w2 vb.ownBlock) (ho2 : w2.ownsRow 0 3 1 vb2 (D.length + 1) ((D.mapIdx fun i _ => (Cgt.born (vl D i) : Int)).map (Value.int .i64) ++ [.int .i64 (bornTo D (l ++ r))]))
    (hl2 : Lies ((w1.setCell ⟨pb, 0, none⟩ vn1).alloc (.cells #[.int .i64 (bornTo D (l ++ r))] 3)) vb vb2)
    (hL : Ints wp L (toZ (sortN l))) (hR : Ints wp R (toZ (sortN r))) (fL : ∀ b, L.ownBlock = some b → w.heap.size ≤ b ∧ b < wp.heap.size) (fR : ∀ b, R.ownBlock = some b → w.heap.size ≤ b ∧ b < wp.heap.size)
    (hl : ∀ x, x ∈ l → x < D.length) (hr : ∀ x, x ∈ r → x < D.length) (hN : ∀ j (h : j < D.length), j < D.length → D[j] ≠ (sortN l, sortN r)) (hsm : D.length + 1 ≤ 1000000) :
    PutPost pb vn vb D l r w (.returned (.int .i64 ((D.length : Nat) : Int))) (w2.setCell ⟨pb, 1, none⟩ vb2) := by
  have hB := hBw.ext hE
  have hpb := hBw.lt
  have hsz := hE.size
  have z1 := hg1.size
  have z2 := hg2.size
  rw [World.size_alloc] at z1 z2
  rw [World.size_setCell] at z2
  have z0 : (wp.drewN n).heap.size = wp.heap.size := rfl
  rw [z0] at z1
  have hvb := hBw.born.lt
  obtain ⟨xs0, hownw, _⟩ := hBw.nodes
  have hvn := hownw.lt
  have hv1 := ho1.lt
  have hv2 := ho2.lt
  have L1 : vn1.ownBlock = vn.ownBlock ∨ ∃ g, vn1.ownBlock = some g ∧ wp.heap.size + 1 ≤ g := by
    rcases hl1 with h | ⟨g, h, k⟩
    · exact .inl h
    · rw [World.size_alloc, z0] at k; exact .inr ⟨g, h, k⟩
  have L2 : vb2.ownBlock = vb.ownBlock ∨ ∃ g, vb2.ownBlock = some g ∧ w1.heap.size + 1 ≤ g := by
    rcases hl2 with h | ⟨g, h, k⟩
    · exact .inl h
    · rw [World.size_alloc, World.size_setCell] at k; exact .inr ⟨g, h, k⟩
  have hblk : ∀ k, k < wp.heap.size → k ≠ pb → vn.ownBlock ≠ some k → vb.ownBlock ≠ some k → (w2.setCell ⟨pb, 1, none⟩ vb2).heap[k]? = wp.heap[k]? := by
    intro k hk h1 h2 h3
    rw [heap_setCell_other _ _ _ _ h1, hg2.block k (by rw [World.size_alloc, World.size_setCell]; omega) (Ne.symm h3), (World.grownBy_alloc _ _ none).block k (by rw [World.size_setCell]; omega) (by simp), heap_setCell_other _ _ _ _ h1,
      hg1.block k (by rw [World.size_alloc, z0]; omega) (Ne.symm h2), (World.grownBy_alloc _ _ none).block k (by rw [z0]; omega) (by simp)]
    rfl
  obtain ⟨t, ht⟩ := hB.cells
  have hp1 : w1.heap[pb]? = some (.cells #[vn, vb] t (0, 0)) := by
    rw [hg1.block pb (by rw [World.size_alloc, z0]; omega) hB.apart1.symm, (World.grownBy_alloc _ _ none).block pb (by rw [z0]; omega) (by simp)]
    exact ht
  have hp2 : (w1.setCell ⟨pb, 0, none⟩ vn1).heap[pb]? = some (.cells #[vn1, vb] t (0, 0)) := heap_setCell_same _ _ _ _ _ _ hp1
  have hp3 : w2.heap[pb]? = some (.cells #[vn1, vb] t (0, 0)) := by
    rw [hg2.block pb (by rw [World.size_alloc, World.size_setCell]; omega) hB.apart2.symm, (World.grownBy_alloc _ _ none).block pb (by rw [World.size_setCell]; omega) (by simp)]
    exact hp2
  have hp4 : (w2.setCell ⟨pb, 1, none⟩ vb2).heap[pb]? = some (.cells #[vn1, vb2] t (0, 0)) := heap_setCell_same _ _ _ _ _ _ hp3
  have a1 : vn1.ownBlock ≠ some pb := by
    rcases L1 with h | ⟨g, h, k⟩
    · rw [h]; exact hB.apart1
    · rw [h]; intro e; injection e with e; omega
  have a2 : vb2.ownBlock ≠ some pb := by
    rcases L2 with h | ⟨g, h, k⟩
    · rw [h]; exact hB.apart2
    · rw [h]; intro e; injection e with e; omega
  have a3 : ∀ b, vn1.ownBlock = some b → vb.ownBlock ≠ some b := by
    intro b hb
    rcases L1 with h | ⟨g, h, k⟩
    · exact hB.apart3 b (h ▸ hb)
    · rw [h] at hb; injection hb with hb
      intro e; have := hvb b e; omega
  have a4 : ∀ b, vn1.ownBlock = some b → vb2.ownBlock ≠ some b := by
    intro b hb
    rcases L2 with h | ⟨g, h, k⟩
    · rw [h]; exact a3 b hb
    · rw [h]; intro e; injection e with e
      have := hv1 b hb; omega
  have hst : ∀ {v : Value} {k : List Int}, Ints wp v k → (∀ b, v.ownBlock = some b → ¬ InS pb vn vb b) → Ints (w2.setCell ⟨pb, 1, none⟩ vb2) v k := by
    intro v k h hb
    exact h.keep (fun b hk e => hblk b (h.blk hk e) (fun e' => hb b e (.inl e')) (fun e' => hb b e (.inr (.inl e'))) (fun e' => hb b e (.inr (.inr e'))))
  have hS : ∀ b, b < wp.heap.size → InS pb vn1 vb2 b → InS pb vn vb b := by
    intro b hb h
    rcases InS.of_lies L1 L2 (by omega) h with h | h
    · exact h
    · omega
  have hold : ∀ b, InS pb vn vb b → b < w.heap.size := by
    rintro b (rfl | h | h)
    · exact hpb
    · exact (hvn b h).2
    · exact (hvb b h).2
  have hg : Cgt.Good (D ++ [(sortN l, sortN r)]) := hB.good.snoc (fun k hk => hl k (sortN_mem.1 hk)) (fun k hk => hr k (sortN_mem.1 hk)) (sortN_asc l) (sortN_asc r) (by
    intro hm
    obtain ⟨j, hj, e⟩ := List.mem_iff_getElem.1 hm
    exact hN j hj hj e)
  have hlast : (D ++ [(sortN l, sortN r)])[D.length]? = some (sortN l, sortN r) := by simp
  have hb0 := bornTo_bd hB.good.wf (l ++ r) (fun x hx => by rcases List.mem_append.1 hx with h | h; exact hl x h; exact hr x h)
  have hbn : bornTo (D ++ [(sortN l, sortN r)]) (l ++ r) = bornTo D (l ++ r) := by
    have key : ∀ (k : List Nat) (m : Int), (∀ x, x ∈ k → x < D.length) → k.foldl (fun m x => max m ((Cgt.born (vl (D ++ [(sortN l, sortN r)]) x) : Int) + 1)) m = k.foldl (fun m x => max m ((Cgt.born (vl D x) : Int) + 1)) m := by
      intro k
      induction k with
      | nil => intro m _; rfl
      | cons x k ih =>
        intro m hx
        simp only [List.foldl_cons]
        rw [Cgt.vl_append hB.good.wf hg.wf x (hx x (by simp))]
        exact ih _ (fun y hy => hx y (by simp [hy]))
    exact key _ _ (fun x hx => by rcases List.mem_append.1 hx with h | h; exact hl x h; exact hr x h)
  have hrowF : (w2.setCell ⟨pb, 1, none⟩ vb2).ownsRow 0 80 2 vn1 (D.length + 1) (xs ++ [L, R]) := by
    have h1 := (ownsRow_setCell_other ho1 (a := ⟨pb, 0, none⟩) a1 vn1).alloc (.cells #[.int .i64 (bornTo D (l ++ r))] 3)
    have h2 := World.ownsRow.kept h1 hg2 (by
      cases h : vn1.ownBlock with
      | none => exact .inl rfl
      | some b => exact .inr (fun e => a3 b h e.symm))
    exact ownsRow_setCell_other h2 (a := ⟨pb, 1, none⟩) a1 vb2
  refine ⟨vn1, vb2, D ++ [(sortN l, sortN r)], D.length, rfl, ?_, ?_, ?_, ?_, hlast, .inr rfl⟩
  rotate_right
  · rintro b ⟨i, g, cap, v, hi, he, hc, hv⟩
    have hle : (D ++ [(sortN l, sortN r)]).length = D.length + 1 := by simp
    rw [hle] at hi he
    subst he
    have hxl := hown.1
    have hc' : (xs ++ [L, R])[i * 2]? = some v ∨ (xs ++ [L, R])[i * 2 + 1]? = some v := by
      rcases hc with hc | hc
      · exact .inl ((hrowF.cellAt (i * 2) (by omega)).symm.trans hc)
      · exact .inr ((hrowF.cellAt (i * 2 + 1) (by omega)).symm.trans hc)
    by_cases hlt : i < D.length
    · obtain ⟨gn, capn, he, _, _, hcn⟩ := own_at hown (by omega)
      have hgn : gn < w.heap.size := (hvn gn (by rw [he]; rfl)).2
      refine .inl ⟨i, gn, capn, v, hlt, he, ?_, hv⟩
      rcases hc' with hc | hc
      · rw [List.getElem?_append_left (by omega)] at hc
        exact .inl (by rw [← hE.cell (p := ⟨gn, i * 2, none⟩) hgn, hcn _ (by omega)]; exact hc)
      · rw [List.getElem?_append_left (by omega)] at hc
        exact .inr (by rw [← hE.cell (p := ⟨gn, i * 2 + 1, none⟩) hgn, hcn _ (by omega)]; exact hc)
    · have hi' : i = D.length := by omega
      subst hi'
      rcases hc' with hc | hc
      · rw [List.getElem?_append_right (by omega), show D.length * 2 - xs.length = 0 by omega] at hc
        simp at hc; subst hc; exact .inr (fL b hv).1
      · rw [List.getElem?_append_right (by omega), show D.length * 2 + 1 - xs.length = 1 by omega] at hc
        simp at hc; subst hc; exact .inr (fR b hv).1
  · refine ⟨hg, by simp; omega, ⟨t, hp4⟩, ?_, ⟨xs ++ [L, R], ?_, ?_⟩, a1, a2, a4⟩
    · have e : ((D ++ [(sortN l, sortN r)]).mapIdx fun i _ => (Cgt.born (vl (D ++ [(sortN l, sortN r)]) i) : Int)) = (D.mapIdx fun i _ => (Cgt.born (vl D i) : Int)) ++ [bornTo D (l ++ r)] := by
        rw [List.mapIdx_append]
        congr 1
        · refine List.ext_getElem (by simp) fun i h1 h2 => ?_
          simp only [List.getElem_mapIdx]
          rw [Cgt.vl_append hB.good.wf hg.wf i (by simpa using h2)]
        · simp only [List.mapIdx_cons, List.mapIdx_nil, Nat.zero_add]
          rw [bornTo_born hg.wf hlast (l := l) (r := r) (fun _ => sortN_mem) (fun _ => sortN_mem) (by rw [hbn]; exact hb0.1), hbn]
      rw [e, List.map_append]
      have := ownsRow_setCell_other ho2 (a := ⟨pb, 1, none⟩) a2 vb2
      simpa using this
    · have h1 := (ownsRow_setCell_other ho1 (a := ⟨pb, 0, none⟩) a1 vn1).alloc (.cells #[.int .i64 (bornTo D (l ++ r))] 3)
      have h2 := World.ownsRow.kept h1 hg2 (by
        cases h : vn1.ownBlock with
        | none => exact .inl rfl
        | some b => exact .inr (fun e => a3 b h e.symm))
      have := ownsRow_setCell_other h2 (a := ⟨pb, 1, none⟩) a1 vb2
      simpa using this
    · have hxl := hown.1
      intro i hi
      by_cases hlt : i < D.length
      · obtain ⟨L', R', e1, e2, e3, e4, e5, e6⟩ := hnd i hlt
        refine ⟨L', R', Cgt.getElem?_append_some e1, Cgt.getElem?_append_some e2, ?_, ?_, ?_, ?_⟩
        · rw [List.getElem_append_left hlt]; exact hst e3 (fun b hb => (e5 b hb).1)
        · rw [List.getElem_append_left hlt]; exact hst e4 (fun b hb => (e6 b hb).1)
        · intro b hb; exact ⟨fun h => (e5 b hb).1 (hS b (e5 b hb).2 h), by rw [World.size_setCell]; have := (e5 b hb).2; omega⟩
        · intro b hb; exact ⟨fun h => (e6 b hb).1 (hS b (e6 b hb).2 h), by rw [World.size_setCell]; have := (e6 b hb).2; omega⟩
      · have hi' : i = D.length := by simp at hi; omega
        subst hi'
        refine ⟨L, R, ?_, ?_, ?_, ?_, ?_, ?_⟩
        · rw [List.getElem?_append_right (by omega), show 2 * D.length - xs.length = 0 by omega]; rfl
        · rw [List.getElem?_append_right (by omega), show 2 * D.length + 1 - xs.length = 1 by omega]; rfl
        · simp only [List.getElem_concat_length]; exact hst hL (fun b hb h => by have := hold b h; have := fL b hb; omega)
        · simp only [List.getElem_concat_length]; exact hst hR (fun b hb h => by have := hold b h; have := fR b hb; omega)
        · intro b hb; exact ⟨fun h => by have := hold b (hS b (fL b hb).2 h); have := fL b hb; omega, by rw [World.size_setCell]; have := (fL b hb).2; omega⟩
        · intro b hb; exact ⟨fun h => by have := hold b (hS b (fR b hb).2 h); have := fR b hb; omega, by rw [World.size_setCell]; have := (fR b hb).2; omega⟩
  · refine ⟨?_, ?_, ?_, by rw [World.size_setCell]; omega, fun k hk hf => ?_⟩
    · exact (hg2.os.trans hg1.os).trans hE.os
    · exact (hg2.tape.trans hg1.tape).trans hE.tape
    · exact (hg2.output.trans hg1.output).trans hE.output
    · rw [hblk k (by omega) (fun e => hf (.inl e)) (fun e => hf (.inr (.inl e))) (fun e => hf (.inr (.inr e)))]
      exact hE.block k hk
  · intro b h
    rcases InS.of_lies L1 L2 (by omega) h with h | h
    · exact .inl h
    · exact .inr (by omega)

theorem put_past {D : Dag} {k : Nat} {nd : Nd} (hk : k < D.length) (h : Hid (∀ j (h : j < D.length), j < k → D[j] ≠ nd)) (hne : D[k] ≠ nd) : Hid (∀ j (h : j < D.length), j < k + 1 → D[j] ≠ nd) := by
  intro j hj hjk
  by_cases e : j = k
  · subst e; exact hne
  · exact h j hj (by omega)
theorem put_birth {D : Dag} {l r : List Nat} (hD : Cgt.WF D) {k : Nat} (hk : k < D.length) (he : D[k] = (sortN l, sortN r)) (hl : ∀ x, x ∈ l → x < D.length) (hr : ∀ x, x ∈ r → x < D.length) : (Cgt.born (vl D k) : Int) = bornTo D (l ++ r) :=
  bornTo_born hD (l' := sortN l) (r' := sortN r) (by rw [← he]; exact List.getElem?_eq_getElem hk) (fun _ => sortN_mem) (fun _ => sortN_mem)
    (bornTo_bd hD _ (fun x hx => by rcases List.mem_append.1 hx with h | h; exact hl x h; exact hr x h)).1

set_option maxHeartbeats 2000000 in
set_option maxRecDepth 100000 in
theorem put_any (pb : Nat) (vn vb : Value) (D : Dag) (v u : Value) (l r : List Nat) (w : World) (hB : BookAt w pb vn vb D) (hv : Ints w v (toZ l)) (hu : Ints w u (toZ r))
    (hl : ∀ x, x ∈ l → x < D.length) (hr : ∀ x, x ∈ r → x < D.length) (hls : l.length ≤ 1000000) (hrs : r.length ≤ 1000000) (hroom : D.length + 1 ≤ 1000000) :
    Calls Tryz.prog 51 #[.pointer (some ⟨pb, 0, none⟩), v, u] w (PutPost pb vn vb D l r w) := by
  obtain ⟨a, cap, rfl, hlc, hcap, hc⟩ := hv
  obtain ⟨a', cap', rfl, hlc', hcap', hc'⟩ := hu
  rw [toZ_len] at hlc hcap hc hlc' hcap' hc'
  rw [toZ_len, toZ_len]
  go_enter Tryz.func51, Tryz.ntmps51
  go_wp2
  go_loopw [7, 9, 10] (fun o bn i wr => ∃ k : Nat, k ≤ l.length ∧ i = .int .i64 k ∧ bn = .int .i64 (bornTo D (l.take k)) ∧ Ints wr o (sortZ (toZ (l.take k))) ∧ Ext w wr ∧ Hid (∀ b, o.ownBlock = some b → w.heap.size ≤ b ∧ b < wr.heap.size) ∧ w.heap.size + 2 ≤ wr.heap.size) (fun _ _ i _ => l.length - (intOf i).toNat)
  case atStart => exact ⟨0, Nat.zero_le _, rfl, rfl, Ints.nil _ _ _, by go_grown, fun b hb => by simp [Value.ownBlock] at hb; subst hb; exact ⟨Nat.le_refl _, by simp; try omega⟩, by simp⟩
  case round =>
    obtain ⟨k, hk, rfl, rfl, hI, hext, HF, HS0⟩ := hrel
    by_cases hlt : k < l.length
    · obtain ⟨b, off, rfl, hcell⟩ := hc (by omega)
      have hck := hcell k hlt
      have hck1 := (hext.cell (lt_of_cell hck)).trans hck
      have hxk := hl (l[k]) (List.getElem_mem hlt)
      rw [toZ_zat hlt] at hck1
      obtain ⟨gb, capb, rfl, hbl, hbc, hbcell⟩ := hB.bornCell hxk
      have hbc1 := (hext.cell (lt_of_cell hbcell)).trans hbcell
      have hp1 := (hext.cell (lt_of_cell hB.cell1)).trans hB.cell1
      have hlen : (sortZ (toZ (l.take k))).length ≤ 1000000000 := by
        have := sortZ_len (toZ (l.take k)); rw [toZ_len] at this; have := List.length_take_le k l; omega
      clear hcell hc hck hbcell
      go_wp2_with (go_at_call 72; refine (l1Put_any _ _ _ _ hI hlen).mono ?_; rintro e w1 ⟨v1, rfl, hI1, hx1, hn1⟩)
      have c1 := (hx1.cell (lt_of_cell hck1)).trans hck1
      have c2 := (hx1.cell (lt_of_cell hbc1)).trans hbc1
      have c3 := (hx1.cell (lt_of_cell hp1)).trans hp1
      have hbn := bornTo_bd hB.good.wf (l.take k) (mem_take' hl)
      have hbx := Cgt.born_vl_le hB.good.wf l[k]
      have hds := hB.small
      have HS := Lib.hid (sort_step hlt)
      have HN := Lib.hid (bornTo_snoc D hlt)
      have HX := Lib.hid (new_trans HF.out hext.size hx1.size hn1)
      have hE1 := ext_trans hext hx1
      have hsz1 := hx1.size
      clear hck1 hbc1 hp1 HF hn1 hx1 hext hI
      go_wp2
      go_quiet ((go_at_call 73; first | exact Calls.quiet_of (l1Most_any _ _ _) | exact quiet_add (l1Most_any _ _ _)))
      go_wp2
      go_roundw
      case rel => exact ⟨k + 1, by omega, by go_num, by rw [HN.out], by rw [HS.out]; exact ints_dn hI1 _, ext_drewN hE1 _, HX.out, by have := hsz1; simp; omega⟩
      case measure => simp [intOf]; omega
    · have hkl : k = l.length := by omega
      subst hkl
      rw [List.take_length] at hI ⊢
      obtain ⟨wo, rfl⟩ : ∃ wo : World, wo = wr := ⟨_, rfl⟩
      have hpo := hext.size
      go_wp2
      go_loopw [8, 9, 11] (fun o bn i wr => ∃ k : Nat, k ≤ r.length ∧ i = .int .i64 k ∧ bn = .int .i64 (bornTo D (l ++ r.take k)) ∧ Ints wr o (sortZ (toZ (r.take k))) ∧ Ext wo wr ∧ Hid (∀ b, o.ownBlock = some b → w.heap.size ≤ b ∧ b < wr.heap.size)) (fun _ _ i _ => r.length - (intOf i).toNat)
      case atStart => exact ⟨0, Nat.zero_le _, rfl, by simp, Ints.nil _ _ _, Below.refl _ _, fun b hb => by simp [Value.ownBlock] at hb; subst hb; exact ⟨by omega, by have := HS0; omega⟩⟩
      case round =>
        obtain ⟨k, hk, rfl, rfl, hI2, hext2, HF2⟩ := hrel
        by_cases hlt : k < r.length
        · obtain ⟨b, off, rfl, hcell⟩ := hc' (by omega)
          have hck := hcell k hlt
          have hE2 := ext_trans hext hext2
          have hck1 := (hE2.cell (lt_of_cell hck)).trans hck
          have hxk := hr (r[k]) (List.getElem_mem hlt)
          rw [toZ_zat hlt] at hck1
          obtain ⟨gb, capb, rfl, hbl, hbc, hbcell⟩ := hB.bornCell hxk
          have hbc1 := (hE2.cell (lt_of_cell hbcell)).trans hbcell
          have hp1 := (hE2.cell (lt_of_cell hB.cell1)).trans hB.cell1
          have hlen : (sortZ (toZ (r.take k))).length ≤ 1000000000 := by
            have := sortZ_len (toZ (r.take k)); rw [toZ_len] at this; have := List.length_take_le k r; omega
          clear hcell hc' hck hbcell
          go_wp2_with (go_at_call 72; refine (l1Put_any _ _ _ _ hI2 hlen).mono ?_; rintro e w1 ⟨v1, rfl, hI1, hx1, hn1⟩)
          have c1 := (hx1.cell (lt_of_cell hck1)).trans hck1
          have c2 := (hx1.cell (lt_of_cell hbc1)).trans hbc1
          have c3 := (hx1.cell (lt_of_cell hp1)).trans hp1
          have hbn := bornTo_bd hB.good.wf (l ++ r.take k) (by intro x hx; rcases List.mem_append.1 hx with h | h; exact hl x h; exact hr x (List.mem_of_mem_take h))
          have hbx := Cgt.born_vl_le hB.good.wf r[k]
          have hds := hB.small
          have HS := Lib.hid (sort_step hlt)
          have HN := Lib.hid (bornTo_snoc2 D l hlt)
          have HX := Lib.hid (new_trans HF2.out (by have := hE2.size; omega) hx1.size hn1)
          have hE1 := ext_trans hext2 hx1
          clear hck1 hbc1 hp1 HF2 hn1 hx1 hext2 hI2 hE2
          go_wp2
          go_quiet ((go_at_call 73; first | exact Calls.quiet_of (l1Most_any _ _ _) | exact quiet_add (l1Most_any _ _ _)))
          go_wp2
          go_roundw
          case rel => exact ⟨k + 1, by omega, by go_num, by rw [HN.out], by rw [HS.out]; exact ints_dn hI1 _, ext_drewN hE1 _, HX.out⟩
          case measure => simp [intOf]; omega
        · have hkr : k = r.length := by omega
          subst hkr
          rw [List.take_length] at hI2 ⊢
          have hE := ext_trans hext hext2
          have hB2 := hB.ext hE
          have hI1 := hI.ext hext2
          obtain ⟨wp, rfl⟩ : ∃ wp : World, wp = wr := ⟨_, rfl⟩
          go_wp2
          go_loopw [12] (fun i wr => ∃ k : Nat, k ≤ D.length ∧ i = .int .i64 k ∧ RD wp wr ∧ Hid (∀ j (h : j < D.length), j < k → D[j] ≠ (sortN l, sortN r))) (fun i _ => D.length - (intOf i).toNat)
          case atStart => exact ⟨0, Nat.zero_le _, rfl, rd0 _, fun j _ h => absurd h (by omega)⟩
          case round =>
            obtain ⟨k, hk, rfl, ⟨n, rfl⟩, HN⟩ := hrel
            have hp0 := hB2.cell0
            have hp1 := hB2.cell1
            have hds := hB.small
            by_cases hlt : k < D.length
            · obtain ⟨gb, capb, rfl, hbl, hbc, hbcell⟩ := hB2.bornCell hlt
              obtain ⟨gn, capn, L, R, rfl, hnl, hnc, hL, hR, hIL, hIR⟩ := hB2.nodeCells hlt
              by_cases e1 : (Cgt.born (vl D k) : Int) = bornTo D (l ++ r)
              · have hb1 : ((Cgt.born (vl D k) : Int) == bornTo D (l ++ r)) = true := by simp [e1]
                clear e1 hc hc' hI hext hext2
                cases hs1 : same2 (toZ (D[k]).1) (sortZ (toZ l)) with
                | false =>
                  have HS1 := Lib.hid hs1
                  go_wp2_with (first | (go_at_call 74; refine (l1Same_any _ _ _ _ _ (by with_reducible first | exact ints_dn hIL _ | exact ints_dn hIR _) (by with_reducible first | exact ints_dn hI1 _ | exact ints_dn hI2 _)).mono ?_; rintro e w1 ⟨he, n1, rfl⟩; rw [hs1] at he; subst he))
                  go_roundw
                  case rel => exact ⟨k + 1, by omega, by go_num, ⟨_, rfl⟩, put_past hlt HN (fun he => by have h := HS1.out; rw [he, ← sortN_toZ] at h; simp [same2] at h)⟩
                  case measure => simp [intOf]; omega
                | true =>
                  cases hs2 : same2 (toZ (D[k]).2) (sortZ (toZ r)) with
                  | false =>
                    have HS2 := Lib.hid hs2
                    go_wp2_with (first | (go_at_call 74; refine (l1Same_any _ _ _ _ _ (by with_reducible first | exact ints_dn hIL _ | exact ints_dn hIR _) (by with_reducible first | exact ints_dn hI1 _ | exact ints_dn hI2 _)).mono ?_; rintro e w1 ⟨he, n1, rfl⟩; (first | rw [hs1] at he | rw [hs2] at he); subst he))
                    go_roundw
                    case rel => exact ⟨k + 1, by omega, by go_num, ⟨_, rfl⟩, put_past hlt HN (fun he => by have h := HS2.out; rw [he, ← sortN_toZ] at h; simp [same2] at h)⟩
                    case measure => simp [intOf]; omega
                  | true =>
                    have HS1 := Lib.hid hs1
                    have HS2 := Lib.hid hs2
                    go_wp2_with (first | (go_at_call 74; refine (l1Same_any _ _ _ _ _ (by with_reducible first | exact ints_dn hIL _ | exact ints_dn hIR _) (by with_reducible first | exact ints_dn hI1 _ | exact ints_dn hI2 _)).mono ?_; rintro e w1 ⟨he, n1, rfl⟩; (first | rw [hs1] at he | rw [hs2] at he); subst he))
                    go_ret
                    have e1 : (D[k]).1 = sortN l := by have h := HS1.out; rw [sortN_toZ] at h; exact toZ_inj (of_decide_eq_true h)
                    have e2 : (D[k]).2 = sortN r := by have h := HS2.out; rw [sortN_toZ] at h; exact toZ_inj (of_decide_eq_true h)
                    exact ⟨_, _, D, k, rfl, hB2.ext (rd_ext ⟨_, rfl⟩), keep_ext (ext_drewN hE _), fun b h => .inl h, fun b h => .inl (ListBlk.back hB (ext_drewN hE _) h), by rw [List.getElem?_eq_getElem hlt, ← e1, ← e2], .inl rfl⟩
              · have hb1 : ((Cgt.born (vl D k) : Int) == bornTo D (l ++ r)) = false := by simp [e1]
                have E1 := Lib.hid e1
                clear e1
                go_wp2
                go_roundw
                case rel => exact ⟨k + 1, by omega, by go_num, ⟨_, rfl⟩, put_past hlt HN (fun he => E1.out (put_birth hB.good.wf hlt he hl hr))⟩
                case measure => simp [intOf]; omega
            · have hkd : k = D.length := by omega
              subst hkd
              obtain ⟨xs, hown, hnodes⟩ := hB2.nodes
              obtain ⟨an, cn, rfl, hn1, hn2⟩ := own_len hown
              obtain ⟨ab, cb, rfl, hb1, hb2⟩ := own_len hB2.born
              have hI1' := Lib.hid hI1
              have hwo := hext2.size
              have hI2' := Lib.hid hI2
              have hB' := Lib.hid hB
              have hB2' := Lib.hid hB2
              have hnodes' := Lib.hid hnodes
              obtain ⟨al, cl, rfl, hl1, hl2, hl3⟩ := hI1
              obtain ⟨ar, cr, rfl, hr1, hr2, hr3⟩ := hI2
              have hfr := hB2.free
              have hlt := hB2.lt
              have ha1 := hB2.apart1
              obtain ⟨iN, hiN, zN0, zN1, zN2⟩ := info_parts info_node
              obtain ⟨i0, hi, hz0, hz1, hz2⟩ := info_parts info_int
              clear hc hc' hI hext hext2 hl3 hr3 hB hB2 hnodes
              have hown0 := (own_drewN hown n).alloc (.cells #[.slice al (sortZ (toZ l)).length cl, .slice ar (sortZ (toZ r)).length cr] 80)
              have hbk := hB2'.out.born
              have HB := Lib.hid (show (wp.drewN n).ownsRow 0 3 1 (.slice ab D.length cb) D.length _ from hbk)
              have HO := Lib.hid hown0
              have HP0 := Lib.hid (alloc_cell (w := wp.drewN n) hp0)
              have HP1 := Lib.hid (alloc_cell (w := wp.drewN n) hp1)
              have HFR := Lib.hid (fun o X => (alloc_froz (w := wp.drewN n) (a := ⟨pb, o, none⟩) X hlt).trans (hfr o))
              have ha2 := hB2'.out.apart2
              have ha3 := hB2'.out.apart3
              have hown' := hown
              clear hown0 hbk hfr
              go_wp2_with (first
                | (at_builtin; refine app_list rfl (.tmp 112) (.tmp 116) 26 rfl 0 80 iN (.agg #[.slice none 0 0, .slice none 0 0]) 2 48 Tryz.underlying26 hiN zN0 zN1 zN2 rfl (by decide) (.slice an D.length cn) D.length xs rfl HO.out (some ⟨wp.heap.size, 0, none⟩) 1 _ [.slice al (sortZ (toZ l)).length cl, .slice ar (sortZ (toZ r)).length cr] rfl rfl (.inr ⟨_, rfl, two_src (w := wp.drewN n)⟩) two_cell (by unfold maxLen; omega) (by omega) (Nat.zero_le _) ?_
                   intro v1 w1 ho1 hg1 hl1
                   obtain ⟨q1, q2, q3, q4, q5, q6⟩ := put_mid1 hB2'.out hg1
                   obtain ⟨a1, c1, rfl, g1, g2⟩ := own_len ho1)
                | (at_builtin; refine app_list rfl (.tmp 124) (.tmp 126) 22 rfl 0 3 i0 (.int .i64 0) 1 8 Tryz.underlying22 hi hz0 hz1 hz2 rfl (by decide) (.slice ab D.length cb) D.length ((D.mapIdx fun i _ => (Cgt.born (vl D i) : Int)).map (Value.int .i64)) rfl ((ownsRow_setCell_other q6 ha2 _).alloc _) _ 1 _ [.int .i64 (bornTo D (l ++ r))] rfl rfl (.inr ⟨_, rfl, one_src (new_cell_set _ _ _ _ _)⟩) one_cell (by unfold maxLen; omega) (by omega) (Nat.zero_le _) ?_
                   intro v2 w2 ho2 hg2 hl2
                   obtain ⟨r1, r2, r3⟩ := put_mid2 q2 q4 q1 ha2 hg2
                   obtain ⟨a2, c2, rfl, g3, g4⟩ := own_len ho2))
              go_ret
              exact put_end hB'.out hE hown' hnodes'.out hg1 ho1 hl1 hg2 ho2 hl2 (by rw [← sortN_toZ]; exact hI1'.out) (by rw [← sortN_toZ]; exact hI2'.out) (fun b hb => ⟨(HF.out b hb).1, Nat.lt_of_lt_of_le (HF.out b hb).2 hwo⟩) HF2.out hl hr HN.out hroom

end Go.Proofs.YtjkdanmpihildaaGreatDoor
