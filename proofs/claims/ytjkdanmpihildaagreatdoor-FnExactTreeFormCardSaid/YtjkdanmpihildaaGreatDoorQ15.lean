/-
  Contract of the reference's l3NodeAhead.
  Memory: rows of nodes.
  Memory of the book's form: the places, what is laid out, the list of a stage.
-/
import Derived.Test.YtjkdanmpihildaaGreatDoorQ14
namespace Go.Proofs.YtjkdanmpihildaaGreatDoor
open Go.RowKit
open Cgt (Dag Nd vl nc cl)

theorem clZ_toZ : ∀ l m : List Nat, clZ (toZ l) (toZ m) = cl l m
  | [], [] => rfl
  | [], _ :: _ => rfl
  | _ :: _, [] => rfl
  | a :: l, b :: m => by
    have ih := clZ_toZ l m
    simp only [toZ, List.map_cons] at ih ⊢
    simp only [clZ, cl, ih]
    by_cases h : a < b
    · rw [if_pos h, if_pos (by omega)]
    · rw [if_neg h, if_neg (by omega)]
      by_cases k : b < a
      · rw [if_pos k, if_pos (by omega)]
      · rw [if_neg k, if_neg (by omega)]

theorem nodeAhead_any (v1 v2 u1 u2 : Value) (a b : Nd) (w : World) (h1 : Ints w v1 (toZ a.1)) (h2 : Ints w v2 (toZ a.2)) (k1 : Ints w u1 (toZ b.1)) (k2 : Ints w u2 (toZ b.2)) :
    Calls Tryz.prog 70 #[.agg #[v1, v2], .agg #[u1, u2]] w fun e w' => e = .returned (.bool (decide (nc a b < 0))) ∧ Ext w w' := by
  obtain ⟨_, _, rfl, -⟩ := id h1
  obtain ⟨_, _, rfl, -⟩ := id h2
  obtain ⟨_, _, rfl, -⟩ := id k1
  obtain ⟨_, _, rfl, -⟩ := id k2
  have hcl := clZ_toZ a.1 b.1
  have hcr := clZ_toZ a.2 b.2
  have hn : nc a b = if cl a.1 b.1 ≠ 0 then cl a.1 b.1 else cl a.2 b.2 := rfl
  go_enter Tryz.func70, Tryz.ntmps70
  by_cases h0 : cl a.1 b.1 = 0
  · have hN : Hid (nc a b = cl a.2 b.2) := by rw [Hid, hn, if_neg (by simpa using h0)]
    clear hn
    go_wp2_with (first
      | (go_at_call 105; refine (l3List_any _ _ (toZ a.1) (toZ b.1) _ (by refine h1.ext ?_; first | (go_grown; done) | (refine ext_drewN ?_ _; go_grown; done)) (by refine k1.ext ?_; first | (go_grown; done) | (refine ext_drewN ?_ _; go_grown; done))).mono ?_; rintro e w1 ⟨rfl, n1, rfl⟩; rw [hcl])
      | (go_at_call 105; refine (l3List_any _ _ (toZ a.2) (toZ b.2) _ (by refine h2.ext ?_; first | (go_grown; done) | (refine ext_drewN ?_ _; go_grown; done)) (by refine k2.ext ?_; first | (go_grown; done) | (refine ext_drewN ?_ _; go_grown; done))).mono ?_; rintro e w1 ⟨rfl, n2, rfl⟩; rw [hcr]))
    go_ret
    refine ⟨by rw [hN.out]; rfl, ?_⟩
    first | (refine ext_drewN ?_ _; go_grown; done) | (refine ext_drewN ?_ _; refine ext_drewN ?_ _; go_grown; done)
  · have hN : Hid (nc a b = cl a.1 b.1) := by rw [Hid, hn, if_pos h0]
    have hb : (cl a.1 b.1 == 0) = false := by simpa using h0
    clear hn
    go_wp2_with (go_at_call 105; refine (l3List_any _ _ (toZ a.1) (toZ b.1) _ (by refine h1.ext ?_; first | (go_grown; done) | (refine ext_drewN ?_ _; go_grown; done)) (by refine k1.ext ?_; first | (go_grown; done) | (refine ext_drewN ?_ _; go_grown; done))).mono ?_; rintro e w1 ⟨rfl, n1, rfl⟩; rw [hcl])
    go_ret
    refine ⟨by rw [hN.out]; rfl, ?_⟩
    refine ext_drewN ?_ _; go_grown

end Go.Proofs.YtjkdanmpihildaaGreatDoor

namespace Go.Proofs.YtjkdanmpihildaaGreatDoor
open Go.RowKit
open Cgt (Dag Nd vl)

def NodeRow (w : World) (xs : List Value) (F : Dag) (base : Nat) (K : Nat → Prop) : Prop :=
  ∀ i (h : i < F.length), ∃ L R, xs[i * 2]? = some L ∧ xs[i * 2 + 1]? = some R ∧ Ints w L (toZ (F[i]).1) ∧ Ints w R (toZ (F[i]).2) ∧
    (∀ b, L.ownBlock = some b → base ≤ b ∧ b < w.heap.size ∧ ¬ K b) ∧ (∀ b, R.ownBlock = some b → base ≤ b ∧ b < w.heap.size ∧ ¬ K b)

theorem NodeRow.nil (w : World) (base : Nat) (K : Nat → Prop) : NodeRow w [] [] base K := fun i h => absurd h (by simp)
theorem ints_keep {w w' : World} {G : Nat → Prop} {v : Value} {l : List Int} (h : Ints w v l) (hk : Keep G w w') (hn : ∀ b, v.ownBlock = some b → ¬ G b) : Ints w' v l :=
  h.keep fun b hl hb => hk.block b (h.blk hl hb) (hn b hb)
theorem NodeRow.keep {w w' : World} {xs : List Value} {F : Dag} {base : Nat} {K K' G : Nat → Prop} (h : NodeRow w xs F base K) (hk : Keep G w w') (hG : ∀ b, G b → K b) (hK : ∀ b, K' b → K b ∨ w.heap.size ≤ b) : NodeRow w' xs F base K' := by
  intro i hi
  obtain ⟨L, R, h1, h2, h3, h4, h5, h6⟩ := h i hi
  have hz := hk.size
  exact ⟨L, R, h1, h2, ints_keep h3 hk (fun b hb g => (h5 b hb).2.2 (hG b g)), ints_keep h4 hk (fun b hb g => (h6 b hb).2.2 (hG b g)),
    fun b hb => ⟨(h5 b hb).1, by have := (h5 b hb).2.1; omega, fun k => by rcases hK b k with k | k; exact (h5 b hb).2.2 k; have := (h5 b hb).2.1; omega⟩,
    fun b hb => ⟨(h6 b hb).1, by have := (h6 b hb).2.1; omega, fun k => by rcases hK b k with k | k; exact (h6 b hb).2.2 k; have := (h6 b hb).2.1; omega⟩⟩
theorem NodeRow.ext {w w' : World} {xs : List Value} {F : Dag} {base : Nat} {K : Nat → Prop} (h : NodeRow w xs F base K) (hx : Ext w w') : NodeRow w' xs F base K :=
  h.keep (keep_ext (F := fun _ => False) hx) (fun _ g => g.elim) (fun _ k => .inl k)

theorem getElem?_pairs {xs : List Value} {n : Nat} (hx : xs.length = n * 2) {L R : Value} {i : Nat} (hi : i ≤ n) (j : Nat) :
    (xs.take (i * 2) ++ ([L, R] ++ xs.drop (i * 2)))[j]? = if j < i * 2 then xs[j]? else if j = i * 2 then some L else if j = i * 2 + 1 then some R else xs[j - 2]? := by
  have hl : (xs.take (i * 2)).length = i * 2 := by rw [List.length_take]; omega
  by_cases h1 : j < i * 2
  · rw [if_pos h1, List.getElem?_append_left (by omega), List.getElem?_take, if_pos h1]
  · rw [if_neg h1, List.getElem?_append_right (by omega), hl]
    by_cases h2 : j = i * 2
    · rw [if_pos h2, show j - i * 2 = 0 by omega]; rfl
    · rw [if_neg h2]
      by_cases h3 : j = i * 2 + 1
      · rw [if_pos h3, show j - i * 2 = 1 by omega]; rfl
      · rw [if_neg h3, List.getElem?_append_right (by simp; omega), List.getElem?_drop]
        congr 1; simp; omega
theorem NodeRow.insert {w : World} {xs : List Value} {F : Dag} {base : Nat} {K : Nat → Prop} (h : NodeRow w xs F base K) (hx : xs.length = F.length * 2) {nd : Nd} {L R : Value} {i : Nat} (hi : i ≤ F.length)
    (hL : Ints w L (toZ nd.1)) (hR : Ints w R (toZ nd.2)) (bL : ∀ b, L.ownBlock = some b → base ≤ b ∧ b < w.heap.size ∧ ¬ K b) (bR : ∀ b, R.ownBlock = some b → base ≤ b ∧ b < w.heap.size ∧ ¬ K b) :
    NodeRow w (xs.take (i * 2) ++ ([L, R] ++ xs.drop (i * 2))) (F.take i ++ nd :: F.drop i) base K := by
  intro j hj
  have hlt : (F.take i).length = i := by rw [List.length_take]; omega
  have hjl : j < F.length + 1 := by simp at hj; omega
  rcases Nat.lt_trichotomy j i with c | c | c
  · obtain ⟨L', R', h1, h2, h3⟩ := h j (by omega)
    refine ⟨L', R', ?_, ?_, ?_⟩
    · rw [getElem?_pairs hx hi, if_pos (by omega)]; exact h1
    · rw [getElem?_pairs hx hi, if_pos (by omega)]; exact h2
    · rw [List.getElem_append_left (by omega), List.getElem_take]; exact h3
  · subst c
    refine ⟨L, R, ?_, ?_, ?_⟩
    · rw [getElem?_pairs hx hi, if_neg (by omega), if_pos rfl]
    · rw [getElem?_pairs hx hi, if_neg (by omega), if_neg (by omega), if_pos rfl]
    · rw [List.getElem_append_right (by omega)]
      simp only [hlt, Nat.sub_self, List.getElem_cons_zero]
      exact ⟨hL, hR, bL, bR⟩
  · obtain ⟨L', R', h1, h2, h3⟩ := h (j - 1) (by omega)
    refine ⟨L', R', ?_, ?_, ?_⟩
    · rw [getElem?_pairs hx hi, if_neg (by omega), if_neg (by omega), if_neg (by omega), show j * 2 - 2 = (j - 1) * 2 by omega]; exact h1
    · rw [getElem?_pairs hx hi, if_neg (by omega), if_neg (by omega), if_neg (by omega), show j * 2 + 1 - 2 = (j - 1) * 2 + 1 by omega]; exact h2
    · rw [List.getElem_append_right (by omega)]
      have e : j - (F.take i).length = (j - 1 - i) + 1 := by omega
      simp only [e, List.getElem_cons_succ, List.getElem_drop]
      have e2 : i + (j - 1 - i) = j - 1 := by omega
      simp only [e2]
      exact h3

def Nodes (w : World) (base : Nat) (v : Value) (F : Dag) : Prop := ∃ a cap, v = .slice a F.length cap ∧ F.length ≤ cap ∧ F.length ≤ maxLen ∧
  (0 < F.length → ∃ b, a = some ⟨b, 0, none⟩ ∧ base ≤ b ∧ ∀ i (h : i < F.length), ∃ L R, w.cell? ⟨b, i * 2, none⟩ = some L ∧ w.cell? ⟨b, i * 2 + 1, none⟩ = some R ∧ Ints w L (toZ (F[i]).1) ∧ Ints w R (toZ (F[i]).2) ∧
    (∀ b, L.ownBlock = some b → base ≤ b ∧ b < w.heap.size) ∧ (∀ b, R.ownBlock = some b → base ≤ b ∧ b < w.heap.size))
theorem Nodes.ext {w w' : World} {base : Nat} {v : Value} {F : Dag} (h : Nodes w base v F) (hx : Ext w w') : Nodes w' base v F := by
  obtain ⟨a, cap, rfl, h1, h2, h3⟩ := h
  refine ⟨a, cap, rfl, h1, h2, fun h0 => ?_⟩
  obtain ⟨b, rfl, hb, hc⟩ := h3 h0
  refine ⟨b, rfl, hb, fun i hi => ?_⟩
  obtain ⟨L, R, c1, c2, c3, c4, c5, c6⟩ := hc i hi
  have hz := hx.size
  exact ⟨L, R, (hx.cell (lt_of_cell c1)).trans c1, (hx.cell (lt_of_cell c2)).trans c2, c3.ext hx, c4.ext hx, fun b hb => ⟨(c5 b hb).1, by have := (c5 b hb).2; omega⟩, fun b hb => ⟨(c6 b hb).1, by have := (c6 b hb).2; omega⟩⟩
theorem Nodes.of_own {w : World} {base e : Nat} {v : Value} {xs : List Value} {F : Dag} {K : Nat → Prop} (h : w.ownsRow base e 2 v F.length xs) (hn : NodeRow w xs F base K) : Nodes w base v F := by
  rcases Nat.eq_zero_or_pos F.length with h0 | h0
  · obtain ⟨a, cap, rfl, h1, h2⟩ := own_len h
    exact ⟨a, cap, rfl, h1, by omega, fun k => absurd k (by omega)⟩
  · obtain ⟨g, cap, rfl, h1, h2, h3⟩ := own_at h h0
    refine ⟨_, cap, rfl, h1, by omega, fun _ => ⟨g, rfl, (h.lt g rfl).1, fun i hi => ?_⟩⟩
    obtain ⟨L, R, c1, c2, c3, c4, c5, c6⟩ := hn i hi
    exact ⟨L, R, by rw [h3 _ (by omega)]; exact c1, by rw [h3 _ (by omega)]; exact c2, c3, c4, fun b hb => ⟨(c5 b hb).1, (c5 b hb).2.1⟩, fun b hb => ⟨(c6 b hb).1, (c6 b hb).2.1⟩⟩
theorem Nodes.weaken {w : World} {base base' : Nat} {v : Value} {F : Dag} (h : Nodes w base v F) (hb : base' ≤ base) : Nodes w base' v F := by
  obtain ⟨a, cap, rfl, h1, h2, h3⟩ := h
  refine ⟨a, cap, rfl, h1, h2, fun h0 => ?_⟩
  obtain ⟨b, rfl, hb', hc⟩ := h3 h0
  refine ⟨b, rfl, by omega, fun i hi => ?_⟩
  obtain ⟨L, R, c1, c2, c3, c4, c5, c6⟩ := hc i hi
  exact ⟨L, R, c1, c2, c3, c4, fun b hb => ⟨by have := (c5 b hb).1; omega, (c5 b hb).2⟩, fun b hb => ⟨by have := (c6 b hb).1; omega, (c6 b hb).2⟩⟩

theorem Nodes.at {w : World} {base : Nat} {v : Value} {F : Dag} (h : Nodes w base v F) {i : Nat} (hi : i < F.length) :
    ∃ b cap aL cL aR cR, v = .slice (some ⟨b, 0, none⟩) F.length cap ∧ F.length ≤ cap ∧ w.cell? ⟨b, i * 2, none⟩ = some (.slice aL (F[i]).1.length cL) ∧ w.cell? ⟨b, i * 2 + 1, none⟩ = some (.slice aR (F[i]).2.length cR) ∧
      Ints w (.slice aL (F[i]).1.length cL) (toZ (F[i]).1) ∧ Ints w (.slice aR (F[i]).2.length cR) (toZ (F[i]).2) := by
  obtain ⟨a, cap, rfl, h1, h2, h3⟩ := h
  obtain ⟨b, rfl, hb, hc⟩ := h3 (by omega)
  obtain ⟨L, R, c1, c2, c3, c4, c5, c6⟩ := hc i hi
  obtain ⟨aL, cL, rfl, -⟩ := id c3
  obtain ⟨aR, cR, rfl, -⟩ := id c4
  rw [toZ_len] at c1 c2 c3 c4
  exact ⟨b, cap, aL, cL, aR, cR, rfl, h1, c1, c2, c3, c4⟩

end Go.Proofs.YtjkdanmpihildaaGreatDoor

namespace Go.Proofs.YtjkdanmpihildaaGreatDoor
open Go.RowKit
open Cgt (Dag Nd vl)

theorem own_keepG {w w' : World} {G : Nat → Prop} {B e size n : Nat} {v : Value} {xs : List Value} (h : w.ownsRow B e size v n xs) (hk : Keep G w w') (hn : ∀ b, v.ownBlock = some b → ¬ G b) : w'.ownsRow B e size v n xs := by
  obtain ⟨hl, h⟩ := h
  refine ⟨hl, ?_⟩
  rcases h with h | ⟨g, cap, cur, rfl, hb, hg, h1⟩
  · exact .inl h
  · exact .inr ⟨g, cap, cur, rfl, hb, by rw [hk.block g (Array.getElem?_eq_some_iff.1 hg).1 (hn g rfl)]; exact hg, h1⟩

def KF (w : World) (o gat : Nat) (vN : Value) (b : Nat) : Prop := b = o ∨ b = gat ∨ b = w.heap.size ∨ vN.ownBlock = some b

structure FMem (w wr : World) (o gat : Nat) (vN : Value) (root : Nat) (F : Dag) (at_ : List Nat) : Prop where
  ext : Ext w wr
  res : wr.heap[w.heap.size]? = some (.cells #[.slice none 0 0] 28 (0, 0))
  atr : wr.ownsRow w.heap.size 3 1 (.slice (some ⟨gat, 0, none⟩) (root + 1) (root + 1)) (root + 1) ((toZ at_).map (Value.int .i64))
  out : wr.heap[o]? = some (.cells #[vN] 28 (0, 0))
  nodes : ∃ xs, wr.ownsRow w.heap.size 80 2 vN F.length xs ∧ NodeRow wr xs F w.heap.size (KF w o gat vN)
  a1 : vN.ownBlock ≠ some o
  a2 : vN.ownBlock ≠ some gat
  a3 : vN.ownBlock ≠ some w.heap.size
  a4 : o ≠ gat
  a5 : o ≠ w.heap.size
  a6 : gat ≠ w.heap.size
  a7 : w.heap.size ≤ o

theorem blk_lt {w : World} {b : Nat} {x : Obj} (h : w.heap[b]? = some x) : b < w.heap.size := (Array.getElem?_eq_some_iff.1 h).1

theorem FMem.ext' {w wr w' : World} {o gat : Nat} {vN : Value} {root : Nat} {F : Dag} {at_ : List Nat} (h : FMem w wr o gat vN root F at_) (hx : Ext wr w') : FMem w w' o gat vN root F at_ := by
  obtain ⟨xs, h1, h2⟩ := h.nodes
  exact ⟨ext_trans h.ext hx, by rw [hx.block _ (blk_lt h.res)]; exact h.res, own_keep h.atr hx, by rw [hx.block _ (blk_lt h.out)]; exact h.out, ⟨xs, own_keep h1 hx, h2.ext hx⟩, h.a1, h.a2, h.a3, h.a4, h.a5, h.a6, h.a7⟩

theorem keep_set {w : World} {p : Addr} {v : Value} : Keep (fun b => b = p.block) w (w.setCell p v) := ⟨rfl, rfl, rfl, by simp, fun k _ hn => heap_setCell_other _ _ _ _ hn⟩

theorem FMem.setAt {w wr : World} {o gat : Nat} {vN : Value} {root : Nat} {F : Dag} {at_ : List Nat} (h : FMem w wr o gat vN root F at_) (k x : Nat) :
    FMem w (wr.setCell ⟨gat, k, none⟩ (.int .i64 (x : Int))) o gat vN root F (at_.set k x) ∧ Keep (KF w o gat vN) wr (wr.setCell ⟨gat, k, none⟩ (.int .i64 (x : Int))) := by
  have hk := keep_set (w := wr) (p := ⟨gat, k, none⟩) (v := .int .i64 (x : Int))
  obtain ⟨xs, h1, h2⟩ := h.nodes
  have hs := h.atr.stored k (.int .i64 (x : Int))
  have hge := (h.atr.lt gat rfl).1
  refine ⟨⟨h.ext.setCell (p := ⟨gat, k, none⟩) hge _, ?_, ?_, ?_, ⟨xs, own_keepG h1 hk (fun b hb e => h.a2 (by rw [hb, e])), h2.keep hk (fun b e => .inr (.inl e)) (fun b k => .inl k)⟩, h.a1, h.a2, h.a3, h.a4, h.a5, h.a6, h.a7⟩, ?_⟩
  · rw [heap_setCell_other _ _ _ _ (by exact h.a6.symm)]; exact h.res
  · have e : (toZ (at_.set k x)).map (Value.int .i64) = ((toZ at_).map (Value.int .i64)).set k (.int .i64 (x : Int)) := by simp [toZ, List.map_set]
    rw [e]; exact hs.1
  · rw [heap_setCell_other _ _ _ _ (by exact h.a4)]; exact h.out
  · exact ⟨hk.os, hk.tape, hk.output, hk.size, fun b hb hn => hk.block b hb (fun e => hn (.inr (.inl e)))⟩

theorem FMem.push {w wr wd w1 : World} {o gat : Nat} {vN vN' : Value} {root : Nat} {F : Dag} {at_ : List Nat} {xs : List Value} {nd : Nd} {L R : Value} (h : FMem w wr o gat vN root F at_)
    (h2 : NodeRow wr xs F w.heap.size (KF w o gat vN)) (hxl : xs.length = F.length * 2) (hd : Ext wr wd) (hdz : wd.heap.size = wr.heap.size)
    (hL : Ints wr L (toZ nd.1)) (hR : Ints wr R (toZ nd.2)) (bL : ∀ b, L.ownBlock = some b → w.heap.size ≤ b ∧ b < wr.heap.size ∧ ¬ KF w o gat vN b) (bR : ∀ b, R.ownBlock = some b → w.heap.size ≤ b ∧ b < wr.heap.size ∧ ¬ KF w o gat vN b)
    (hg1 : (wd.alloc (.cells #[L, R] 80)).grownBy w1 vN.ownBlock) (ho1 : w1.ownsRow w.heap.size 80 2 vN' (F.length + 1) (xs ++ [L, R])) (hl1 : Lies (wd.alloc (.cells #[L, R] 80)) vN vN') :
    FMem w (w1.setCell ⟨o, 0, none⟩ vN') o gat vN' root (F ++ [nd]) at_ ∧ Keep (KF w o gat vN) wr (w1.setCell ⟨o, 0, none⟩ vN') ∧ (∀ b, KF w o gat vN' b → KF w o gat vN b ∨ wr.heap.size ≤ b) := by
  have hgx : Ext wr (wd.alloc (.cells #[L, R] 80)) := ext_trans hd (by go_grown)
  have z1 := hg1.size
  rw [World.size_alloc, hdz] at z1
  have hk1 : Keep (KF w o gat vN) wr w1 := by
    refine ⟨hg1.os.trans hgx.os, hg1.tape.trans hgx.tape, hg1.output.trans hgx.output, by omega, fun k hk hn => ?_⟩
    rw [hg1.block k (by rw [World.size_alloc]; omega) (fun e => hn (.inr (.inr (.inr e.symm))))]
    exact hgx.block k hk
  have hk2 : Keep (KF w o gat vN) wr (w1.setCell ⟨o, 0, none⟩ vN') := by
    refine ⟨hk1.os, hk1.tape, hk1.output, by rw [World.size_setCell]; exact hk1.size, fun k hk hn => ?_⟩
    rw [heap_setCell_other _ _ _ _ (fun e => hn (.inl e))]; exact hk1.block k hk hn
  have hK : ∀ b, KF w o gat vN' b → KF w o gat vN b ∨ wr.heap.size ≤ b := by
    rintro b (e | e | e | e)
    · exact .inl (.inl e)
    · exact .inl (.inr (.inl e))
    · exact .inl (.inr (.inr (.inl e)))
    · rcases hl1 with h' | ⟨g, h', k⟩
      · exact .inl (.inr (.inr (.inr (by rw [← h']; exact e))))
      · rw [h'] at e; injection e with e; rw [World.size_alloc, hdz] at k; exact .inr (by omega)
  have zo := blk_lt h.out
  have zr := blk_lt h.res
  have zg := (h.atr.lt gat rfl)
  have ap : ∀ b, b < wr.heap.size → vN.ownBlock ≠ some b → vN'.ownBlock ≠ some b := by
    intro b hb hn e
    rcases hl1 with h' | ⟨g, h', k⟩
    · exact hn (by rw [← h']; exact e)
    · rw [h'] at e; injection e with e; rw [World.size_alloc, hdz] at k; omega
  have b1 : ∀ k, k < wr.heap.size → vN.ownBlock ≠ some k → w1.heap[k]? = wr.heap[k]? := by
    intro k hk hn
    rw [hg1.block k (by rw [World.size_alloc]; omega) (fun e => hn e.symm)]
    exact hgx.block k hk
  have ho : w1.heap[o]? = some (.cells #[vN] 28 (0, 0)) := by rw [b1 o zo h.a1]; exact h.out
  have hks := keep_set (w := w1) (p := ⟨o, 0, none⟩) (v := vN')
  refine ⟨⟨⟨hk2.os.trans h.ext.os, hk2.tape.trans h.ext.tape, hk2.output.trans h.ext.output, Nat.le_trans h.ext.size hk2.size, fun k hk => ?_⟩, ?_, ?_, ?_, ⟨xs ++ [L, R], ?_, ?_⟩, ap o zo h.a1, ap gat zg.2 h.a2, ap _ zr h.a3, h.a4, h.a5, h.a6, h.a7⟩, hk2, hK⟩
  · have hz := h.ext.size
    have : ¬ KF w o gat vN k := by
      rintro (e | e | e | e)
      · have := h.a7; omega
      · omega
      · omega
      · obtain ⟨xs', ho', _⟩ := h.nodes
        have := (ho'.lt k e).1; omega
    rw [hk2.block k (by omega) this]; exact h.ext.block k hk
  · rw [heap_setCell_other _ _ _ _ (by exact h.a5.symm), b1 _ zr h.a3]; exact h.res
  · refine own_keepG (own_keepG h.atr (w' := w1) (G := fun b => vN.ownBlock = some b) ⟨hk1.os, hk1.tape, hk1.output, hk1.size, b1⟩ (fun b hb e => ?_)) hks (fun b hb e => ?_)
    · simp [Value.ownBlock] at hb; subst hb; exact h.a2 e
    · simp [Value.ownBlock] at hb; subst hb; exact h.a4 e.symm
  · exact heap_setCell_same _ _ _ _ _ _ ho
  · refine own_keepG (by simpa using ho1) hks (fun b hb e => ap o zo h.a1 (by rw [hb, e]))
  · have hr2 := h2.insert hxl (Nat.le_refl _) hL hR bL bR
    rw [List.take_of_length_le (by omega), List.drop_of_length_le (by omega), List.append_nil, List.take_of_length_le (Nat.le_refl _), List.drop_of_length_le (Nat.le_refl _)] at hr2
    exact hr2.keep hk2 (fun b k => k) hK

structure LMem (w wr : World) (K : Nat → Prop) (lv fv : Value) (from_ : List Nat) (X : Nat → Nd) : Prop where
  rows : ∃ xs, wr.ownsRow w.heap.size 80 2 lv from_.length xs ∧ NodeRow wr xs (from_.map X) w.heap.size K
  froms : wr.ownsRow w.heap.size 3 1 fv from_.length ((toZ from_).map (Value.int .i64))
  k1 : ∀ b, lv.ownBlock = some b → ¬ K b
  k2 : ∀ b, fv.ownBlock = some b → ¬ K b
  s1 : ∃ g cap, lv = .slice (some ⟨g, 0, none⟩) from_.length cap
  s2 : ∃ g cap, fv = .slice (some ⟨g, 0, none⟩) from_.length cap
theorem LMem.keep {w wr w' : World} {K K' G : Nat → Prop} {lv fv : Value} {from_ : List Nat} {X : Nat → Nd} (h : LMem w wr K lv fv from_ X) (hk : Keep G wr w') (hG : ∀ b, G b → K b) (hK : ∀ b, K' b → K b ∨ wr.heap.size ≤ b) : LMem w w' K' lv fv from_ X := by
  obtain ⟨xs, h1, h2⟩ := h.rows
  refine ⟨⟨xs, own_keepG h1 hk (fun b hb g => h.k1 b hb (hG b g)), h2.keep hk hG hK⟩, own_keepG h.froms hk (fun b hb g => h.k2 b hb (hG b g)), fun b hb k => ?_, fun b hb k => ?_, h.s1, h.s2⟩
  · rcases hK b k with k | k
    · exact h.k1 b hb k
    · have := (h1.lt b hb).2; omega
  · rcases hK b k with k | k
    · exact h.k2 b hb k
    · have := (h.froms.lt b hb).2; omega
theorem LMem.ext {w wr w' : World} {K : Nat → Prop} {lv fv : Value} {from_ : List Nat} {X : Nat → Nd} (h : LMem w wr K lv fv from_ X) (hx : Ext wr w') : LMem w w' K lv fv from_ X :=
  h.keep (keep_ext (F := fun _ => False) hx) (fun _ g => g.elim) (fun _ k => .inl k)
theorem FMem.klt {w wr : World} {o gat : Nat} {vN : Value} {root : Nat} {F : Dag} {at_ : List Nat} (h : FMem w wr o gat vN root F at_) : ∀ b, KF w o gat vN b → b < wr.heap.size := by
  obtain ⟨xs, ho, _⟩ := h.nodes
  rintro b (rfl | rfl | rfl | e)
  · exact blk_lt h.out
  · exact (h.atr.lt _ rfl).2
  · exact blk_lt h.res
  · exact (ho.lt b e).2
theorem own_base {w : World} {B B' e size n : Nat} {v : Value} {xs : List Value} (h : w.ownsRow B e size v n xs) (hb : B' ≤ B) : w.ownsRow B' e size v n xs := by
  obtain ⟨hl, h⟩ := h
  refine ⟨hl, ?_⟩
  rcases h with h | ⟨g, cap, cur, h1, hb', h2⟩
  · exact .inl h
  · exact .inr ⟨g, cap, cur, h1, by omega, h2⟩

theorem row_src {w W : World} {B e size g n cap : Nat} {xs : List Value} (h : w.ownsRow B e size (.slice (some ⟨g, 0, none⟩) n cap) n xs) (hE : Ext w W) (s m : Nat) (hsm : s + m ≤ n * size) :
    ∀ j u, ((xs.drop s).take m)[j]? = some u → W.cell? ((⟨g, s, none⟩ : Addr).add j) = some u := by
  intro j u hu
  rw [List.getElem?_take] at hu
  split at hu
  · rename_i hj
    rw [List.getElem?_drop] at hu
    have hc := (own_keep h hE).cellAt (s + j) (by omega)
    have e : (⟨g, s, none⟩ : Addr).add j = ⟨g, s + j, none⟩ := by simp [Addr.add]
    rw [e, hc, hu]
  · cases hu

theorem NodeRow.one {w : World} {xs : List Value} {F : Dag} {base : Nat} {K : Nat → Prop} (h : NodeRow w xs F base K) (hx : xs.length = F.length * 2) : ∀ u ∈ xs, u.oneCell' = true := by
  intro u hu
  obtain ⟨j, hj, rfl⟩ := List.mem_iff_getElem.1 hu
  obtain ⟨L, R, h1, h2, h3, h4, _⟩ := h (j / 2) (by omega)
  rcases Nat.mod_two_eq_zero_or_one j with c | c
  · rw [show j / 2 * 2 = j by omega, List.getElem?_eq_getElem hj] at h1
    injection h1 with h1
    obtain ⟨a, cap, e, _⟩ := h3
    rw [h1, e]; rfl
  · rw [show j / 2 * 2 + 1 = j by omega, List.getElem?_eq_getElem hj] at h2
    injection h2 with h2
    obtain ⟨a, cap, e, _⟩ := h4
    rw [h2, e]; rfl

theorem own_keepE {w w' : World} {B e size n : Nat} {v : Value} {xs : List Value} (h : w.ownsRow B e size v n xs) (hx : Ext w w') : w'.ownsRow B e size v n xs := own_keep h hx

end Go.Proofs.YtjkdanmpihildaaGreatDoor
