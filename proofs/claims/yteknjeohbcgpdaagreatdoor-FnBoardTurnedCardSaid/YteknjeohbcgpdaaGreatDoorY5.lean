/-
  Contract of the book's reached. (10 texts.)
-/
import Derived.Test.YteknjeohbcgpdaaGreatDoorY4
import Derived.Deep.AppendLies
import Derived.OneCell
import Derived.BigRegion
import Derived.Maps.RangeWalk
import Derived.Deep.RegionHeld3
import Derived.Maps.Range
set_option maxRecDepth 100000
namespace Go.Proofs.YteknjeohbcgpdaaGreatDoor
section
open Go.RowKit
open Cgt (Dag Nd vl)

def PutRel (D : Dag) (l r : List Nat) (D' : Dag) (i : Nat) : Prop :=
  D'[i]? = some (sortN l, sortN r) ∧ (D' = D ∨ D' = D ++ [(sortN l, sortN r)])

def bornTo (D : Dag) (l : List Nat) : Int := l.foldl (fun m x => max m ((Cgt.born (vl D x) : Int) + 1)) 0

theorem bornTo_snoc (D : Dag) {l : List Nat} {k : Nat} (h : k < l.length) : bornTo D (l.take (k + 1)) = max (bornTo D (l.take k)) ((Cgt.born (vl D l[k]) : Int) + 1) := by
  rw [List.take_succ_eq_append_getElem h, bornTo, List.foldl_append]; rfl
theorem bornTo_snoc2 (D : Dag) (l : List Nat) {r : List Nat} {k : Nat} (h : k < r.length) : bornTo D (l ++ r.take (k + 1)) = max (bornTo D (l ++ r.take k)) ((Cgt.born (vl D r[k]) : Int) + 1) := by
  rw [List.take_succ_eq_append_getElem h, ← List.append_assoc, bornTo, List.foldl_append]; rfl
theorem bornTo_bd {D : Dag} (hD : Cgt.WF D) (l : List Nat) (hl : ∀ x, x ∈ l → x < D.length) : 0 ≤ bornTo D l ∧ bornTo D l ≤ D.length := by
  have main : ∀ (l : List Nat) (m : Int), 0 ≤ m → m ≤ D.length → (∀ x, x ∈ l → x < D.length) → 0 ≤ l.foldl (fun m x => max m ((Cgt.born (vl D x) : Int) + 1)) m ∧ l.foldl (fun m x => max m ((Cgt.born (vl D x) : Int) + 1)) m ≤ D.length := by
    intro l
    induction l with
    | nil => intro m h1 h2 _; exact ⟨h1, h2⟩
    | cons x l ih =>
      intro m h1 h2 hx
      have h3 := Cgt.born_vl_le hD x
      have h4 := hx x (by simp)
      exact ih _ (by show 0 ≤ max _ _; omega) (by show max _ _ ≤ _; omega) (fun y hy => hx y (by simp [hy]))
  exact main l 0 (by omega) (by omega) hl
theorem info_node : (Tryz.prog.info? 89).map (fun i => (i.zero, i.size, i.bytes)) = some (some (.agg #[.slice none 0 0, .slice none 0 0]), 2, 48) := by kernel_rfl
theorem two_src {w : World} {x y : Value} {e : TypeId} : ∀ j u, ([x, y] : List Value)[j]? = some u → (w.alloc (.cells #[x, y] e)).cell? ((⟨w.heap.size, 0, none⟩ : Addr).add j) = some u := by
  intro j u h
  match j with
  | 0 => simp at h; subst h; exact (World.cell?_alloc_at (w := w) #[x, y] e _ 0 rfl)
  | 1 => simp at h; subst h; exact (World.cell?_alloc_at (w := w) #[x, y] e _ 1 rfl)
  | n + 2 => simp at h
theorem alloc_cell {w : World} {a : Addr} {v : Value} (h : w.cell? a = some v) (o : Obj) : (w.alloc o).cell? a = some v := (World.cell?_alloc_lt w o a (lt_of_cell h)).trans h
theorem two_cell {a b : Option Addr} {n m c d : Nat} : ∀ u ∈ ([Value.slice a n c, Value.slice b m d] : List Value), u.oneCell' = true := by
  intro u h; simp at h; rcases h with rfl | rfl <;> rfl
theorem new_cell_set (w : World) (a : Addr) (u v : Value) (e : TypeId) : ((w.setCell a u).alloc (.cells #[v] e)).cell? ⟨w.heap.size, 0, none⟩ = some v := by
  have := new_cell (w.setCell a u) v e
  rw [World.size_setCell] at this; exact this
theorem bornTo_le (D : Dag) (l : List Nat) (n : Nat) : bornTo D l ≤ n ↔ ∀ x, x ∈ l → Cgt.born (vl D x) < n := by
  have main : ∀ (l : List Nat) (m : Int), l.foldl (fun m x => max m ((Cgt.born (vl D x) : Int) + 1)) m ≤ n ↔ m ≤ n ∧ ∀ x, x ∈ l → Cgt.born (vl D x) < n := by
    intro l
    induction l with
    | nil => intro m; simp
    | cons x l ih =>
      intro m
      simp only [List.foldl_cons, ih, List.mem_cons]
      constructor
      · rintro ⟨h1, h2⟩
        exact ⟨by omega, fun y hy => by rcases hy with rfl | hy; omega; exact h2 y hy⟩
      · rintro ⟨h1, h2⟩
        have := h2 x (.inl rfl)
        exact ⟨by omega, fun y hy => h2 y (.inr hy)⟩
  have := main l 0
  unfold bornTo
  rw [this]; simp
theorem bornTo_born {D : Dag} (h : Cgt.WF D) {k : Nat} {l r l' r' : List Nat} (hd : D[k]? = some (l', r')) (hl : ∀ x, x ∈ l' ↔ x ∈ l) (hr : ∀ x, x ∈ r' ↔ x ∈ r) (h0 : 0 ≤ bornTo D (l ++ r)) :
    (Cgt.born (vl D k) : Int) = bornTo D (l ++ r) := by
  have e : ∀ n : Nat, Cgt.born (vl D k) ≤ n ↔ bornTo D (l ++ r) ≤ n := by
    intro n
    rw [Cgt.born_le, bornTo_le, Cgt.vl_l h hd, Cgt.vl_r h hd]
    simp only [List.forall_mem_map, hl, hr, List.mem_append]
    constructor
    · rintro ⟨a, b⟩ x (hx | hx)
      · exact a x hx
      · exact b x hx
    · intro a; exact ⟨fun x hx => a x (.inl hx), fun x hx => a x (.inr hx)⟩
  have h1 := (e (Cgt.born (vl D k))).1 (Nat.le_refl _)
  have h2 := (e (bornTo D (l ++ r)).toNat).2 (by omega)
  omega
end
section
open Go.RowKit
open Cgt (Dag Nd vl Ge)

theorem look_false_r {D : Dag} (hD : Cgt.WF D) {x y k : Nat} (hx : x < D.length) (hk : k < (D[x]).2.length) (h : Ge (vl D y) (vl D (D[x]).2[k])) : ¬ Ge (vl D x) (vl D y) := by
  intro g
  refine ((Cgt.ge_iff _ _).1 g).1 _ ?_ h
  rw [Cgt.vl_r hD (List.getElem?_eq_getElem hx)]
  exact List.mem_map.2 ⟨_, List.getElem_mem hk, rfl⟩
theorem look_false_l {D : Dag} (hD : Cgt.WF D) {x y k : Nat} (hy : y < D.length) (hk : k < (D[y]).1.length) (h : Ge (vl D (D[y]).1[k]) (vl D x)) : ¬ Ge (vl D x) (vl D y) := by
  intro g
  refine ((Cgt.ge_iff _ _).1 g).2 _ ?_ h
  rw [Cgt.vl_l hD (List.getElem?_eq_getElem hy)]
  exact List.mem_map.2 ⟨_, List.getElem_mem hk, rfl⟩
theorem look_true {D : Dag} (hD : Cgt.WF D) {x y : Nat} (hx : x < D.length) (hy : y < D.length) (hr : ∀ j (h : j < (D[x]).2.length), ¬ Ge (vl D y) (vl D (D[x]).2[j])) (hl : ∀ j (h : j < (D[y]).1.length), ¬ Ge (vl D (D[y]).1[j]) (vl D x)) : Ge (vl D x) (vl D y) := by
  rw [Cgt.ge_iff, Cgt.vl_r hD (List.getElem?_eq_getElem hx), Cgt.vl_l hD (List.getElem?_eq_getElem hy)]
  constructor
  · intro r hr'
    obtain ⟨i, hi, rfl⟩ := List.mem_map.1 hr'
    obtain ⟨j, hj, rfl⟩ := List.mem_iff_getElem.1 hi
    exact hr j hj
  · intro r hr'
    obtain ⟨i, hi, rfl⟩ := List.mem_map.1 hr'
    obtain ⟨j, hj, rfl⟩ := List.mem_iff_getElem.1 hi
    exact hl j hj
theorem look_past {D : Dag} {l : List Nat} {y k : Nat} (hk : k < l.length) (h : Hid (∀ j (h : j < l.length), j < k → ¬ Ge (vl D y) (vl D l[j]))) (hn : ¬ Ge (vl D y) (vl D l[k])) : Hid (∀ j (h : j < l.length), j < k + 1 → ¬ Ge (vl D y) (vl D l[j])) := by
  intro j hj hjk
  by_cases e : j = k
  · subst e; exact hn
  · exact h j hj (by omega)
theorem look_past' {D : Dag} {l : List Nat} {x k : Nat} (hk : k < l.length) (h : Hid (∀ j (h : j < l.length), j < k → ¬ Ge (vl D l[j]) (vl D x))) (hn : ¬ Ge (vl D l[k]) (vl D x)) : Hid (∀ j (h : j < l.length), j < k + 1 → ¬ Ge (vl D l[j]) (vl D x)) := by
  intro j hj hjk
  by_cases e : j = k
  · subst e; exact hn
  · exact h j hj (by omega)
end
section
open Go.RowKit
open Cgt (Dag Nd vl Ge)

theorem made_zeros (q : Nat) : (madeCells #[Value.int .i64 0] q).toList = (List.replicate q (0 : Int)).map (Value.int .i64) := by
  apply List.ext_getElem?
  intro i
  by_cases h : i < q
  · simp [madeCells, h, Nat.mod_one]
  · simp [madeCells, h]
end
section
open Go.RowKit
open Cgt (Dag Nd vl Ge)

def opt (D : Dag) (left : Bool) (i : Nat) : List Nat := match D[i]? with
  | some nd => if left then nd.1 else nd.2
  | none => []

def GeS (D : Dag) (left : Bool) (i j : Nat) : Prop := if left then Ge (vl D i) (vl D j) else Ge (vl D j) (vl D i)
end
section
open Go.RowKit
open Cgt (Dag Nd vl Ge)

theorem asc_len {l : List Int} (h : l.Pairwise (· < ·)) {a : Int} {n : Nat} (hb : ∀ y, y ∈ l → a ≤ y ∧ y < a + n) : l.length ≤ n := by
  induction l generalizing a n with
  | nil => simp
  | cons x l ih =>
    have hx := hb x (by simp)
    have hl := List.pairwise_cons.1 h
    cases n with
    | zero => omega
    | succ n =>
      have := ih hl.2 (a := a + 1) (n := n) (fun y hy => by have := hl.1 y hy; have := hb y (by simp [hy]); omega)
      simp; omega

def DomBy (D : Dag) (left : Bool) (l : List Nat) (i k : Nat) : Prop := k ≠ i ∧ GeS D left (l.getD k 0) (l.getD i 0) ∧ (¬ GeS D left (l.getD i 0) (l.getD k 0) ∨ k < i)
def Dom (D : Dag) (left : Bool) (l : List Nat) (i : Nat) : Prop := ∃ k, k < l.length ∧ DomBy D left l i k

structure DomInv (D : Dag) (left : Bool) (l : List Nat) (z : List Int) (i k : Nat) : Prop where
  asc : z.Pairwise (· < ·)
  bd : ∀ y, y ∈ z → 0 ≤ y ∧ y < l.length
  mem : ∀ j : Nat, (j : Int) ∈ z ↔ (j < i ∧ Dom D left l j) ∨ (j = i ∧ ∃ k', k' < k ∧ DomBy D left l i k')
theorem DomInv.len {D : Dag} {left : Bool} {l : List Nat} {z : List Int} {i k : Nat} (h : DomInv D left l z i k) : z.length ≤ l.length := asc_len h.asc (a := 0) (fun y hy => by have := h.bd y hy; omega)
theorem DomInv.nil (D : Dag) (left : Bool) (l : List Nat) : DomInv D left l [] 0 0 := ⟨List.Pairwise.nil, by simp, by simp⟩
theorem DomInv.no {D : Dag} {left : Bool} {l : List Nat} {z : List Int} {i k : Nat} (h : DomInv D left l z i k) (hn : ¬ DomBy D left l i k) : DomInv D left l z i (k + 1) := by
  refine ⟨h.asc, h.bd, fun j => ?_⟩
  rw [h.mem]
  refine or_congr Iff.rfl (and_congr Iff.rfl ⟨fun ⟨k', a, b⟩ => ⟨k', by omega, b⟩, fun ⟨k', a, b⟩ => ⟨k', ?_, b⟩⟩)
  rcases Nat.lt_or_ge k' k with c | c
  · exact c
  · have : k' = k := by omega
    subst this; exact absurd b hn
theorem DomInv.next {D : Dag} {left : Bool} {l : List Nat} {z : List Int} {i : Nat} (h : DomInv D left l z i l.length) : DomInv D left l z (i + 1) 0 := by
  refine ⟨h.asc, h.bd, fun j => ?_⟩
  rw [h.mem]
  constructor
  · rintro (⟨a, b⟩ | ⟨rfl, k', b, c⟩)
    · exact .inl ⟨by omega, b⟩
    · exact .inl ⟨by omega, k', b, c⟩
  · rintro (⟨a, b⟩ | ⟨_, k', b, _⟩)
    · rcases Nat.lt_or_ge j i with c | c
      · exact .inl ⟨c, b⟩
      · have : j = i := by omega
        subst this; exact .inr ⟨rfl, b⟩
    · omega
end
section
open Go.RowKit
open Cgt (Dag Nd vl Ge)

structure OpenInv (D : Dag) (root : Nat) (left : Bool) (l line B : List Nat) (i : Nat) : Prop where
  nodup : line.Nodup
  lt : ∀ x, x ∈ line → x < D.length
  sub : ∀ x, x ∈ l → x ∈ line
  sound : ∀ x, x ∈ line → x ∈ l ∨ ∃ k, k < D.length ∧ GeS D left root k ∧ x ∈ opt D left k
  kept : ∀ x, x ∈ B → x ∈ line ∧ ∀ y, y ∈ opt D (!left) x → ¬ GeS D left root y
  done : ∀ j (h : j < line.length), j < i → line[j] ∈ B ∨ ∃ y, y ∈ opt D (!left) line[j] ∧ GeS D left root y ∧ ∀ x, x ∈ opt D left y → x ∈ line
  blen : B.length ≤ i
  clos : ∀ P : Nat → Prop, (∀ i side x, P i → x ∈ opt D side i → P x) → (∀ x, x ∈ l → P x) → ∀ x, x ∈ line → P x

theorem nodup_len {n : Nat} {l : List Nat} (h : l.Nodup) (hl : ∀ x, x ∈ l → x < n) : l.length ≤ n := by
  induction n generalizing l with
  | zero => cases l with
    | nil => simp
    | cons x l => have := hl x (by simp); omega
  | succ n ih =>
    have h1 := ih (l := l.filter (fun x => x ≠ n)) (h.sublist List.filter_sublist) (fun x hx => by
      obtain ⟨a, b⟩ := List.mem_filter.1 hx
      have := hl x a; simp at b; omega)
    have h2 : l.length ≤ (l.filter (fun x => x ≠ n)).length + 1 := by
      clear ih h1 hl
      induction l with
      | nil => simp
      | cons x l ih =>
        have hd := List.nodup_cons.1 h
        by_cases e : x = n
        · subst e
          have : l.filter (fun y => y ≠ x) = l := List.filter_eq_self.2 (fun y hy => by simp; rintro rfl; exact hd.1 hy)
          rw [List.filter_cons_of_neg (by simp), this]; simp
        · simp [e]; have := ih hd.2; simp at this; omega
    omega
theorem OpenInv.len {D : Dag} {root : Nat} {left : Bool} {l line B : List Nat} {i : Nat} (h : OpenInv D root left l line B i) : line.length ≤ D.length := nodup_len h.nodup h.lt
theorem OpenInv.start {D : Dag} {root : Nat} {left : Bool} {l : List Nat} (hn : l.Nodup) (hl : ∀ x, x ∈ l → x < D.length) : OpenInv D root left l l [] 0 :=
  ⟨hn, hl, fun _ h => h, fun _ h => .inl h, by simp, fun _ _ h => absurd h (by omega), by simp, fun _ _ h => h⟩
theorem OpenInv.keep {D : Dag} {root : Nat} {left : Bool} {l line B : List Nat} {i : Nat} (h : OpenInv D root left l line B i) (hi : i < line.length) (hn : ∀ y, y ∈ opt D (!left) line[i] → ¬ GeS D left root y) : OpenInv D root left l line (B ++ [line[i]]) (i + 1) := by
  refine ⟨h.nodup, h.lt, h.sub, h.sound, fun x hx => ?_, fun j hj hji => ?_, by simp; exact h.blen, h.clos⟩
  · rcases List.mem_append.1 hx with hx | hx
    · exact h.kept x hx
    · simp at hx; subst hx; exact ⟨List.getElem_mem hi, hn⟩
  · by_cases e : j = i
    · subst e; exact .inl (by simp)
    · rcases h.done j hj (by omega) with a | a
      · exact .inl (by simp [a])
      · exact .inr a
theorem OpenInv.add {D : Dag} {root : Nat} {left : Bool} {l line B : List Nat} {i : Nat} (h : OpenInv D root left l line B i) {x k : Nat} (hx : x < D.length) (hn : x ∉ line) (hk : k < D.length) (hg : GeS D left root k) (ho : x ∈ opt D left k) (hi : i ≤ line.length) {z : Nat} (hz : z ∈ line) (hkz : k ∈ opt D (!left) z) : OpenInv D root left l (line ++ [x]) B i := by
  refine ⟨?_, fun y hy => ?_, fun y hy => by simp [h.sub y hy], fun y hy => ?_, fun y hy => ⟨by simp [(h.kept y hy).1], (h.kept y hy).2⟩, fun j hj hji => ?_, h.blen, fun P c hl y hy => ?_⟩
  · rw [List.nodup_append]
    exact ⟨h.nodup, by simp, fun a ha b hb => by simp at hb; subst hb; rintro rfl; exact hn ha⟩
  · rcases List.mem_append.1 hy with hy | hy
    · exact h.lt y hy
    · simp at hy; omega
  · rcases List.mem_append.1 hy with hy | hy
    · exact h.sound y hy
    · simp at hy; subst hy; exact .inr ⟨k, hk, hg, ho⟩
  · have hjl : j < line.length := by omega
    rw [List.getElem_append_left hjl]
    rcases h.done j hjl hji with a | ⟨y, a, b, c⟩
    · exact .inl a
    · exact .inr ⟨y, a, b, fun z hz => by simp [c z hz]⟩
  · rcases List.mem_append.1 hy with hy | hy
    · exact h.clos P c hl y hy
    · simp at hy; subst hy
      exact c _ _ _ (c _ _ _ (h.clos P c hl z hz) hkz) ho
theorem OpenInv.pass {D : Dag} {root : Nat} {left : Bool} {l line B : List Nat} {i : Nat} (h : OpenInv D root left l line B i) {y : Nat} (hi : i < line.length) (hy : y ∈ opt D (!left) line[i]) (hg : GeS D left root y) (hs : ∀ x, x ∈ opt D left y → x ∈ line) : OpenInv D root left l line B (i + 1) := by
  refine ⟨h.nodup, h.lt, h.sub, h.sound, h.kept, fun j hj hji => ?_, by have := h.blen; omega, h.clos⟩
  by_cases e : j = i
  · subst e; exact .inr ⟨y, hy, hg, hs⟩
  · exact h.done j hj (by omega)
theorem opt_lt {D : Dag} (hD : Cgt.WF D) {left : Bool} {i x : Nat} (hx : x ∈ opt D left i) : x < i := by
  unfold opt at hx
  cases h : D[i]? with
  | none => rw [h] at hx; simp at hx
  | some nd =>
    rw [h] at hx
    cases left
    · exact (hD i nd h).2 x (by simpa using hx)
    · exact (hD i nd h).1 x (by simpa using hx)

theorem all_src {w : World} {a : Option Addr} {cap : Nat} {l : List Int} (_ : l.length ≤ cap) (_ : l.length ≤ 1152921504606846976) (hc : 0 < l.length → ∃ b off, a = some ⟨b, off, none⟩ ∧ ∀ i, i < l.length → w.cell? ⟨b, off + i, none⟩ = some (.int .i64 (zat l i))) (W : World) (hE : Ext w W) :
    l.length = 0 ∨ ∃ ad, a = some ad ∧ ∀ (j : Nat) (u : Value), (l.map (Value.int .i64))[j]? = some u → W.cell? (ad.add j) = some u := by
  by_cases h : l.length = 0
  · exact .inl h
  · obtain ⟨b, off, rfl, hcell⟩ := hc (by omega)
    refine .inr ⟨_, rfl, ?_⟩
    have := src_of hcell hE 0 l.length (by omega)
    simpa using this

theorem grown_drewN (w : World) (n : Nat) (row : Option Nat) : w.grownBy (w.drewN n) row := ⟨rfl, rfl, rfl, Nat.le_refl _, fun _ _ _ => rfl⟩
end
section
open Cgt

def Tops (D : Dag) (left : Bool) (B F : List Nat) : Prop := (∀ x, x ∈ F → x ∈ B ∧ ∀ z, z ∈ B → GeS D left z x → z = x) ∧ (∀ x, x ∈ B → ∃ z, z ∈ F ∧ GeS D left z x)

theorem opt_l {D : Dag} (hD : WF D) {i x : Nat} (h : x ∈ opt D true i) : vl D x ∈ (vl D i).l := by
  unfold opt at h
  cases e : D[i]? with
  | none => rw [e] at h; simp at h
  | some nd => rw [e] at h; rw [vl_l hD e]; exact List.mem_map.2 ⟨x, by simpa using h, rfl⟩
theorem opt_r {D : Dag} (hD : WF D) {i x : Nat} (h : x ∈ opt D false i) : vl D x ∈ (vl D i).r := by
  unfold opt at h
  cases e : D[i]? with
  | none => rw [e] at h; simp at h
  | some nd => rw [e] at h; rw [vl_r hD e]; exact List.mem_map.2 ⟨x, by simpa using h, rfl⟩
theorem l_opt {D : Dag} (hD : WF D) {i : Nat} {g : Gm} (h : g ∈ (vl D i).l) : ∃ x, x ∈ opt D true i ∧ g = vl D x := by
  cases e : D[i]? with
  | none => rw [vl_none e] at h; simp [Gm.l] at h
  | some nd =>
    rw [vl_l hD e] at h
    obtain ⟨x, hx, rfl⟩ := List.mem_map.1 h
    exact ⟨x, by simp [opt, e, hx], rfl⟩
theorem r_opt {D : Dag} (hD : WF D) {i : Nat} {g : Gm} (h : g ∈ (vl D i).r) : ∃ x, x ∈ opt D false i ∧ g = vl D x := by
  cases e : D[i]? with
  | none => rw [vl_none e] at h; simp [Gm.r] at h
  | some nd =>
    rw [vl_r hD e] at h
    obtain ⟨x, hx, rfl⟩ := List.mem_map.1 h
    exact ⟨x, by simp [opt, e, hx], rfl⟩
theorem line_canon {D : Dag} (hD : WF D) {root : Nat} {left : Bool} {l line B : List Nat} {i : Nat} (h : OpenInv D root left l line B i) (hc : ∀ x, x ∈ l → Canon (vl D x)) : ∀ x, x ∈ line → Canon (vl D x) := by
  refine h.clos (fun x => Canon (vl D x)) (fun i side x hi hx => ?_) hc
  cases side
  · exact hi.r (opt_r hD hx)
  · exact hi.l (opt_l hD hx)
end
section
open Cgt

def woN (l : List Nat) (z : List Int) : List Nat := ((List.range l.length).filter fun (i : Nat) => !hasZ z (i : Int)).map fun i => l.getD i 0
theorem woN_toZ (l : List Nat) (z : List Int) : withoutZ (toZ l) z = toZ (woN l z) := by
  unfold withoutZ woK woN
  rw [toZ_len]
  conv => rhs; rw [toZ, List.map_map]
  refine List.map_congr_left fun i hi => ?_
  have h := List.mem_range.1 (List.mem_filter.1 hi).1
  simp [toZ_zat h, h]
theorem woN_mem {l : List Nat} {z : List Int} {x : Nat} : x ∈ woN l z ↔ ∃ i, ∃ h : i < l.length, x = l[i] ∧ (i : Int) ∉ z := by
  unfold woN
  rw [List.mem_map]
  constructor
  · rintro ⟨i, hi, rfl⟩
    obtain ⟨h1, h2⟩ := List.mem_filter.1 hi
    have h := List.mem_range.1 h1
    exact ⟨i, h, by simp [h], by simpa [hasZ] using h2⟩
  · rintro ⟨i, h, rfl, hn⟩
    exact ⟨i, List.mem_filter.2 ⟨List.mem_range.2 h, by simpa [hasZ] using hn⟩, by simp [h]⟩

theorem nodup_inj {l : List Nat} (hn : l.Nodup) {i j : Nat} (hi : i < l.length) (hj : j < l.length) (e : l[i] = l[j]) : i = j := by
  have h := List.pairwise_iff_getElem.1 hn
  rcases Nat.lt_trichotomy i j with c | c | c
  · exact absurd e (h i j hi hj c)
  · exact c
  · exact absurd e.symm (h j i hj hi c)
theorem geS_refl (D : Dag) (left : Bool) (a : Nat) : GeS D left a a := by cases left <;> simp [GeS, ge_refl]
theorem geS_trans {D : Dag} {left : Bool} {a b c : Nat} (h : GeS D left a b) (k : GeS D left b c) : GeS D left a c := by
  cases left <;> simp [GeS] at h k ⊢
  · exact ge_trans _ _ _ k h
  · exact ge_trans _ _ _ h k

theorem tops_of {D : Dag} (hG : Cgt.Good D) {left : Bool} {l : List Nat} {z : List Int} (hn : l.Nodup) (hl : ∀ x, x ∈ l → x < D.length) (hc : ∀ x, x ∈ l → Canon (vl D x)) (hz : DomInv D left l z l.length 0) : Tops D left l (woN l z) := by
  have anti : ∀ a b, a ∈ l → b ∈ l → GeS D left a b → GeS D left b a → a = b := by
    intro a b ha hb h k
    have e : Eqv (vl D a) (vl D b) := by
      cases left <;> simp [GeS] at h k
      · exact ⟨k, h⟩
      · exact ⟨h, k⟩
    exact same_idx hG a b (hl a ha) (hl b hb) (canon_unique (hc a ha) (hc b hb) e)
  have dom : ∀ i, i < l.length → ((i : Int) ∈ z ↔ Dom D left l i) := by
    intro i hi
    rw [hz.mem]
    constructor
    · rintro (⟨_, h⟩ | ⟨rfl, _⟩)
      · exact h
      · omega
    · intro h; exact .inl ⟨hi, h⟩
  constructor
  · intro x hx
    obtain ⟨i, hi, rfl, hz'⟩ := woN_mem.1 hx
    refine ⟨List.getElem_mem hi, fun y hy hg => ?_⟩
    obtain ⟨k, hk, rfl⟩ := List.mem_iff_getElem.1 hy
    by_cases e : k = i
    · subst e; rfl
    · rw [dom i hi] at hz'
      by_cases g2 : GeS D left l[i] l[k]
      · exact anti _ _ (List.getElem_mem hk) (List.getElem_mem hi) hg g2
      · exact absurd ⟨k, hk, e, by simpa [hk, hi] using hg, .inl (by simpa [hk, hi] using g2)⟩ hz'
  · intro x hx
    obtain ⟨b, hb, hbx, hm⟩ := stays (GeS D left) (geS_refl D left) (fun _ _ _ => geS_trans) l anti x hx
    refine ⟨b, ?_, hbx⟩
    obtain ⟨i, hi, rfl⟩ := List.mem_iff_getElem.1 hb
    refine woN_mem.2 ⟨i, hi, rfl, fun hz' => ?_⟩
    obtain ⟨k, hk, hne, hg, _⟩ := (dom i hi).1 hz'
    simp only [List.getD, List.getElem?_eq_getElem hk, List.getElem?_eq_getElem hi, Option.getD_some] at hg
    have e := hm _ (List.getElem_mem hk) hg
    exact hne (nodup_inj hn hk hi e)
end
section
open Cgt

theorem PutRel.ext {D D' : Dag} {l r : List Nat} {i : Nat} (h : PutRel D l r D' i) : ∃ E, D' = D ++ E ∧ E.length ≤ 1 := by
  rcases h.2 with h | h
  · exact ⟨[], by simp [h], by simp⟩
  · exact ⟨_, h, by simp⟩
theorem PutRel.lt {D D' : Dag} {l r : List Nat} {i : Nat} (h : PutRel D l r D' i) : i < D'.length := (List.getElem?_eq_some_iff.1 h.1).1
theorem PutRel.node {D D' : Dag} {l r : List Nat} {i : Nat} (h : PutRel D l r D' i) : D'[i]'h.lt = (sortN l, sortN r) := by have k := h.1; rw [List.getElem?_eq_getElem h.lt] at k; injection k
theorem PutRel.len {D D' : Dag} {l r : List Nat} {i : Nat} (h : PutRel D l r D' i) : D.length ≤ D'.length ∧ D'.length ≤ D.length + 1 := by
  obtain ⟨E, rfl, h⟩ := h.ext; simp; omega
theorem PutRel.vl {D D' : Dag} {l r : List Nat} {i : Nat} (h : PutRel D l r D' i) (hD : WF D) (hD' : WF D') {x : Nat} (hx : x < D.length) : Cgt.vl D' x = Cgt.vl D x := by
  obtain ⟨E, rfl, _⟩ := h.ext; exact vl_append hD hD' x hx

theorem same_opts {a b c d : List Gm} (h1 : ∀ x, x ∈ a ↔ x ∈ c) (h2 : ∀ x, x ∈ b ↔ x ∈ d) : Same (.mk a b) (.mk c d) := by
  rw [same_iff]
  exact ⟨fun x hx => ⟨x, (h1 x).1 hx, same_refl x⟩, fun x hx => ⟨x, (h1 x).2 hx, same_refl x⟩, fun x hx => ⟨x, (h2 x).1 hx, same_refl x⟩, fun x hx => ⟨x, (h2 x).2 hx, same_refl x⟩⟩

theorem asc_nodup {l : List Nat} (h : Asc l) : l.Nodup := h.imp (fun h => Nat.ne_of_lt h)

theorem opt_old {D E : Dag} {side : Bool} {i : Nat} (h : i < D.length) : opt (D ++ E) side i = opt D side i := by simp [opt, List.getElem?_append_left h]
end
section
open Go.RowKit
open Cgt (Dag Nd vl WF)

theorem reach_opt {D : Dag} {root i x : Nat} {side : Bool} (h : Cgt.Reach D root i) (hx : x ∈ opt D side i) : Cgt.Reach D root x := by
  unfold opt at hx
  cases e : D[i]? with
  | none => rw [e] at hx; simp at hx
  | some nd =>
    rw [e] at hx
    cases side
    · exact h.right e (by simpa using hx)
    · exact h.left e (by simpa using hx)

theorem opt_true {D : Dag} {i : Nat} (h : i < D.length) : opt D true i = (D[i]).1 := by simp [opt, h]
theorem opt_false {D : Dag} {i : Nat} (h : i < D.length) : opt D false i = (D[i]).2 := by simp [opt, h]
end
end Go.Proofs.YteknjeohbcgpdaaGreatDoor
