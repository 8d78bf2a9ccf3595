/-
  Memory: a row of ints of the call's own, read and written; contract of markIntS; no condition. (8 texts.)
-/
import Derived.Test.YteknjeohbcgpdaaGreatDoorY1
import Derived.Test.YteknjeohbcgpdaaGreatDoorY3
import Derived.Test.YteknjeohbcgpdaaGreatDoorY5
import Derived.Test.YteknjeohbcgpdaaGreatDoorY6
import Derived.Test.YteknjeohbcgpdaaGreatDoorY7
import Derived.Deep.DeepCutAuto
import Derived.Deep.CutBlock
import Derived.Lib.SlicesS
namespace Go.Proofs.YteknjeohbcgpdaaGreatDoor
open Go.RowKit
open Cgt (Dag Nd vl Ge Gm Canon Eqv)

theorem keep_grown {w w' : World} {kb : Nat} (g : w.grownBy w' (some kb)) : Keep (fun b => b = kb) w w' := ⟨g.os, g.tape, g.output, g.size, fun k hk hn => g.block k hk (by intro e; injection e with e; exact hn e)⟩

end Go.Proofs.YteknjeohbcgpdaaGreatDoor

namespace Go.Proofs.YteknjeohbcgpdaaGreatDoor
open Go.RowKit
open Cgt (Dag Nd vl)

def NodeRow (w : World) (xs : List Value) (F : Dag) (base : Nat) (K : Nat → Prop) : Prop :=
  ∀ i (h : i < F.length), ∃ L R, xs[i * 2]? = some L ∧ xs[i * 2 + 1]? = some R ∧ Ints w L (toZ (F[i]).1) ∧ Ints w R (toZ (F[i]).2) ∧
    (∀ b, L.ownBlock = some b → base ≤ b ∧ b < w.heap.size ∧ ¬ K b) ∧ (∀ b, R.ownBlock = some b → base ≤ b ∧ b < w.heap.size ∧ ¬ K b)

theorem NodeRow.nil (w : World) (base : Nat) (K : Nat → Prop) : NodeRow w [] [] base K := fun i h => absurd h (by simp)
theorem ints_keep {w w' : World} {G : Nat → Prop} {v : Value} {l : List Int} (h : Ints w v l) (hk : Keep G w w') (hn : ∀ b, v.ownBlock = some b → ¬ G b) : Ints w' v l :=
  h.keep fun b hl hb => hk.block b (h.blk hl hb) (hn b hb)
theorem NodeRow.keep {w w' : World} {xs : List Value} {F : Dag} {base : Nat} {K K' G : Nat → Prop} (h : NodeRow w xs F base K) (hk : Keep G w w') (hG : ∀ b, G b → K b) (hK : ∀ b, K' b → K b ∨ w.heap.size ≤ b) : NodeRow w' xs F base K' := by
  intro i hi
  obtain ⟨L, R, h1, h2, h3, h4, h5, h6⟩ := h i hi
  have hz := hk.size
  exact ⟨L, R, h1, h2, ints_keep h3 hk (fun b hb g => (h5 b hb).2.2 (hG b g)), ints_keep h4 hk (fun b hb g => (h6 b hb).2.2 (hG b g)),
    fun b hb => ⟨(h5 b hb).1, by have := (h5 b hb).2.1; omega, fun k => by rcases hK b k with k | k; exact (h5 b hb).2.2 k; have := (h5 b hb).2.1; omega⟩,
    fun b hb => ⟨(h6 b hb).1, by have := (h6 b hb).2.1; omega, fun k => by rcases hK b k with k | k; exact (h6 b hb).2.2 k; have := (h6 b hb).2.1; omega⟩⟩
theorem NodeRow.ext {w w' : World} {xs : List Value} {F : Dag} {base : Nat} {K : Nat → Prop} (h : NodeRow w xs F base K) (hx : Ext w w') : NodeRow w' xs F base K :=
  h.keep (keep_ext (F := fun _ => False) hx) (fun _ g => g.elim) (fun _ k => .inl k)

def Nodes (w : World) (base : Nat) (v : Value) (F : Dag) : Prop := ∃ a cap, v = .slice a F.length cap ∧ F.length ≤ cap ∧ F.length ≤ maxLen ∧
  (0 < F.length → ∃ b, a = some ⟨b, 0, none⟩ ∧ base ≤ b ∧ ∀ i (h : i < F.length), ∃ L R, w.cell? ⟨b, i * 2, none⟩ = some L ∧ w.cell? ⟨b, i * 2 + 1, none⟩ = some R ∧ Ints w L (toZ (F[i]).1) ∧ Ints w R (toZ (F[i]).2) ∧
    (∀ b, L.ownBlock = some b → base ≤ b ∧ b < w.heap.size) ∧ (∀ b, R.ownBlock = some b → base ≤ b ∧ b < w.heap.size))
theorem Nodes.ext {w w' : World} {base : Nat} {v : Value} {F : Dag} (h : Nodes w base v F) (hx : Ext w w') : Nodes w' base v F := by
  obtain ⟨a, cap, rfl, h1, h2, h3⟩ := h
  refine ⟨a, cap, rfl, h1, h2, fun h0 => ?_⟩
  obtain ⟨b, rfl, hb, hc⟩ := h3 h0
  refine ⟨b, rfl, hb, fun i hi => ?_⟩
  obtain ⟨L, R, c1, c2, c3, c4, c5, c6⟩ := hc i hi
  have hz := hx.size
  exact ⟨L, R, (hx.cell (lt_of_cell c1)).trans c1, (hx.cell (lt_of_cell c2)).trans c2, c3.ext hx, c4.ext hx, fun b hb => ⟨(c5 b hb).1, by have := (c5 b hb).2; omega⟩, fun b hb => ⟨(c6 b hb).1, by have := (c6 b hb).2; omega⟩⟩
theorem Nodes.of_own {w : World} {base e : Nat} {v : Value} {xs : List Value} {F : Dag} {K : Nat → Prop} (h : w.ownsRow base e 2 v F.length xs) (hn : NodeRow w xs F base K) : Nodes w base v F := by
  rcases Nat.eq_zero_or_pos F.length with h0 | h0
  · obtain ⟨a, cap, rfl, h1, h2⟩ := own_len h
    exact ⟨a, cap, rfl, h1, by omega, fun k => absurd k (by omega)⟩
  · obtain ⟨g, cap, rfl, h1, h2, h3⟩ := own_at h h0
    refine ⟨_, cap, rfl, h1, by omega, fun _ => ⟨g, rfl, (h.lt g rfl).1, fun i hi => ?_⟩⟩
    obtain ⟨L, R, c1, c2, c3, c4, c5, c6⟩ := hn i hi
    exact ⟨L, R, by rw [h3 _ (by omega)]; exact c1, by rw [h3 _ (by omega)]; exact c2, c3, c4, fun b hb => ⟨(c5 b hb).1, (c5 b hb).2.1⟩, fun b hb => ⟨(c6 b hb).1, (c6 b hb).2.1⟩⟩
theorem Nodes.at {w : World} {base : Nat} {v : Value} {F : Dag} (h : Nodes w base v F) {i : Nat} (hi : i < F.length) :
    ∃ b cap aL cL aR cR, v = .slice (some ⟨b, 0, none⟩) F.length cap ∧ F.length ≤ cap ∧ w.cell? ⟨b, i * 2, none⟩ = some (.slice aL (F[i]).1.length cL) ∧ w.cell? ⟨b, i * 2 + 1, none⟩ = some (.slice aR (F[i]).2.length cR) ∧
      Ints w (.slice aL (F[i]).1.length cL) (toZ (F[i]).1) ∧ Ints w (.slice aR (F[i]).2.length cR) (toZ (F[i]).2) := by
  obtain ⟨a, cap, rfl, h1, h2, h3⟩ := h
  obtain ⟨b, rfl, hb, hc⟩ := h3 (by omega)
  obtain ⟨L, R, c1, c2, c3, c4, c5, c6⟩ := hc i hi
  obtain ⟨aL, cL, rfl, -⟩ := id c3
  obtain ⟨aR, cR, rfl, -⟩ := id c4
  rw [toZ_len] at c1 c2 c3 c4
  exact ⟨b, cap, aL, cL, aR, cR, rfl, h1, c1, c2, c3, c4⟩

theorem Nodes.slice {w : World} {base : Nat} {v : Value} {F : Dag} (h : Nodes w base v F) : ∃ a c, v = .slice a F.length c := by
  obtain ⟨a, c, h, _⟩ := h; exact ⟨a, c, h⟩

end Go.Proofs.YteknjeohbcgpdaaGreatDoor

namespace Go.Proofs.YteknjeohbcgpdaaGreatDoor
open Go.RowKit
open Cgt (Dag Nd vl)

theorem own_keepG {w w' : World} {G : Nat → Prop} {B e size n : Nat} {v : Value} {xs : List Value} (h : w.ownsRow B e size v n xs) (hk : Keep G w w') (hn : ∀ b, v.ownBlock = some b → ¬ G b) : w'.ownsRow B e size v n xs := by
  obtain ⟨hl, h⟩ := h
  refine ⟨hl, ?_⟩
  rcases h with h | ⟨g, cap, cur, rfl, hb, hg, h1⟩
  · exact .inl h
  · exact .inr ⟨g, cap, cur, rfl, hb, by rw [hk.block g (Array.getElem?_eq_some_iff.1 hg).1 (hn g rfl)]; exact hg, h1⟩

theorem blk_lt {w : World} {b : Nat} {x : Obj} (h : w.heap[b]? = some x) : b < w.heap.size := (Array.getElem?_eq_some_iff.1 h).1

theorem keep_set {w : World} {p : Addr} {v : Value} : Keep (fun b => b = p.block) w (w.setCell p v) := ⟨rfl, rfl, rfl, by simp, fun k _ hn => heap_setCell_other _ _ _ _ hn⟩

theorem own_base {w : World} {B B' e size n : Nat} {v : Value} {xs : List Value} (h : w.ownsRow B e size v n xs) (hb : B' ≤ B) : w.ownsRow B' e size v n xs := by
  obtain ⟨hl, h⟩ := h
  refine ⟨hl, ?_⟩
  rcases h with h | ⟨g, cap, cur, h1, hb', h2⟩
  · exact .inl h
  · exact .inr ⟨g, cap, cur, h1, by omega, h2⟩

theorem row_src {w W : World} {B e size g n cap : Nat} {xs : List Value} (h : w.ownsRow B e size (.slice (some ⟨g, 0, none⟩) n cap) n xs) (hE : Ext w W) (s m : Nat) (hsm : s + m ≤ n * size) :
    ∀ j u, ((xs.drop s).take m)[j]? = some u → W.cell? ((⟨g, s, none⟩ : Addr).add j) = some u := by
  intro j u hu
  rw [List.getElem?_take] at hu
  split at hu
  · rename_i hj
    rw [List.getElem?_drop] at hu
    have hc := (own_keep h hE).cellAt (s + j) (by omega)
    have e : (⟨g, s, none⟩ : Addr).add j = ⟨g, s + j, none⟩ := by simp [Addr.add]
    rw [e, hc, hu]
  · cases hu

theorem NodeRow.one {w : World} {xs : List Value} {F : Dag} {base : Nat} {K : Nat → Prop} (h : NodeRow w xs F base K) (hx : xs.length = F.length * 2) : ∀ u ∈ xs, u.oneCell' = true := by
  intro u hu
  obtain ⟨j, hj, rfl⟩ := List.mem_iff_getElem.1 hu
  obtain ⟨L, R, h1, h2, h3, h4, _⟩ := h (j / 2) (by omega)
  rcases Nat.mod_two_eq_zero_or_one j with c | c
  · rw [show j / 2 * 2 = j by omega, List.getElem?_eq_getElem hj] at h1
    injection h1 with h1
    obtain ⟨a, cap, e, _⟩ := h3
    rw [h1, e]; rfl
  · rw [show j / 2 * 2 + 1 = j by omega, List.getElem?_eq_getElem hj] at h2
    injection h2 with h2
    obtain ⟨a, cap, e, _⟩ := h4
    rw [h2, e]; rfl

end Go.Proofs.YteknjeohbcgpdaaGreatDoor

namespace Go.Proofs.YteknjeohbcgpdaaGreatDoor
open Cgt

theorem card_le {n : Nat} {at_ : List Nat} {R : Nat → Nat → Prop} (h : ∀ i, i < n → ∃ j, j ∈ at_ ∧ R i j) (hu : ∀ i i' j, i < n → i' < n → R i j → R i' j → i = i') : n ≤ at_.length := by
  classical
  have h1 : ∀ i, ∃ k, i < n → ∃ hk : k < at_.length, R i at_[k] := fun i => by
    by_cases c : i < n
    · obtain ⟨j, hj, hr⟩ := h i c
      obtain ⟨k, hk, rfl⟩ := List.mem_iff_getElem.1 hj
      exact ⟨k, fun _ => ⟨hk, hr⟩⟩
    · exact ⟨0, fun c' => absurd c' c⟩
  have h2 : ((List.range n).map fun i => Classical.choose (h1 i)).Nodup := by
    rw [List.Nodup, List.pairwise_map]
    refine List.Pairwise.imp_of_mem (R := fun a b => a < b) ?_ List.pairwise_lt_range
    intro a b ha hb hab e
    have ha' := List.mem_range.1 ha
    have hb' := List.mem_range.1 hb
    obtain ⟨k1, r1⟩ := Classical.choose_spec (h1 a) ha'
    obtain ⟨k2, r2⟩ := Classical.choose_spec (h1 b) hb'
    have : a = b := hu a b _ ha' hb' r1 (by simp only [e]; exact r2)
    omega
  have h3 := nodup_len (n := at_.length) h2 (fun x hx => by
    obtain ⟨i, hi, rfl⟩ := List.mem_map.1 hx
    exact (Classical.choose_spec (h1 i) (List.mem_range.1 hi)).1)
  simpa using h3

end Go.Proofs.YteknjeohbcgpdaaGreatDoor

namespace Go.Proofs.YteknjeohbcgpdaaGreatDoor.Cgt

def ng : Gm → Gm
  | .mk l r => .mk (r.attach.map fun x => ng x.1) (l.attach.map fun x => ng x.1)
termination_by g => SizeOf.sizeOf g
decreasing_by
  · have := List.sizeOf_lt_of_mem x.2; simp; omega
  · have := List.sizeOf_lt_of_mem x.2; simp; omega
theorem ng_mk (l r : List Gm) : ng (.mk l r) = .mk (r.map ng) (l.map ng) := by
  rw [ng]; simp
theorem ng_l (a : Gm) : (ng a).l = a.r.map ng := by cases a; rw [ng_mk]; rfl
theorem ng_r (a : Gm) : (ng a).r = a.l.map ng := by cases a; rw [ng_mk]; rfl
theorem mem_ng_l {a x : Gm} : x ∈ (ng a).l ↔ ∃ y, y ∈ a.r ∧ x = ng y := by
  rw [ng_l, List.mem_map]; exact ⟨fun ⟨y, h, e⟩ => ⟨y, h, e.symm⟩, fun ⟨y, h, e⟩ => ⟨y, h, e.symm⟩⟩
theorem mem_ng_r {a x : Gm} : x ∈ (ng a).r ↔ ∃ y, y ∈ a.l ∧ x = ng y := by
  rw [ng_r, List.mem_map]; exact ⟨fun ⟨y, h, e⟩ => ⟨y, h, e.symm⟩, fun ⟨y, h, e⟩ => ⟨y, h, e.symm⟩⟩

theorem ge_ng (a b : Gm) : Ge (ng a) (ng b) ↔ Ge b a := by
  rw [ge_iff, ge_iff b a]
  constructor
  · rintro ⟨h1, h2⟩
    refine ⟨fun r hr g => h2 (ng r) (mem_ng_l.2 ⟨r, hr, rfl⟩) ((ge_ng r a).2 g), fun l hl g => h1 (ng l) (mem_ng_r.2 ⟨l, hl, rfl⟩) ((ge_ng b l).2 g)⟩
  · rintro ⟨h1, h2⟩
    refine ⟨fun r hr g => ?_, fun l hl g => ?_⟩
    · obtain ⟨y, hy, rfl⟩ := mem_ng_r.1 hr
      exact h2 y hy ((ge_ng b y).1 g)
    · obtain ⟨y, hy, rfl⟩ := mem_ng_l.1 hl
      exact h1 y hy ((ge_ng y a).1 g)
termination_by SizeOf.sizeOf a + SizeOf.sizeOf b
decreasing_by
  · have := Gm.r_lt hr; omega
  · have := Gm.l_lt hl; omega
  · have := Gm.l_lt hy; omega
  · have := Gm.r_lt hy; omega
theorem eqv_ng {a b : Gm} (h : Eqv a b) : Eqv (ng a) (ng b) := ⟨(ge_ng a b).2 h.2, (ge_ng b a).2 h.1⟩
theorem same_ng {a b : Gm} (h : Same a b) : Same (ng a) (ng b) := by
  rw [same_iff] at h
  obtain ⟨h1, h2, h3, h4⟩ := h
  rw [same_iff]
  refine ⟨fun x hx => ?_, fun y hy => ?_, fun x hx => ?_, fun y hy => ?_⟩
  · obtain ⟨z, hz, rfl⟩ := mem_ng_l.1 hx
    obtain ⟨y, hy, s⟩ := h3 z hz
    exact ⟨ng y, mem_ng_l.2 ⟨y, hy, rfl⟩, same_ng s⟩
  · obtain ⟨z, hz, rfl⟩ := mem_ng_l.1 hy
    obtain ⟨x, hx, s⟩ := h4 z hz
    exact ⟨ng x, mem_ng_l.2 ⟨x, hx, rfl⟩, same_ng s⟩
  · obtain ⟨z, hz, rfl⟩ := mem_ng_r.1 hx
    obtain ⟨y, hy, s⟩ := h1 z hz
    exact ⟨ng y, mem_ng_r.2 ⟨y, hy, rfl⟩, same_ng s⟩
  · obtain ⟨z, hz, rfl⟩ := mem_ng_r.1 hy
    obtain ⟨x, hx, s⟩ := h2 z hz
    exact ⟨ng x, mem_ng_r.2 ⟨x, hx, rfl⟩, same_ng s⟩
termination_by SizeOf.sizeOf a + SizeOf.sizeOf b
decreasing_by
  · have := Gm.r_lt hz; have := Gm.r_lt hy; omega
  · have := Gm.r_lt hz; have := Gm.r_lt hx; omega
  · have := Gm.l_lt hz; have := Gm.l_lt hy; omega
  · have := Gm.l_lt hz; have := Gm.l_lt hx; omega
theorem tight_ng {a : Gm} (h : Tight a) : Tight (ng a) := by
  obtain ⟨h1, h2, h3, h4⟩ := h
  refine ⟨fun x y hx hy g => ?_, fun x y hx hy g => ?_, fun x hx y hy g => ?_, fun x hx y hy g => ?_⟩
  · obtain ⟨x', hx', rfl⟩ := mem_ng_l.1 hx
    obtain ⟨y', hy', rfl⟩ := mem_ng_l.1 hy
    exact same_symm (same_ng (h2 y' x' hy' hx' ((ge_ng x' y').1 g)))
  · obtain ⟨x', hx', rfl⟩ := mem_ng_r.1 hx
    obtain ⟨y', hy', rfl⟩ := mem_ng_r.1 hy
    exact same_symm (same_ng (h1 y' x' hy' hx' ((ge_ng x' y').1 g)))
  · obtain ⟨x', hx', rfl⟩ := mem_ng_l.1 hx
    obtain ⟨y', hy', rfl⟩ := mem_ng_r.1 hy
    exact h4 x' hx' y' hy' ((ge_ng a y').1 g)
  · obtain ⟨x', hx', rfl⟩ := mem_ng_r.1 hx
    obtain ⟨y', hy', rfl⟩ := mem_ng_l.1 hy
    exact h3 x' hx' y' hy' ((ge_ng y' a).1 g)
theorem canon_ng {a : Gm} (h : Canon a) : Canon (ng a) := by
  refine .mk _ (tight_ng h.tight) (fun x hx => ?_) (fun x hx => ?_)
  · obtain ⟨y, hy, rfl⟩ := mem_ng_l.1 hx; exact canon_ng (h.r hy)
  · obtain ⟨y, hy, rfl⟩ := mem_ng_r.1 hx; exact canon_ng (h.l hy)
termination_by SizeOf.sizeOf a
decreasing_by
  · exact Gm.r_lt hy
  · exact Gm.l_lt hy

end Go.Proofs.YteknjeohbcgpdaaGreatDoor.Cgt
namespace Go.Proofs.YteknjeohbcgpdaaGreatDoor
open Cgt
theorem FormOf.neg {F E : Dag} {g : Gm} (h : FormOf F g) (i : IsForm E) (s : Same (topOf E) (ng (topOf F))) : FormOf E (ng g) := by
  obtain ⟨hi, c, h1, h2, h3⟩ := h
  exact ⟨i, ng c, same_trans s (same_ng h1), canon_ng h2, eqv_ng h3⟩
end Go.Proofs.YteknjeohbcgpdaaGreatDoor

namespace Go.Proofs.YteknjeohbcgpdaaGreatDoor
open Go.RowKit
open Cgt (Dag Nd vl Same Canon Eqv)

theorem Nodes.set {w : World} {base : Nat} {v : Value} {F : Dag} (h : Nodes w base v F) {p : Addr} (hp : p.block < base) (u : Value) : Nodes (w.setCell p u) base v F := by
  obtain ⟨a, cap, rfl, h1, h2, h3⟩ := h
  refine ⟨a, cap, rfl, h1, h2, fun h0 => ?_⟩
  obtain ⟨b, rfl, hb, hc⟩ := h3 h0
  refine ⟨b, rfl, hb, fun i hi => ?_⟩
  obtain ⟨L, R, c1, c2, c3, c4, c5, c6⟩ := hc i hi
  have e : ∀ k, base ≤ k → (w.setCell p u).heap[k]? = w.heap[k]? := fun k hk => heap_setCell_other _ _ _ _ (by omega)
  exact ⟨L, R, by rw [World.cell?_of_block (w := w) (e b hb)]; exact c1, by rw [World.cell?_of_block (w := w) (e b hb)]; exact c2, c3.keep (fun b hl hb' => e b (c5 b hb').1), c4.keep (fun b hl hb' => e b (c6 b hb').1), by simpa using c5, by simpa using c6⟩

end Go.Proofs.YteknjeohbcgpdaaGreatDoor

namespace Go.Proofs.YteknjeohbcgpdaaGreatDoor
open Go.RowKit
open Cgt (Dag Nd vl Same)

def fitsN (F : Dag) : Bool := decide (1 ≤ F.length ∧ F.length ≤ 120 ∧ ∀ i (h : i < F.length), (F[i]).1.length ≤ 24 ∧ (F[i]).2.length ≤ 24)

end Go.Proofs.YteknjeohbcgpdaaGreatDoor

namespace Go.Proofs.YteknjeohbcgpdaaGreatDoor
open Go.RowKit
open Cgt (Dag Nd vl Same)

theorem int_cell {w : World} {base e g n cap : Nat} {l : List Int} (h : w.ownsRow base e 1 (.slice (some ⟨g, 0, none⟩) n cap) n (l.map (Value.int .i64))) {k : Nat} (hk : k < n) : w.cell? ⟨g, k, none⟩ = some (.int .i64 (zat l k)) := by
  have hl := h.1
  rw [h.cellAt k (by omega)]
  have : k < l.length := by rw [List.length_map] at hl; omega
  simp [zat, this]
end Go.Proofs.YteknjeohbcgpdaaGreatDoor
