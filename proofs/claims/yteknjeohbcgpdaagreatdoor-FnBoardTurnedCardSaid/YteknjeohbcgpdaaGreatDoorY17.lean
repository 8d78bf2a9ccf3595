/-
  Maps keyed by strings, ints and pairs of ints: the keys' laws; a look-up and a store at the operation; how many entries there are. (3 texts.)
-/
import Derived.Test.YteknjeohbcgpdaaGreatDoorY8
import Derived.Maps.OwnOps
import Derived.WideKeyArgs
import Derived.DeepKeys4
import Derived.NoCompiler
import Derived.Maps.Keyed
set_option maxRecDepth 100000
namespace Go.Proofs.YteknjeohbcgpdaaGreatDoor
section
open Go.RowKit
open Cgt (Dag Nd vl Same)

def Sup (S : Nat → Prop) (A : World → Prop) (w : World) : Prop := (∀ b, S b → b < w.heap.size) ∧ ∀ w', (∀ b, S b → w'.heap[b]? = w.heap[b]?) → A w'
theorem Sup.out {S : Nat → Prop} {A : World → Prop} {w : World} (h : Sup S A w) : A w := h.2 w fun _ _ => rfl
theorem Sup.keep {S G : Nat → Prop} {A : World → Prop} {w w' : World} (h : Sup S A w) (hk : Keep G w w') (hd : ∀ b, S b → ¬ G b) : Sup S A w' :=
  ⟨fun b hb => Nat.lt_of_lt_of_le (h.1 b hb) hk.size, fun w2 h2 => h.2 w2 fun b hb => (h2 b hb).trans (hk.block b (h.1 b hb) (hd b hb))⟩
theorem Sup.ext {S : Nat → Prop} {A : World → Prop} {w w' : World} (h : Sup S A w) (hk : Ext w w') : Sup S A w' := h.keep (keep_ext (F := fun _ => False) hk) fun _ _ => id
theorem Sup.mono {S T : Nat → Prop} {A B : World → Prop} {w : World} (h : Sup S A w) (hS : ∀ b, S b → T b) (hT : ∀ b, T b → b < w.heap.size) (hA : ∀ W, A W → B W) : Sup T B w :=
  ⟨hT, fun w2 h2 => hA _ (h.2 w2 fun b hb => h2 b (hS b hb))⟩

theorem Ints.sup {w : World} {v : Value} {l : List Int} (h : Ints w v l) {S : Nat → Prop} (hS : ∀ b, S b → b < w.heap.size) (hv : ∀ b, v.ownBlock = some b → S b) : Sup S (fun W => Ints W v l) w :=
  ⟨hS, fun _ h2 => h.keep fun b _ hb => h2 b (hv b hb)⟩
theorem Nodes.sup {w : World} {base : Nat} {v : Value} {F : Dag} (h : Nodes w base v F) {S : Nat → Prop} (hS : ∀ b, S b → b < w.heap.size) (hv : ∀ b, base ≤ b → b < w.heap.size → S b) : Sup S (fun W => Nodes W 0 v F) w := by
  refine ⟨hS, fun w2 h2 => ?_⟩
  obtain ⟨a, cap, rfl, h1, h3, h4⟩ := h
  refine ⟨a, cap, rfl, h1, h3, fun h0 => ?_⟩
  obtain ⟨b, rfl, hb, hc⟩ := h4 h0
  refine ⟨b, rfl, Nat.zero_le _, fun i hi => ?_⟩
  obtain ⟨L, R, c1, c2, c3, c4, c5, c6⟩ := hc i hi
  have e := h2 b (hv b hb (lt_of_cell c1))
  have key : ∀ {v : Value} {l : List Int}, Ints w v l → (∀ b, v.ownBlock = some b → base ≤ b ∧ b < w.heap.size) → Ints w2 v l ∧ ∀ b, v.ownBlock = some b → l ≠ [] → b < w2.heap.size := fun hI hb => by
    have k := hI.keep (w' := w2) fun b _ he => h2 b (hv b (hb b he).1 (hb b he).2)
    exact ⟨k, fun b he hl => k.blk hl he⟩
  have hlt : ∀ b, base ≤ b ∧ b < w.heap.size → b < w2.heap.size := fun b hb => by
    have := h2 b (hv b hb.1 hb.2)
    rw [Array.getElem?_eq_getElem hb.2] at this
    exact (Array.getElem?_eq_some_iff.1 this).1
  exact ⟨L, R, by rw [World.cell?_of_block (w := w) e]; exact c1, by rw [World.cell?_of_block (w := w) e]; exact c2, (key c3 c5).1, (key c4 c6).1, fun b hb => ⟨Nat.zero_le _, hlt b (c5 b hb)⟩, fun b hb => ⟨Nat.zero_le _, hlt b (c6 b hb)⟩⟩

def Items {α : Type} (R : World → List Value → α → Prop) (S : Nat → Prop) (size : Nat) (xs : List Value) (Ts : List α) (w : World) : Prop :=
  xs.length = Ts.length * size ∧ Sup S (fun W => ∀ i (h : i < Ts.length), R W ((xs.drop (i * size)).take size) Ts[i]) w
theorem Items.nil {α : Type} {R : World → List Value → α → Prop} {S : Nat → Prop} {size : Nat} {w : World} (hS : ∀ b, S b → b < w.heap.size) : Items R S size [] [] w :=
  ⟨by simp, hS, fun _ _ i h => absurd h (by simp)⟩
theorem Items.keep {α : Type} {R : World → List Value → α → Prop} {S G : Nat → Prop} {size : Nat} {xs : List Value} {Ts : List α} {w w' : World} (h : Items R S size xs Ts w) (hk : Keep G w w') (hd : ∀ b, S b → ¬ G b) : Items R S size xs Ts w' := ⟨h.1, h.2.keep hk hd⟩
theorem Items.ext {α : Type} {R : World → List Value → α → Prop} {S : Nat → Prop} {size : Nat} {xs : List Value} {Ts : List α} {w w' : World} (h : Items R S size xs Ts w) (hk : Ext w w') : Items R S size xs Ts w' := ⟨h.1, h.2.ext hk⟩
theorem Items.mono {α : Type} {R : World → List Value → α → Prop} {S T : Nat → Prop} {size : Nat} {xs : List Value} {Ts : List α} {w : World} (h : Items R S size xs Ts w) (hS : ∀ b, S b → T b) (hT : ∀ b, T b → b < w.heap.size) : Items R T size xs Ts w :=
  ⟨h.1, h.2.mono hS hT fun _ h => h⟩
theorem Items.snoc {α : Type} {R : World → List Value → α → Prop} {S : Nat → Prop} {size : Nat} {xs ys : List Value} {Ts : List α} {t : α} {w : World} (h : Items R S size xs Ts w) (hy : ys.length = size) (k : Sup S (fun W => R W ys t) w) : Items R S size (xs ++ ys) (Ts ++ [t]) w := by
  refine ⟨by simp [h.1, hy, Nat.add_mul], h.2.1, fun w2 h2 i hi => ?_⟩
  by_cases c : i < Ts.length
  · rw [List.getElem_append_left c]
    have hm : i * size + size ≤ Ts.length * size := by rw [← Nat.succ_mul]; exact Nat.mul_le_mul_right _ c
    rw [List.drop_append_of_le_length (by rw [h.1]; omega), List.take_append_of_le_length (by rw [List.length_drop, h.1]; omega)]
    exact h.2.2 w2 h2 i c
  · have e : i = Ts.length := by simp at hi; omega
    subst e
    rw [List.getElem_append_right (Nat.le_refl _), ← h.1, List.drop_left, List.take_of_length_le (by omega)]
    simpa using k.2 w2 h2

def KS (w wr : World) (v : Value) (b : Nat) : Prop := w.heap.size ≤ b ∧ b < wr.heap.size ∧ v.ownBlock ≠ some b

theorem Items.push {α : Type} {R : World → List Value → α → Prop} {w wr w1 w5 : World} {v v5 : Value} {size base e n : Nat} {xs ys zs : List Value} {Ts : List α} {t : α} {X : Obj} (hit : Items R (KS w wr v) size xs Ts wr) (hE : Ext w wr) (hx : Ext wr w1) (ho : wr.ownsRow base e size v n zs) (hy : ys.length = size)
    (hn : Sup (fun b => wr.heap.size ≤ b ∧ b < w1.heap.size) (fun W => R W ys t) w1) (hg : (w1.alloc X).grownBy w5 v.ownBlock) (hl : Lies (w1.alloc X) v v5) : Items R (KS w w5 v5) size (xs ++ ys) (Ts ++ [t]) w5 := by
  have z0 := hE.size
  have z1 := hx.size
  have z5 := hg.size
  rw [World.size_alloc] at z5
  have key : ∀ b, KS w w1 v b → KS w w5 v5 b := fun b hb => ⟨hb.1, by have := hb.2.1; omega, fun e => by
    rcases hl with h | ⟨q, h, h2⟩
    · exact hb.2.2 (by rw [← h]; exact e)
    · rw [h] at e; injection e with e; rw [World.size_alloc] at h2; have := hb.2.1; omega⟩
  have h1 : Items R (KS w w1 v) size (xs ++ ys) (Ts ++ [t]) w1 :=
    Items.snoc ((hit.ext hx).mono (fun b hb => ⟨hb.1, by have := hb.2.1; omega, hb.2.2⟩) (fun b hb => hb.2.1)) hy (hn.mono (fun b hb => ⟨by omega, hb.2, fun e => by have := (ho.lt b e).2; omega⟩) (fun b hb => hb.2.1) (fun _ h => h))
  exact ((h1.ext (ext_alloc (Below.refl _ _) X)).keep (G := fun b => v.ownBlock = some b) ⟨hg.os, hg.tape, hg.output, hg.size, fun k hk hn => hg.block k hk (fun e => hn e.symm)⟩ (fun b hb => hb.2.2)).mono key (fun b hb => hb.2.1)

def Rows {α : Type} (R : World → List Value → α → Prop) (size : Nat) (S : Nat → Prop) (w : World) (v : Value) (Ts : List α) : Prop :=
  ∃ xs a cap, v = .slice a Ts.length cap ∧ Ts.length ≤ cap ∧ cap ≤ maxLen ∧ Items R S size xs Ts w ∧ (0 < Ts.length → ∃ b, a = some ⟨b, 0, none⟩ ∧ S b ∧ ∀ j, j < Ts.length * size → w.cell? ⟨b, j, none⟩ = xs[j]?)
theorem Rows.keep {α : Type} {R : World → List Value → α → Prop} {S G : Nat → Prop} {size : Nat} {v : Value} {Ts : List α} {w w' : World} (h : Rows R size S w v Ts) (hk : Keep G w w') (hd : ∀ b, S b → ¬ G b) : Rows R size S w' v Ts := by
  obtain ⟨xs, a, cap, rfl, h1, h2, h3, h4⟩ := h
  refine ⟨xs, a, cap, rfl, h1, h2, h3.keep hk hd, fun h0 => ?_⟩
  obtain ⟨b, rfl, hb, hc⟩ := h4 h0
  exact ⟨b, rfl, hb, fun j hj => by rw [World.cell?_of_block (w := w) (hk.block b (h3.2.1 b hb) (hd b hb))]; exact hc j hj⟩
theorem Rows.ext {α : Type} {R : World → List Value → α → Prop} {S : Nat → Prop} {size : Nat} {v : Value} {Ts : List α} {w w' : World} (h : Rows R size S w v Ts) (hk : Ext w w') : Rows R size S w' v Ts := h.keep (keep_ext (F := fun _ => False) hk) fun _ _ => id
theorem Rows.of_own {α : Type} {R : World → List Value → α → Prop} {S T : Nat → Prop} {size base e n : Nat} {v : Value} {xs : List Value} {Ts : List α} {w : World} (h : w.ownsRow base e size v n xs) (hn : n = Ts.length) (hi : Items R S size xs Ts w) (hS : ∀ b, S b → T b) (hv : ∀ b, v.ownBlock = some b → T b) (hT : ∀ b, T b → b < w.heap.size) : Rows R size T w v Ts := by
  subst hn
  obtain ⟨a, cap, rfl, h1, h2⟩ := own_len h
  refine ⟨xs, a, cap, rfl, h1, h2, hi.mono hS hT, fun h0 => ?_⟩
  obtain ⟨g, cap', he, _, _, hc⟩ := own_at h h0
  simp only [Value.slice.injEq] at he
  obtain ⟨rfl, -, rfl⟩ := he
  exact ⟨g, rfl, hv g rfl, hc⟩

theorem take_at {xs ys : List Value} {i m j : Nat} (h : (xs.drop i).take m = ys) (hj : j < m) : xs[i + j]? = ys[j]? := by rw [← h, List.getElem?_take, if_pos hj, List.getElem?_drop]
end
section
open Go.RowKit
open Go.Maps (Keyed)
open Go.ChangeMaps (setBlock heap_setBlock_same heap_setBlock_other)

def upd (dq : ∀ a b : Value, Decidable (a = b)) (f : Value → Option Value) (key val : Value) : Value → Option Value := fun x => match dq x key with | .isTrue _ => some val | .isFalse _ => f x
theorem upd_same {dq : ∀ a b : Value, Decidable (a = b)} (f : Value → Option Value) (key val : Value) : upd dq f key val key = some val := by
  unfold upd; cases dq key key with | isTrue _ => rfl | isFalse h => exact absurd rfl h
theorem upd_ne {dq : ∀ a b : Value, Decidable (a = b)} {f : Value → Option Value} {key val x : Value} (h : x ≠ key) : upd dq f key val x = f x := by
  unfold upd; cases dq x key with | isTrue e => exact absurd e h | isFalse _ => rfl

def MapIs (P : Program) (k : TypeId) (w : World) (b n : Nat) (f : Value → Option Value) : Prop :=
  ∃ es clock, w.heap[b]? = some (.map es clock) ∧ es.size ≤ n ∧ (∀ x ∈ es.toList, ∃ l, keyOf P k x.key = some l) ∧ (∀ x ∈ es.toList, f x.key = some x.val) ∧ (∀ key v, f key = some v → (∃ x ∈ es.toList, x.key = key ∧ x.val = v)) ∧ es.toList.Pairwise (fun x y => x.key ≠ y.key)

theorem MapIs.made (P : Program) (k : TypeId) {w : World} {b : Nat} {c : Nat} (h : w.heap[b]? = some (.map #[] c)) : MapIs P k w b 0 fun _ => none :=
  ⟨#[], c, h, Nat.le_refl _, by simp, by simp, (fun _ _ h => by cases h), by simp⟩
theorem MapIs.lt {P : Program} {k : TypeId} {w : World} {b n : Nat} {f : Value → Option Value} (h : MapIs P k w b n f) : b < w.heap.size := by
  obtain ⟨es, c, hb, _⟩ := h; exact (Array.getElem?_eq_some_iff.1 hb).1
theorem MapIs.keep {P : Program} {k : TypeId} {w w' : World} {b n : Nat} {f : Value → Option Value} (h : MapIs P k w b n f) (hb : w'.heap[b]? = w.heap[b]?) : MapIs P k w' b n f := by
  obtain ⟨es, c, h1, h2⟩ := h; exact ⟨es, c, hb.trans h1, h2⟩
theorem MapIs.mono {P : Program} {k : TypeId} {w : World} {b n m : Nat} {f : Value → Option Value} (h : MapIs P k w b n f) (hn : n ≤ m) : MapIs P k w b m f := by
  obtain ⟨es, c, h1, h2, h3⟩ := h; exact ⟨es, c, h1, by omega, h3⟩

theorem MapIs.look {P : Program} {k e t : TypeId} {w : World} {b n : Nat} {f : Value → Option Value} (h : MapIs P k w b n f) (K : Keyed P k) (ht : P.underlying t = some (.map k e)) {z : Value} (hz : (zeroValue e).run P w = .ok z w) {key : Value} {kl : Lit} (hkey : keyOf P k key = some kl) (c : Bool) :
    (Instr.lookup t (.map (some b)) key c).run P w = .ok (if c then .tuple #[(f key).getD z, .bool (f key).isSome] else (f key).getD z) w := by
  obtain ⟨es, clock, hb, _, hk, h1, h2, _⟩ := h
  rcases K.find w hkey es.toList hk with ⟨e1, e2⟩ | ⟨j, x, e1, e2, e3⟩
  · have hn : f key = none := by
      cases hf : f key with
      | none => rfl
      | some v => obtain ⟨x, hx, hxk, _⟩ := h2 key v hf; exact absurd hxk (e2 x hx)
    simp [Instr.lookup, run_underlying ht, MapKept.run_getObj_map hb, K.check w _ hkey, e1, hz, Result.andThen, hn]
  · have hm : x ∈ es.toList := List.mem_of_getElem? e2
    have hf := h1 x hm
    rw [e3] at hf
    simp [Instr.lookup, run_underlying ht, MapKept.run_getObj_map hb, K.check w _ hkey, e1, Result.andThen, hf]

theorem MapIs.store {P : Program} {k e t : TypeId} {w : World} {b n : Nat} {f : Value → Option Value} (h : MapIs P k w b n f) (K : Keyed P k) (ht : P.underlying t = some (.map k e)) (hn : n < maxLen) {key val : Value} {kl : Lit} (hkey : keyOf P k key = some kl) :
    ∃ w', (Instr.mapUpdate t (.map (some b)) key val).run P w = .ok () w' ∧ MapIs P k w' b (n + 1) (upd (fun _ _ => Classical.propDecidable _) f key val) ∧ w.grownBy w' (some b) := by
  obtain ⟨es, clock, hb, hs, hk, h1, h2, h3⟩ := h
  have hroom : es.size < maxLen := by omega
  rcases K.find w hkey es.toList hk with ⟨e1, e2⟩ | ⟨j, x, e1, e2, e3⟩
  · refine ⟨setBlock w b (.map (es.push ⟨key, val, clock⟩) (clock + 1)), ?_, ⟨es.push ⟨key, val, clock⟩, clock + 1, heap_setBlock_same hb _, by simp; omega, fun x hx => ?_, fun x hx => ?_, fun ky v hv => ?_, ?_⟩, ⟨rfl, rfl, rfl, by simp [setBlock], fun i _ hi => heap_setBlock_other hb _ (fun e => hi (by rw [e]))⟩⟩
    · simp [Instr.mapUpdate, run_underlying ht, MapKept.run_getObj_map hb, K.check w false hkey, e1, MapKept.run_setObj_map _ hb, Result.andThen, setBlock]
    · simp only [Array.toList_push, List.mem_append, List.mem_singleton] at hx
      rcases hx with hx | rfl
      · exact hk x hx
      · exact ⟨kl, hkey⟩
    · simp only [Array.toList_push, List.mem_append, List.mem_singleton] at hx
      rcases hx with hx | rfl
      · rw [upd_ne (e2 x hx)]; exact h1 x hx
      · exact upd_same _ _ _
    · by_cases c : ky = key
      · subst c; rw [upd_same] at hv; injection hv with hv; subst hv
        exact ⟨⟨_, _, clock⟩, by simp, rfl, rfl⟩
      · rw [upd_ne c] at hv
        obtain ⟨x, hx, a, d⟩ := h2 ky v hv
        exact ⟨x, by simp only [Array.toList_push, List.mem_append]; exact .inl hx, a, d⟩
    · rw [Array.toList_push, List.pairwise_append]
      exact ⟨h3, by simp, fun x hx y hy => by simp only [List.mem_singleton] at hy; subst hy; exact e2 x hx⟩
  · have hjl : j < es.toList.length := (List.getElem?_eq_some_iff.1 e2).1
    have hxe : es.toList[j] = x := by rw [List.getElem?_eq_getElem hjl] at e2; injection e2
    have hlist : (es.modify j (fun e' => { e' with key := key, val := val })).toList = es.toList.set j { x with key := key, val := val } := by
      apply List.ext_getElem?
      intro i
      rw [Array.getElem?_toList, Array.getElem?_modify, List.getElem?_set, Array.getElem?_toList]
      by_cases c : j = i
      · subst c
        have : es[j]? = some x := by simpa using e2
        simp [this]; omega
      · simp [c]
    have hmem : ∀ y, y ∈ es.toList.set j { x with key := key, val := val } → (y.key = key ∧ y.val = val) ∨ (y ∈ es.toList ∧ y.key ≠ key) := by
      intro y hy
      obtain ⟨i, hi, rfl⟩ := List.mem_iff_getElem.1 hy
      rw [List.getElem_set]
      split
      · exact .inl ⟨rfl, rfl⟩
      · rename_i c
        rw [List.length_set] at hi
        refine .inr ⟨List.getElem_mem _, fun e => ?_⟩
        rcases Nat.lt_or_ge i j with l | l
        · exact List.pairwise_iff_getElem.1 h3 i j hi hjl l (by rw [hxe, e3]; exact e)
        · exact List.pairwise_iff_getElem.1 h3 j i hjl hi (by omega) (by rw [hxe, e3]; exact e.symm)
    have hmem2 : ∀ y, y ∈ es.toList → y.key ≠ key → y ∈ es.toList.set j { x with key := key, val := val } := by
      intro y hy hne
      obtain ⟨i, hi, rfl⟩ := List.mem_iff_getElem.1 hy
      have c : j ≠ i := fun c => by subst c; exact hne (by rw [hxe]; exact e3)
      refine List.mem_iff_getElem.2 ⟨i, by rw [List.length_set]; exact hi, ?_⟩
      rw [List.getElem_set_ne c]
    refine ⟨setBlock w b (.map (es.modify j (fun e' => { e' with key := key, val := val })) clock), ?_, ⟨es.modify j (fun e' => { e' with key := key, val := val }), clock, heap_setBlock_same hb _, by simp; omega, ?_, ?_, ?_, ?_⟩, ⟨rfl, rfl, rfl, by simp [setBlock], fun i _ hi => heap_setBlock_other hb _ (fun e => hi (by rw [e]))⟩⟩
    · have hj : es[j]? = some x := by simpa using e2
      simp [Instr.mapUpdate, run_underlying ht, MapKept.run_getObj_map hb, K.check w false hkey, e1, hj, e3, K.stays w hkey, MapKept.run_setObj_map _ hb, Result.andThen, setBlock]
    · rw [hlist]; intro y hy
      rcases hmem y hy with h | h
      · exact ⟨kl, by rw [h.1]; exact hkey⟩
      · exact hk y h.1
    · rw [hlist]; intro y hy
      rcases hmem y hy with h | h
      · rw [h.1, h.2]; exact upd_same _ _ _
      · rw [upd_ne h.2]; exact h1 y h.1
    · rw [hlist]; intro ky v hv
      by_cases c : ky = key
      · subst c; rw [upd_same] at hv; injection hv with hv; subst hv
        exact ⟨_, List.mem_iff_getElem.2 ⟨j, by rw [List.length_set]; exact hjl, rfl⟩, by rw [List.getElem_set_self], by rw [List.getElem_set_self]⟩
      · rw [upd_ne c] at hv
        obtain ⟨y, hy, a, d⟩ := h2 ky v hv
        exact ⟨y, hmem2 y hy (by rw [a]; exact c), a, d⟩
    · rw [hlist, List.pairwise_iff_getElem]
      intro a c ha hc hac
      rw [List.length_set] at ha hc
      have hne := List.pairwise_iff_getElem.1 h3 a c ha hc hac
      rw [List.getElem_set, List.getElem_set]
      by_cases d1 : j = a
      · subst d1
        rw [if_pos rfl, if_neg (by omega)]
        rw [hxe, e3] at hne; exact hne
      · rw [if_neg d1]
        by_cases d2 : j = c
        · subst d2
          rw [if_pos rfl]; rw [hxe, e3] at hne; exact hne
        · rw [if_neg d2]; exact hne
end
section
open Go.RowKit
open Go.Maps (Keyed)

theorem keyedS : Keyed Tryz.prog 9 := Go.Maps.string_keyed Tryz.underlying9
theorem keyedI : Keyed Tryz.prog 3 := Go.Maps.int_keyed Tryz.underlying3
theorem laidO : laidOutB Tryz.prog = true := by kernel_rfl
theorem rowP : (183 : TypeId) < (Tryz.prog).types.size := of_decide_eq_true (by kernel_rfl)
theorem typesP : ∃ m, (Tryz.prog).types.size = m + 1 := by
  have h := rowP
  revert h
  generalize (Tryz.prog).types.size = q
  intro h
  cases q with
  | zero => exact absurd h (Nat.not_lt_zero _)
  | succ m => exact ⟨m, rfl⟩
theorem keyTypeAtP : (Tryz.prog).keyTypeAt 2 183 = true := by kernel_rfl
theorem keyedP : Keyed Tryz.prog 183 := Keyed.of_law (deep_law_laid laidO (m := 2) (by decide) rowP keyTypeAtP (by rw [Tryz.underlying183]))
theorem cellsP : (Tryz.prog).cellsOf 183 = 2 := by kernel_rfl
theorem cellsI : (Tryz.prog).cellsOf 3 = 1 := by kernel_rfl
theorem keyTypeP : (Tryz.prog).keyType 183 = true := by kernel_rfl

theorem int_wf {i : Nat} (h : i < 1000000000) : (Lit.int .i64 (i : Int)).wf = true := by
  have h1 : IntKind.min .i64 = -9223372036854775808 := by rfl
  have h2 : IntKind.max .i64 = 9223372036854775807 := by rfl
  simp only [Lit.wf, Bool.and_eq_true, decide_eq_true_eq, h1, h2]; omega
theorem keyOfS (s : ByteArray) (h : s.size ≤ maxLen) : ∃ l, keyOf Tryz.prog 9 (.string s) = some l := by
  exact ⟨_, by simp [keyOf, Tryz.underlying9, mapKey, h]; rfl⟩
theorem keyOfI (i : Nat) (h : i < 1000000000) : ∃ l, keyOf Tryz.prog 3 (.int .i64 (i : Int)) = some l :=
  ⟨_, Go.Maps.keyOf_int_mk Tryz.underlying3 (int_wf h)⟩
theorem keyLitI (d : Nat) (i : Nat) (h : i < 1000000000) : (Tryz.prog).keyLits (d + 1) 3 [.int .i64 (i : Int)] = some [.int .i64 (i : Int)] := by
  simp [Program.keyLits, Tryz.underlying3, int_wf h]
theorem keyOfP (a b : Nat) (ha : a < 1000000000) (hb : b < 1000000000) : ∃ l, keyOf Tryz.prog 183 (.agg #[.int .i64 (a : Int), .int .i64 (b : Int)]) = some l := by
  have hf : (Value.agg #[.int .i64 (a : Int), .int .i64 (b : Int)]).formed Tryz.prog 183 = true := by simp [Value.formed, Tryz.underlying183, cellsP]
  obtain ⟨m, hm⟩ := typesP
  have hl : (Tryz.prog).keyLits (m + 1 + 1) 183 [.int .i64 (a : Int), .int .i64 (b : Int)] = some [.int .i64 (a : Int), .int .i64 (b : Int)] := by
    unfold Program.keyLits
    simp only [Tryz.underlying183, cellsP, cellsI, List.length_cons, List.length_nil]
    simp [List.range, List.range.loop, keyLitI m a ha, keyLitI m b hb]
  exact ⟨_, by simp only [keyOf, Tryz.underlying183, hf, keyTypeP, Value.cells, hm, hl]; rfl⟩

section
variable {P : Program} {w : World} {ops : Array Oper} {rest : List Oper} {o : Oper} {a : Act} {Q : Exit → Act → World → Prop}

theorem look_list (hg : o.guard = none) (m x : Operand) (t : TypeId) (c : Bool) (hop : o.op = Op.lookup t m x c) (k e : TypeId) (K : Keyed P k) (ht : P.underlying t = some (.map k e)) (z : Value) (hz : (zeroValue e).run P w = .ok z w) (b n : Nat) (f : Value → Option Value)
    (hm : a.eval m = .map (some b)) (h : MapIs P k w b n f) (key : Value) (hx : a.eval x = key) (hkey : ∃ kl, keyOf P k key = some kl)
    (hK : wpList P ops Q rest (a.put o.dst (if c then .tuple #[(f key).getD z, .bool (f key).isSome] else (f key).getD z)) w) : wpList P ops Q (o :: rest) a w := by
  refine wpList_plain hg fun K' hK' => ?_
  obtain ⟨kl, hkl⟩ := hkey
  have hrun := h.look K ht hz hkl c
  unfold Oper.wp
  simp [execOp, hop, hm, hx, hrun, Result.andThen]
  exact hK' _ _ (by simpa using hK)

theorem store_list (hg : o.guard = none) (m x v : Operand) (t : TypeId) (hop : o.op = Op.mapUpdate t m x v) (k e : TypeId) (K : Keyed P k) (ht : P.underlying t = some (.map k e)) (b n : Nat) (f : Value → Option Value)
    (hm : a.eval m = .map (some b)) (h : MapIs P k w b n f) (hn : n < maxLen) (key val : Value) (hx : a.eval x = key) (hv : a.eval v = val) (hkey : ∃ kl, keyOf P k key = some kl)
    (hK : ∀ w', MapIs P k w' b (n + 1) (upd (fun _ _ => Classical.propDecidable _) f key val) → w.grownBy w' (some b) → wpList P ops Q rest (a.put o.dst undef) w') : wpList P ops Q (o :: rest) a w := by
  refine wpList_plain hg fun K' hK' => ?_
  obtain ⟨kl, hkl⟩ := hkey
  obtain ⟨w', hrun, r1, r2⟩ := h.store K ht hn hkl (val := val)
  unfold Oper.wp
  simp [execOp, hop, hm, hx, hv, hrun, Result.andThen]
  exact hK' _ _ (hK w' r1 r2)
end

theorem MapIs.room {P : Program} {k : TypeId} {w : World} {b n : Nat} {f : Value → Option Value} (h : MapIs P k w b n f) (L : List Value) (hL : ∀ key v, f key = some v → key ∈ L) : MapIs P k w b L.length f := by
  obtain ⟨es, c, h1, h2, h3, h4, h5, h6⟩ := h
  refine ⟨es, c, h1, ?_, h3, h4, h5, h6⟩
  have hn : (es.toList.map (·.key)).Nodup := by rw [List.Nodup, List.pairwise_map]; exact h6
  have hs : ∀ x, x ∈ es.toList.map (·.key) → x ∈ L := fun x hx => by
    obtain ⟨y, hy, rfl⟩ := List.mem_map.1 hx
    exact hL _ _ (h4 y hy)
  have := hn.length_le_of_subset hs
  simpa using this
end
end Go.Proofs.YteknjeohbcgpdaaGreatDoor
