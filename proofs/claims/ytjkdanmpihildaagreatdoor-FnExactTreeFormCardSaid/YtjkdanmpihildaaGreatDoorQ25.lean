/-
  Memory: what stays where some blocks stay; rows of things.
  Contract of the reference's l22Cuts.
-/
import Derived.Test.YtjkdanmpihildaaGreatDoorQ21
import Derived.Test.YtjkdanmpihildaaGreatDoorQ24
namespace Go.Proofs.YtjkdanmpihildaaGreatDoor
open Go.RowKit
open Cgt (Dag Nd vl Same)

def Sup (S : Nat → Prop) (A : World → Prop) (w : World) : Prop := (∀ b, S b → b < w.heap.size) ∧ ∀ w', (∀ b, S b → w'.heap[b]? = w.heap[b]?) → A w'
theorem Sup.out {S : Nat → Prop} {A : World → Prop} {w : World} (h : Sup S A w) : A w := h.2 w fun _ _ => rfl
theorem Sup.keep {S G : Nat → Prop} {A : World → Prop} {w w' : World} (h : Sup S A w) (hk : Keep G w w') (hd : ∀ b, S b → ¬ G b) : Sup S A w' :=
  ⟨fun b hb => Nat.lt_of_lt_of_le (h.1 b hb) hk.size, fun w2 h2 => h.2 w2 fun b hb => (h2 b hb).trans (hk.block b (h.1 b hb) (hd b hb))⟩
theorem Sup.ext {S : Nat → Prop} {A : World → Prop} {w w' : World} (h : Sup S A w) (hk : Ext w w') : Sup S A w' := h.keep (keep_ext (F := fun _ => False) hk) fun _ _ => id
theorem Sup.mono {S T : Nat → Prop} {A B : World → Prop} {w : World} (h : Sup S A w) (hS : ∀ b, S b → T b) (hT : ∀ b, T b → b < w.heap.size) (hA : ∀ W, A W → B W) : Sup T B w :=
  ⟨hT, fun w2 h2 => hA _ (h.2 w2 fun b hb => h2 b (hS b hb))⟩

theorem Ints.sup {w : World} {v : Value} {l : List Int} (h : Ints w v l) {S : Nat → Prop} (hS : ∀ b, S b → b < w.heap.size) (hv : ∀ b, v.ownBlock = some b → S b) : Sup S (fun W => Ints W v l) w :=
  ⟨hS, fun _ h2 => h.keep fun b _ hb => h2 b (hv b hb)⟩
theorem Nodes.sup {w : World} {base : Nat} {v : Value} {F : Dag} (h : Nodes w base v F) {S : Nat → Prop} (hS : ∀ b, S b → b < w.heap.size) (hv : ∀ b, base ≤ b → b < w.heap.size → S b) : Sup S (fun W => Nodes W 0 v F) w := by
  refine ⟨hS, fun w2 h2 => ?_⟩
  obtain ⟨a, cap, rfl, h1, h3, h4⟩ := h
  refine ⟨a, cap, rfl, h1, h3, fun h0 => ?_⟩
  obtain ⟨b, rfl, hb, hc⟩ := h4 h0
  refine ⟨b, rfl, Nat.zero_le _, fun i hi => ?_⟩
  obtain ⟨L, R, c1, c2, c3, c4, c5, c6⟩ := hc i hi
  have e := h2 b (hv b hb (lt_of_cell c1))
  have key : ∀ {v : Value} {l : List Int}, Ints w v l → (∀ b, v.ownBlock = some b → base ≤ b ∧ b < w.heap.size) → Ints w2 v l ∧ ∀ b, v.ownBlock = some b → l ≠ [] → b < w2.heap.size := fun hI hb => by
    have k := hI.keep (w' := w2) fun b _ he => h2 b (hv b (hb b he).1 (hb b he).2)
    exact ⟨k, fun b he hl => k.blk hl he⟩
  have hlt : ∀ b, base ≤ b ∧ b < w.heap.size → b < w2.heap.size := fun b hb => by
    have := h2 b (hv b hb.1 hb.2)
    rw [Array.getElem?_eq_getElem hb.2] at this
    exact (Array.getElem?_eq_some_iff.1 this).1
  exact ⟨L, R, by rw [World.cell?_of_block (w := w) e]; exact c1, by rw [World.cell?_of_block (w := w) e]; exact c2, (key c3 c5).1, (key c4 c6).1, fun b hb => ⟨Nat.zero_le _, hlt b (c5 b hb)⟩, fun b hb => ⟨Nat.zero_le _, hlt b (c6 b hb)⟩⟩

def Items {α : Type} (R : World → List Value → α → Prop) (S : Nat → Prop) (size : Nat) (xs : List Value) (Ts : List α) (w : World) : Prop :=
  xs.length = Ts.length * size ∧ Sup S (fun W => ∀ i (h : i < Ts.length), R W ((xs.drop (i * size)).take size) Ts[i]) w
theorem Items.nil {α : Type} {R : World → List Value → α → Prop} {S : Nat → Prop} {size : Nat} {w : World} (hS : ∀ b, S b → b < w.heap.size) : Items R S size [] [] w :=
  ⟨by simp, hS, fun _ _ i h => absurd h (by simp)⟩
theorem Items.keep {α : Type} {R : World → List Value → α → Prop} {S G : Nat → Prop} {size : Nat} {xs : List Value} {Ts : List α} {w w' : World} (h : Items R S size xs Ts w) (hk : Keep G w w') (hd : ∀ b, S b → ¬ G b) : Items R S size xs Ts w' := ⟨h.1, h.2.keep hk hd⟩
theorem Items.ext {α : Type} {R : World → List Value → α → Prop} {S : Nat → Prop} {size : Nat} {xs : List Value} {Ts : List α} {w w' : World} (h : Items R S size xs Ts w) (hk : Ext w w') : Items R S size xs Ts w' := ⟨h.1, h.2.ext hk⟩
theorem Items.mono {α : Type} {R : World → List Value → α → Prop} {S T : Nat → Prop} {size : Nat} {xs : List Value} {Ts : List α} {w : World} (h : Items R S size xs Ts w) (hS : ∀ b, S b → T b) (hT : ∀ b, T b → b < w.heap.size) : Items R T size xs Ts w :=
  ⟨h.1, h.2.mono hS hT fun _ h => h⟩
theorem Items.snoc {α : Type} {R : World → List Value → α → Prop} {S : Nat → Prop} {size : Nat} {xs ys : List Value} {Ts : List α} {t : α} {w : World} (h : Items R S size xs Ts w) (hy : ys.length = size) (k : Sup S (fun W => R W ys t) w) : Items R S size (xs ++ ys) (Ts ++ [t]) w := by
  refine ⟨by simp [h.1, hy, Nat.add_mul], h.2.1, fun w2 h2 i hi => ?_⟩
  by_cases c : i < Ts.length
  · rw [List.getElem_append_left c]
    have hm : i * size + size ≤ Ts.length * size := by rw [← Nat.succ_mul]; exact Nat.mul_le_mul_right _ c
    rw [List.drop_append_of_le_length (by rw [h.1]; omega), List.take_append_of_le_length (by rw [List.length_drop, h.1]; omega)]
    exact h.2.2 w2 h2 i c
  · have e : i = Ts.length := by simp at hi; omega
    subst e
    rw [List.getElem_append_right (Nat.le_refl _), ← h.1, List.drop_left, List.take_of_length_le (by omega)]
    simpa using k.2 w2 h2

def Rows {α : Type} (R : World → List Value → α → Prop) (size : Nat) (S : Nat → Prop) (w : World) (v : Value) (Ts : List α) : Prop :=
  ∃ xs a cap, v = .slice a Ts.length cap ∧ Ts.length ≤ cap ∧ cap ≤ maxLen ∧ Items R S size xs Ts w ∧ (0 < Ts.length → ∃ b, a = some ⟨b, 0, none⟩ ∧ S b ∧ ∀ j, j < Ts.length * size → w.cell? ⟨b, j, none⟩ = xs[j]?)
theorem Rows.keep {α : Type} {R : World → List Value → α → Prop} {S G : Nat → Prop} {size : Nat} {v : Value} {Ts : List α} {w w' : World} (h : Rows R size S w v Ts) (hk : Keep G w w') (hd : ∀ b, S b → ¬ G b) : Rows R size S w' v Ts := by
  obtain ⟨xs, a, cap, rfl, h1, h2, h3, h4⟩ := h
  refine ⟨xs, a, cap, rfl, h1, h2, h3.keep hk hd, fun h0 => ?_⟩
  obtain ⟨b, rfl, hb, hc⟩ := h4 h0
  exact ⟨b, rfl, hb, fun j hj => by rw [World.cell?_of_block (w := w) (hk.block b (h3.2.1 b hb) (hd b hb))]; exact hc j hj⟩
theorem Rows.ext {α : Type} {R : World → List Value → α → Prop} {S : Nat → Prop} {size : Nat} {v : Value} {Ts : List α} {w w' : World} (h : Rows R size S w v Ts) (hk : Ext w w') : Rows R size S w' v Ts := h.keep (keep_ext (F := fun _ => False) hk) fun _ _ => id
theorem Rows.of_own {α : Type} {R : World → List Value → α → Prop} {S T : Nat → Prop} {size base e n : Nat} {v : Value} {xs : List Value} {Ts : List α} {w : World} (h : w.ownsRow base e size v n xs) (hn : n = Ts.length) (hi : Items R S size xs Ts w) (hS : ∀ b, S b → T b) (hv : ∀ b, v.ownBlock = some b → T b) (hT : ∀ b, T b → b < w.heap.size) : Rows R size T w v Ts := by
  subst hn
  obtain ⟨a, cap, rfl, h1, h2⟩ := own_len h
  refine ⟨xs, a, cap, rfl, h1, h2, hi.mono hS hT, fun h0 => ?_⟩
  obtain ⟨g, cap', he, _, _, hc⟩ := own_at h h0
  simp only [Value.slice.injEq] at he
  obtain ⟨rfl, -, rfl⟩ := he
  exact ⟨g, rfl, hv g rfl, hc⟩

def TreeR (W : World) (ys : List Value) (t : List Int × ByteArray) : Prop := ∃ aU cU, ys = [.slice aU t.1.length cU, .string t.2] ∧ Ints W (.slice aU t.1.length cU) t.1
def FormR (W : World) (ys : List Value) (F : Dag) : Prop := ∃ aN cN, ys = [.slice aN F.length cN] ∧ Nodes W 0 (.slice aN F.length cN) F

theorem take_at {xs ys : List Value} {i m j : Nat} (h : (xs.drop i).take m = ys) (hj : j < m) : xs[i + j]? = ys[j]? := by rw [← h, List.getElem?_take, if_pos hj, List.getElem?_drop]
theorem Rows.forms {S : Nat → Prop} {w : World} {v : Value} {Fs : List Dag} (h : Rows FormR 1 S w v Fs) : Forms w v Fs := by
  obtain ⟨xs, a, cap, rfl, h1, h2, h3, h4⟩ := h
  refine ⟨a, cap, rfl, h1, by omega, fun h0 => ?_⟩
  obtain ⟨b, rfl, hb, hc⟩ := h4 h0
  refine ⟨b, rfl, fun i hi => ?_⟩
  obtain ⟨aN, cN, e, hN⟩ := h3.2.out i hi
  refine ⟨aN, cN, ?_, hN⟩
  have k := take_at e (j := 0) (by omega)
  rw [Nat.mul_one] at k
  rw [hc i (by omega)]; exact k
theorem Rows.tree {S : Nat → Prop} {w : World} {v : Value} {Ts : List (List Int × ByteArray)} (h : Rows TreeR 2 S w v Ts) {i : Nat} (hi : i < Ts.length) :
    ∃ b cap aU cU, v = .slice (some ⟨b, 0, none⟩) Ts.length cap ∧ S b ∧ w.cell? ⟨b, i * 2, none⟩ = some (.slice aU (Ts[i]).1.length cU) ∧ w.cell? ⟨b, i * 2 + 1, none⟩ = some (.string (Ts[i]).2) ∧ Sup S (fun W => Ints W (.slice aU (Ts[i]).1.length cU) (Ts[i]).1) w := by
  obtain ⟨xs, a, cap, rfl, h1, h2, h3, h4⟩ := h
  obtain ⟨b, rfl, hb, hc⟩ := h4 (by omega)
  obtain ⟨aU, cU, e, hN⟩ := h3.2.out i hi
  have k0 := take_at e (j := 0) (by omega)
  have k1 := take_at e (j := 1) (by omega)
  refine ⟨b, cap, aU, cU, rfl, hb, by rw [hc _ (by omega)]; exact k0, by rw [hc _ (by omega)]; exact k1, h3.2.1, fun w2 h2 => ?_⟩
  obtain ⟨aU', cU', e', hN'⟩ := h3.2.2 w2 h2 i hi
  rw [e] at e'
  simp only [List.cons.injEq, Value.slice.injEq, true_and, and_true] at e'
  obtain ⟨rfl, rfl⟩ := e'
  exact hN'

end Go.Proofs.YtjkdanmpihildaaGreatDoor

namespace Go.Proofs.YtjkdanmpihildaaGreatDoor
open Go.RowKit
open Cgt (Dag Nd vl Same)

theorem info_tree : (Tryz.prog.info? 31).map (fun i => (i.zero, i.size, i.bytes)) = some (some (.agg #[.slice none 0 0, .string ⟨#[]⟩]), 2, 40) := by kernel_rfl
theorem tree_cell {a : Option Addr} {n c : Nat} {s : ByteArray} : ∀ u ∈ ([.slice a n c, .string s] : List Value), u.oneCell' = true := by
  intro u hu; simp at hu; rcases hu with rfl | rfl <;> rfl

def CutsOf (us : List Int) (s : List UInt8) (left : Bool) (k : Nat) (Ts : List (List Int × ByteArray)) : Prop := Ts.map (fun t => (t.1, t.2.data.toList)) = (edges s left k).map fun e => (cutU us s e, cutS us s e)
theorem CutsOf.len {us : List Int} {s : List UInt8} {left : Bool} {k : Nat} {Ts : List (List Int × ByteArray)} (h : CutsOf us s left k Ts) : Ts.length = (edges s left k).length := by
  have := congrArg List.length h; simpa using this
theorem CutsOf.skip {us : List Int} {s : List UInt8} {left : Bool} {k : Nat} {Ts : List (List Int × ByteArray)} (h : CutsOf us s left k Ts) (hc : ((s.getD k 0 == 76) == left) = false) : CutsOf us s left (k + 1) Ts := by
  unfold CutsOf at *; rw [edges_succ, hc]; simpa using h
theorem CutsOf.take {us : List Int} {s : List UInt8} {left : Bool} {k : Nat} {Ts : List (List Int × ByteArray)} (h : CutsOf us s left k Ts) (hc : ((s.getD k 0 == 76) == left) = true) {so : ByteArray} (hs : so.data.toList = cutS us s k) : CutsOf us s left (k + 1) (Ts ++ [(cutU us s k, so)]) := by
  unfold CutsOf; rw [edges_succ, hc, if_pos rfl, List.map_append, List.map_append, h]; simp [hs]

theorem CutsOf.at {us : List Int} {s : List UInt8} {left : Bool} {k i : Nat} {Ts : List (List Int × ByteArray)} (h : CutsOf us s left k Ts) (hi : i < Ts.length) : ∃ e, (edges s left k)[i]? = some e ∧ (Ts[i]).1 = cutU us s e ∧ (Ts[i]).2.data.toList = cutS us s e := by
  have hl := h.len
  have h2 := congrArg (fun l => l[i]?) h
  simp only [List.getElem?_map, List.getElem?_eq_getElem hi, List.getElem?_eq_getElem (show i < (edges s left k).length by omega), Option.map_some, Option.some.injEq, Prod.mk.injEq] at h2
  exact ⟨_, List.getElem?_eq_getElem (by omega), h2.1, h2.2⟩
def CutsPost (us : List Int) (s : List UInt8) (left : Bool) (w : World) (en : Ending) (w' : World) : Prop :=
  ∃ v Ts, en = .returned v ∧ Rows TreeR 2 (fun b => w.heap.size ≤ b ∧ b < w'.heap.size) w' v Ts ∧ CutsOf us s left us.length Ts ∧ Ext w w'

def KS (w wr : World) (v : Value) (b : Nat) : Prop := w.heap.size ≤ b ∧ b < wr.heap.size ∧ v.ownBlock ≠ some b

theorem Items.push {α : Type} {R : World → List Value → α → Prop} {w wr w1 w5 : World} {v v5 : Value} {size base e n : Nat} {xs ys zs : List Value} {Ts : List α} {t : α} {X : Obj} (hit : Items R (KS w wr v) size xs Ts wr) (hE : Ext w wr) (hx : Ext wr w1) (ho : wr.ownsRow base e size v n zs) (hy : ys.length = size)
    (hn : Sup (fun b => wr.heap.size ≤ b ∧ b < w1.heap.size) (fun W => R W ys t) w1) (hg : (w1.alloc X).grownBy w5 v.ownBlock) (hl : Lies (w1.alloc X) v v5) : Items R (KS w w5 v5) size (xs ++ ys) (Ts ++ [t]) w5 := by
  have z0 := hE.size
  have z1 := hx.size
  have z5 := hg.size
  rw [World.size_alloc] at z5
  have key : ∀ b, KS w w1 v b → KS w w5 v5 b := fun b hb => ⟨hb.1, by have := hb.2.1; omega, fun e => by
    rcases hl with h | ⟨q, h, h2⟩
    · exact hb.2.2 (by rw [← h]; exact e)
    · rw [h] at e; injection e with e; rw [World.size_alloc] at h2; have := hb.2.1; omega⟩
  have h1 : Items R (KS w w1 v) size (xs ++ ys) (Ts ++ [t]) w1 :=
    Items.snoc ((hit.ext hx).mono (fun b hb => ⟨hb.1, by have := hb.2.1; omega, hb.2.2⟩) (fun b hb => hb.2.1)) hy (hn.mono (fun b hb => ⟨by omega, hb.2, fun e => by have := (ho.lt b e).2; omega⟩) (fun b hb => hb.2.1) (fun _ h => h))
  exact ((h1.ext (ext_alloc (Below.refl _ _) X)).keep (G := fun b => v.ownBlock = some b) ⟨hg.os, hg.tape, hg.output, hg.size, fun k hk hn => hg.block k hk (fun e => hn e.symm)⟩ (fun b hb => hb.2.2)).mono key (fun b hb => hb.2.1)

set_option maxHeartbeats 2000000 in
set_option maxRecDepth 100000 in
theorem l22Cuts_any (vu : Value) (us : List Int) (sb : ByteArray) (left : Bool) (w : World) (hv : Ints w vu us) (g : GT us sb.data.toList) :
    Calls Tryz.prog 32 #[.agg #[vu, .string sb], .bool left] w (CutsPost us sb.data.toList left w) := by
  obtain ⟨i0, hi0, hz0, hz1, hz2⟩ := info_parts info_tree
  obtain ⟨au, capu, rfl, hlc, hcap, hc⟩ := id hv
  have hn8 := g.small
  generalize hn : us.length = n at *
  go_enter Tryz.func32, Tryz.ntmps32
  go_wp2
  have hxb : Ext w (w.alloc (.cells #[.slice au n capu, .string sb] 31)) := by go_grown
  have hbb := heap_alloc_new w (.cells #[.slice au n capu, .string sb] 31)
  have hze : (w.alloc (.cells #[.slice au n capu, .string sb] 31)).heap.size = w.heap.size + 1 := by simp
  generalize w.alloc (.cells #[.slice au n capu, .string sb] 31) = W0 at *
  have hx0 := hxb.size
  have hzb := blk_lt hbb
  have hr0 : (W0.alloc (.cells #[] 31)).ownsRow w.heap.size 31 2 (.slice (some ⟨W0.heap.size, 0, none⟩) 0 0) 0 [] := World.ownsRow_made W0 #[] 0 (by omega) (by decide) (by simp)
  rw [hze] at hr0
  clear hze
  have hxc : Ext w (W0.alloc (.cells #[] 31)) := ext_alloc hxb _
  have hbc : (W0.alloc (.cells #[] 31)).heap[w.heap.size]? = some (.cells #[.slice au n capu, .string sb] 31 (0, 0)) := by rw [Below.heap_alloc _ _ _ hzb]; exact hbb
  go_loopw [5, 6] (fun ov ii wr => ∃ k Ts xs, k ≤ n ∧ ii = .int .i64 ((k : Nat) : Int) ∧ Ext w wr ∧ wr.heap[w.heap.size]? = some (.cells #[.slice au n capu, .string sb] 31 (0, 0)) ∧ wr.ownsRow w.heap.size 31 2 ov Ts.length xs ∧ (∀ b, ov.ownBlock = some b → w.heap.size < b) ∧ Items TreeR (KS w wr ov) 2 xs Ts wr ∧ Hid (CutsOf us sb.data.toList left k Ts)) (fun _ ii _ => n - (intOf ii).toNat)
  case atStart => exact ⟨0, [], [], Nat.zero_le _, rfl, hxc, hbc, hr0, fun b hb => by simp [Value.ownBlock] at hb; omega, Items.nil fun b hb => hb.2.1, by simp [Hid, CutsOf, edges]⟩
  case round =>
    clear hr0 hxc hbc hbb hxb
    obtain ⟨k, Ts, xs, hk, rfl, hE, hbox, hown, hsep, hit, HT⟩ := hrel
    have c0 := cell_of_row wr w.heap.size 0 _ _ _ hbox
    have c1 := cell_of_row wr w.heap.size 1 _ _ _ hbox
    by_cases hlt : k < n
    · have h1 : ((k : Nat) : Int) < (n : Int) := by omega
      have hsl : k < sb.data.toList.length := by have := g.len; omega
      have hkb : k < sb.size := by have : sb.size = sb.data.size := rfl; simp at hsl; omega
      have hgd : sb.data.toList.getD k 0 = sb[k] := by rw [List.getD_eq_getElem?_getD, List.getElem?_eq_getElem hsl]; rfl
      have h76 : (sb.data.toList.getD k 0 == 76) = (((sb[k].toNat : Nat) : Int) == 76) := by
        rw [hgd, Bool.eq_iff_iff, beq_iff_eq, beq_iff_eq, ← UInt8.toNat_inj]
        constructor
        · intro h; rw [h]; rfl
        · intro h; show sb[k].toNat = 76; omega
      cases hcc : (((((sb[k].toNat : Nat) : Int) == 76)) == left) with
      | false =>
        have HR := Lib.hid (HT.out.skip (by rw [h76]; exact hcc))
        clear h76 hgd
        go_wp2
        go_roundw
        case rel => exact ⟨k + 1, Ts, xs, by omega, by go_num, hE, hbox, hown, hsep, hit, HR.out⟩
        case measure => simp [intOf]; omega
      | true =>
        have HR := fun so => Lib.hid (HT.out.take (so := so) (by rw [h76]; exact hcc))
        clear h76 hgd
        have hlen := HT.out.len
        have hle := (edges_len sb.data.toList k)
        have hTl : Ts.length ≤ k := by rw [hlen]; cases left <;> omega
        clear hlen hle
        obtain ⟨ao, co, rfl, hco, _⟩ := own_len hown
        have hvk := hv.ext hE
        go_wp2_with (first
          | (go_at_call 46; refine (l22Cut_any _ us sb k _ hvk g (by omega)).mono ?_; rintro e w1 ⟨vo, so, rfl, hI, hso, hfr, hx1⟩
             obtain ⟨av, cv, rfl, -⟩ := id hI
             have hit1 := hit.ext hx1
             have hE1 := ext_trans hE hx1
             have hown1 := own_keep hown hx1
             have hzw := hE1.size)
          | (at_builtin; refine app_list rfl (.tmp 22) (.tmp 26) 50 rfl w.heap.size 31 i0 (.agg #[.slice none 0 0, .string ⟨#[]⟩]) 2 40 Tryz.underlying50 hi0 hz0 hz1 hz2 rfl (by decide) (.slice ao Ts.length co) Ts.length xs rfl (hown1.alloc _) _ 1 _ [.slice av (cutU us sb.data.toList k).length cv, .string so] rfl rfl (.inr ⟨_, rfl, two_src (w := w1)⟩) tree_cell (by unfold maxLen; omega) (by omega) (by rw [World.size_alloc]; omega) ?_; intro v5 w5 ho5 hg5 hl5))
        go_roundw
        case rel =>
          have hE5 : Ext w w5 := ext_grown (ext_alloc hE1 _) hg5 (fun b hb => by have := hsep b hb; omega)
          have hbox5 : w5.heap[w.heap.size]? = some (.cells #[.slice au n capu, .string sb] 31 (0, 0)) := by
            have hb1 := hbox
            rw [← hx1.block _ (blk_lt hbox)] at hb1
            rw [hg5.block _ (by rw [World.size_alloc]; have := blk_lt hb1; omega) (fun e => by have := hsep _ e.symm; omega), Below.heap_alloc _ _ _ (blk_lt hb1)]; exact hb1
          have hsep5 : ∀ b, v5.ownBlock = some b → w.heap.size < b := fun b hb => by
            rcases hl5 with h | ⟨q, h, h2⟩
            · exact hsep b (by rw [← h]; exact hb)
            · rw [h] at hb; injection hb with hb; subst hb; rw [World.size_alloc] at h2; have := blk_lt hbox; have := hx1.size; omega
          exact ⟨k + 1, Ts ++ [(cutU us sb.data.toList k, so)], xs ++ [.slice av (cutU us sb.data.toList k).length cv, .string so], by omega, by go_num, hE5, hbox5, by rw [List.length_append]; exact ho5, hsep5, Items.push hit hE hx1 hown rfl (Sup.mono (hI.sup (S := fun b => wr.heap.size ≤ b ∧ b < w1.heap.size) (fun b hb => hb.2) (fun b hb => hfr b hb)) (fun _ h => h) (fun b hb => hb.2) (fun W hW => ⟨av, cv, rfl, hW⟩)) hg5 hl5, (HR so).out hso⟩
        case measure => simp [intOf]; omega
    · have h1 : ¬ (((k : Nat) : Int) < (n : Int)) := by omega
      have hke : k = n := by omega
      subst hke
      have hz := hE.size
      go_wp2
      go_ret
      exact ⟨_, Ts, rfl, Rows.of_own hown rfl hit (fun b hb => ⟨hb.1, hb.2.1⟩) (fun b hb => ⟨by have := hsep b hb; omega, (hown.lt b hb).2⟩) (fun b hb => hb.2), by rw [hn]; exact HT.out, hE⟩

end Go.Proofs.YtjkdanmpihildaaGreatDoor
