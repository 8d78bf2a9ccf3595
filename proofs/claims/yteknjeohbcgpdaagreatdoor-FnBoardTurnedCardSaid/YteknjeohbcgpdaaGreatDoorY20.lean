/-
  The program's pool behind node: a node more.
-/
import Derived.Test.YteknjeohbcgpdaaGreatDoorY5
import Derived.Test.YteknjeohbcgpdaaGreatDoorY17
import Derived.Test.YteknjeohbcgpdaaGreatDoorY19
import Derived.Laws.BytesArg
set_option maxRecDepth 100000
namespace Go.Proofs.YteknjeohbcgpdaaGreatDoor
open Go.RowKit
open Cgt (Dag Nd vl Same)

theorem ext_keep {a b c : World} {G : Nat → Prop} (h : Ext a b) (k : Keep G b c) (hG : ∀ x, G x → a.heap.size ≤ x) : Ext a c :=
  ⟨k.os.trans h.os, k.tape.trans h.tape, k.output.trans h.output, Nat.le_trans h.size k.size, fun x hx => (k.block x (Nat.lt_of_lt_of_le hx h.size) (fun g => by have := hG x g; omega)).trans (h.block x hx)⟩
theorem keep_grownO {w w' : World} {o : Option Nat} (g : w.grownBy w' o) : Keep (fun b => o = some b) w w' := ⟨g.os, g.tape, g.output, g.size, fun k hk hn => g.block k hk (fun e => hn e.symm)⟩

theorem box_facts {w : World} {pp : Nat} {c : Array Value} {T : TypeId} (h : w.heap[pp]? = some (.cells c T (0, 0))) : pp < w.heap.size ∧ (∀ j v, c[j]? = some v → w.cell? ⟨pp, j, none⟩ = some v) ∧ ∀ j, w.frozen? ⟨pp, j, none⟩ = false := by
  refine ⟨blk_lt h, fun j v hj => (cell_of_row w pp j _ _ _ h).trans hj, fun j => ?_⟩
  simp [World.frozen?, h]
theorem box_mid {w w1 : World} {pp : Nat} {c : Array Value} {T : TypeId} {X : Obj} {o : Option Nat} (h : w.heap[pp]? = some (.cells c T (0, 0))) (hg : (w.alloc X).grownBy w1 o) (ho : o ≠ some pp) : w1.heap[pp]? = some (.cells c T (0, 0)) := by
  have hl := blk_lt h
  rw [hg.block pp (by rw [World.size_alloc]; omega) (Ne.symm ho), Below.heap_alloc _ _ _ hl]; exact h
theorem row_mid {w w1 : World} {B e size n : Nat} {v : Value} {xs : List Value} {X : Obj} {o : Option Nat} (h : w.ownsRow B e size v n xs) (hg : (w.alloc X).grownBy w1 o) (ho : ∀ b, v.ownBlock = some b → o ≠ some b) : w1.ownsRow B e size v n xs :=
  own_keepG (own_keep h (ext_alloc (Below.refl _ _) X)) (keep_grownO hg) ho

theorem field_app {w w1 : World} {pp j : Nat} {v v1 : Value} {c : Array Value} {T e : TypeId} {n : Nat} {ys : List Value} {X : Obj}
    (hb : w.heap[pp]? = some (.cells c T (0, 0))) (hv : v.ownBlock ≠ some pp) (hg : (w.alloc X).grownBy w1 v.ownBlock) (ho : w1.ownsRow 0 e 1 v1 n ys) (hl : Lies (w.alloc X) v v1) :
    (w1.setCell ⟨pp, j, none⟩ v1).heap[pp]? = some (.cells (c.setIfInBounds j v1) T (0, 0)) ∧ (w1.setCell ⟨pp, j, none⟩ v1).ownsRow 0 e 1 v1 n ys ∧ Keep (fun b => b = pp ∨ v.ownBlock = some b) w (w1.setCell ⟨pp, j, none⟩ v1) ∧ (v1.ownBlock = v.ownBlock ∨ ∃ g, v1.ownBlock = some g ∧ w.heap.size ≤ g) ∧ v1.ownBlock ≠ some pp := by
  have hlt := blk_lt hb
  have h1 := box_mid hb hg hv
  have hL : v1.ownBlock = v.ownBlock ∨ ∃ g, v1.ownBlock = some g ∧ w.heap.size ≤ g := by
    rcases hl with h | ⟨g, h, k⟩
    · exact .inl h
    · rw [World.size_alloc] at k; exact .inr ⟨g, h, by omega⟩
  have hpp : v1.ownBlock ≠ some pp := by
    rcases hL with h | ⟨g, h, k⟩
    · rw [h]; exact hv
    · rw [h]; intro e; injection e with e; omega
  refine ⟨heap_setCell_same _ _ _ _ _ _ h1, ownsRow_setCell_other ho (a := ⟨pp, j, none⟩) hpp v1, ⟨hg.os, hg.tape, hg.output, ?_, fun k hk hn => ?_⟩, hL, hpp⟩
  · rw [World.size_setCell]; have := hg.size; rw [World.size_alloc] at this; omega
  · rw [heap_setCell_other _ _ _ _ (fun e => hn (.inl e)), hg.block k (by rw [World.size_alloc]; omega) (fun e => hn (.inr e.symm)), Below.heap_alloc _ _ _ hk]

theorem CnOk.more {D E : Dag} {cn : Nat → Option Nat} (h : CnOk D cn) (hD : Cgt.WF D) (hE : Cgt.WF (D ++ E)) : CnOk (D ++ E) cn := by
  refine ⟨fun i j hi => ?_, fun i j hi => ?_, h.self, fun i j nd hi hn => ?_⟩
  · have := h.lt i j hi; simp; omega
  · have hl := h.lt i j hi
    rw [Cgt.vl_append hD hE i hl.1, Cgt.vl_append hD hE j hl.2]; exact h.ok i j hi
  · have hl := h.lt i j hi
    rw [List.getElem?_append_left hl.1] at hn
    exact h.sub i j nd hi hn

theorem bornTo_append {D E : Dag} (hD : Cgt.WF D) (hE : Cgt.WF (D ++ E)) (l : List Nat) (hl : ∀ x, x ∈ l → x < D.length) : bornTo (D ++ E) l = bornTo D l := by
  have key : ∀ (k : List Nat) (m : Int), (∀ x, x ∈ k → x < D.length) → k.foldl (fun m x => max m ((Cgt.born (vl (D ++ E) x) : Int) + 1)) m = k.foldl (fun m x => max m ((Cgt.born (vl D x) : Int) + 1)) m := by
    intro k
    induction k with
    | nil => intro m _; rfl
    | cons x k ih =>
      intro m hx
      simp only [List.foldl_cons]
      rw [Cgt.vl_append hD hE x (hx x (by simp))]
      exact ih _ (fun y hy => hx y (by simp [hy]))
  exact key _ _ hl

def PNodePost (pp h : Nat) (s : PSt) (l r : List Nat) (w : World) (e : Ending) (w' : World) : Prop :=
  ∃ s' i, e = .returned (.int .i64 ((i : Nat) : Int)) ∧ PGo pp h s w s' w' ∧ PutRel s.D l r s'.D i ∧ s'.cn = s.cn

theorem upd_old {f : Value → Option Value} {key val k v : Value} (h : upd (fun _ _ => Classical.propDecidable _) f key val k = some v) : (k = key ∧ v = val) ∨ f k = some v := by
  by_cases c : k = key
  · subst c; rw [upd_same] at h; injection h with h; exact .inl ⟨rfl, h.symm⟩
  · rw [upd_ne c] at h; exact .inr h

theorem node_end {w wp w1 w2 w3 w4 : World} {pp h : Nat} {s : PSt} {l r : List Nat} {L R lv1 rv1 bv1 : Value} {f : Value → Option Value} {xl xr : List Value}
    (hP : PoolAt w pp h s) (hE : Ext w wp) (hroom : s.D.length + 1 ≤ 900000) (hl : ∀ x, x ∈ l → x < s.D.length) (hr : ∀ x, x ∈ r → x < s.D.length)
    (hL : Ints wp L (toZ (sortN l))) (hR : Ints wp R (toZ (sortN r))) (fL : ∀ b, L.ownBlock = some b → w.heap.size ≤ b ∧ b < wp.heap.size) (fR : ∀ b, R.ownBlock = some b → w.heap.size ≤ b ∧ b < wp.heap.size)
    (hf1 : ∀ i (hi : i < s.D.length), f (keyV s.D[i]) = some (.int .i64 (i : Int))) (hf2 : ∀ k v, f k = some v → ∃ i, ∃ hi : i < s.D.length, k = keyV s.D[i] ∧ v = .int .i64 (i : Int)) (hfn : f (keyV (sortN l, sortN r)) = none)
    (hM : MapIs Tryz.prog 9 w1 h (s.D.length + 1) (upd (fun _ _ => Classical.propDecidable _) f (keyV (sortN l, sortN r)) (.int .i64 ((s.D.length : Nat) : Int)))) (hg1 : wp.grownBy w1 (some h))
    (hxl : wp.ownsRow 0 80 1 s.lv s.D.length xl) (hil : Items ListR s.S 1 xl (s.D.map (·.1)) wp) (hxr : wp.ownsRow 0 80 1 s.rv s.D.length xr) (hir : Items ListR s.S 1 xr (s.D.map (·.2)) wp)
    (hg2 : (w1.alloc (.cells #[L] 80)).grownBy w2 s.lv.ownBlock) (ho2 : w2.ownsRow 0 80 1 lv1 (s.D.length + 1) (xl ++ [L])) (hl2 : Lies (w1.alloc (.cells #[L] 80)) s.lv lv1)
    (hg3 : ((w2.setCell ⟨pp, 0, none⟩ lv1).alloc (.cells #[R] 80)).grownBy w3 s.rv.ownBlock) (ho3 : w3.ownsRow 0 80 1 rv1 (s.D.length + 1) (xr ++ [R])) (hl3 : Lies ((w2.setCell ⟨pp, 0, none⟩ lv1).alloc (.cells #[R] 80)) s.rv rv1)
    (hg4 : ((w3.setCell ⟨pp, 1, none⟩ rv1).alloc (.cells #[.int .i64 (bornTo s.D (sortN l ++ sortN r))] 3)).grownBy w4 s.bv.ownBlock) (ho4 : w4.ownsRow 0 3 1 bv1 (s.D.length + 1) ((s.D.mapIdx fun i _ => (Cgt.born (vl s.D i) : Int)).map (Value.int .i64) ++ [.int .i64 (bornTo s.D (sortN l ++ sortN r))])) (hl4 : Lies ((w3.setCell ⟨pp, 1, none⟩ rv1).alloc (.cells #[.int .i64 (bornTo s.D (sortN l ++ sortN r))] 3)) s.bv bv1) :
    PNodePost pp h s l r w (.returned (.int .i64 ((s.D.length : Nat) : Int))) (w4.setCell ⟨pp, 2, none⟩ bv1) := by
  have hPp := hP.ext hE
  have hg := hP.good
  have k1 := keep_grown hg1
  have hb1 : w1.heap[pp]? = _ := (k1.block pp (blk_lt hPp.box) (fun e => by have := hP.ap1; omega)).trans hPp.box
  have l2 : s.lv.ownBlock ≠ some pp := fun e => (hP.ap2 pp (.inl e)).1 rfl
  have r2 : s.rv.ownBlock ≠ some pp := fun e => (hP.ap2 pp (.inr (.inl e))).1 rfl
  have b2 : s.bv.ownBlock ≠ some pp := fun e => (hP.ap2 pp (.inr (.inr e))).1 rfl
  obtain ⟨hb2, hw2, k2, z2, q2⟩ := field_app (j := 0) hb1 l2 hg2 ho2 hl2
  obtain ⟨hb3, hw3, k3, z3, q3⟩ := field_app (j := 1) hb2 r2 hg3 ho3 hl3
  obtain ⟨hb4, hw4, k4, z4, q4⟩ := field_app (j := 2) hb3 b2 hg4 ho4 hl4
  have s0 := hE.size
  have s1 := k1.size
  have s2 : w1.heap.size ≤ _ := k2.size
  have s3 := k3.size
  have s4 := k4.size
  have hlv := hxl.lt
  have hrv := hxr.lt
  have hbv := hPp.born.lt
  have hmap : ∀ {m}, m < h + 1 + 1 + 1 + 1 + 1 → m < w.heap.size := fun hm => hP.mapsLt hm

  have oL : ∀ b, lv1.ownBlock = some b → s.lv.ownBlock = some b ∨ wp.heap.size ≤ b := fun b hb => by
    rcases z2 with e | ⟨g, e, k⟩
    · exact .inl (e ▸ hb)
    · rw [e] at hb; injection hb with hb; exact .inr (by omega)
  have oR : ∀ b, rv1.ownBlock = some b → s.rv.ownBlock = some b ∨ (w2.setCell ⟨pp, 0, none⟩ lv1).heap.size ≤ b := fun b hb => by
    rcases z3 with e | ⟨g, e, k⟩
    · exact .inl (e ▸ hb)
    · rw [e] at hb; injection hb with hb; exact .inr (by omega)
  have oB : ∀ b, bv1.ownBlock = some b → s.bv.ownBlock = some b ∨ (w3.setCell ⟨pp, 1, none⟩ rv1).heap.size ≤ b := fun b hb => by
    rcases z4 with e | ⟨g, e, k⟩
    · exact .inl (e ▸ hb)
    · rw [e] at hb; injection hb with hb; exact .inr (by omega)
  have lLt : ∀ b, lv1.ownBlock = some b → b < (w2.setCell ⟨pp, 0, none⟩ lv1).heap.size := fun b hb => (hw2.lt b hb).2
  have rLt : ∀ b, rv1.ownBlock = some b → b < (w3.setCell ⟨pp, 1, none⟩ rv1).heap.size := fun b hb => (hw3.lt b hb).2

  have K : Keep (POwn pp h s) wp (w4.setCell ⟨pp, 2, none⟩ bv1) := by
    refine ((Keep.trans (F := POwn pp h s) ⟨k1.os, k1.tape, k1.output, k1.size, fun k hk hn => k1.block k hk (fun e => hn (.inr (.inl (by omega))))⟩ (⟨k2.os, k2.tape, k2.output, k2.size, k2.block⟩ : Keep (fun b => b = pp ∨ s.lv.ownBlock = some b) w1 _) ?_).trans k3 ?_).trans k4 ?_
    · rintro x _ (rfl | h); exact .inl rfl; exact .inr (.inr (.inl h))
    · rintro x _ (rfl | h); exact .inl rfl; exact .inr (.inr (.inr (.inl h)))
    · rintro x _ (rfl | h); exact .inl rfl; exact .inr (.inr (.inr (.inr h)))

  have rowL : (w4.setCell ⟨pp, 2, none⟩ bv1).ownsRow 0 80 1 lv1 (s.D.length + 1) (xl ++ [L]) := by
    refine own_keepG (own_keepG hw2 k3 ?_) k4 ?_
    · rintro b hb (rfl | hc)
      · exact q2 hb
      · rcases oL b hb with h1 | h1
        · exact (hP.ap3 b h1).1 hc
        · have := (hrv b hc).2; omega
    · rintro b hb (rfl | hc)
      · exact q2 hb
      · rcases oL b hb with h1 | h1
        · exact (hP.ap3 b h1).2 hc
        · have := (hbv b hc).2; omega
  have rowR : (w4.setCell ⟨pp, 2, none⟩ bv1).ownsRow 0 80 1 rv1 (s.D.length + 1) (xr ++ [R]) := by
    refine own_keepG hw3 k4 ?_
    rintro b hb (rfl | hc)
    · exact q3 hb
    · rcases oR b hb with h1 | h1
      · exact hP.ap4 b h1 hc
      · have := (hbv b hc).2; omega

  have hmk : ∀ m, h ≤ m → m < h + 1 + 1 + 1 + 1 + 1 → (w4.setCell ⟨pp, 2, none⟩ bv1).heap[m]? = w1.heap[m]? := fun m m1 m2 => by
    have hm := hmap m2
    have hpp := hP.ap1
    have n1 : m ≠ pp := by omega
    have nn : ∀ b, s.lv.ownBlock = some b ∨ s.rv.ownBlock = some b ∨ s.bv.ownBlock = some b → b ≠ m := fun b hb => by have := (hP.ap2 b hb).2; omega
    rw [k4.block m (by omega) (by rintro (e | e); exact n1 e; exact nn m (.inr (.inr e)) rfl), k3.block m (by omega) (by rintro (e | e); exact n1 e; exact nn m (.inr (.inl e)) rfl), k2.block m (by omega) (by rintro (e | e); exact n1 e; exact nn m (.inl e) rfl)]
  have hmk1 : ∀ m, h < m → m < h + 1 + 1 + 1 + 1 + 1 → (w4.setCell ⟨pp, 2, none⟩ bv1).heap[m]? = wp.heap[m]? := fun m m1 m2 => by
    rw [hmk m (by omega) m2]; exact k1.block m (by have := hmap m2; omega) (by omega)
  have hnd : (sortN l, sortN r) ∉ s.D := fun hm => by
    obtain ⟨i, hi, e⟩ := List.mem_iff_getElem.1 hm
    have := hf1 i hi
    rw [e, hfn] at this; cases this
  have hgn : Cgt.Good (s.D ++ [(sortN l, sortN r)]) := hg.snoc (fun k hk => hl k (sortN_mem.1 hk)) (fun k hk => hr k (sortN_mem.1 hk)) (sortN_asc l) (sortN_asc r) hnd
  have hvl : ∀ x, x < s.D.length → vl (s.D ++ [(sortN l, sortN r)]) x = vl s.D x := fun x hx => Cgt.vl_append hg.wf hgn.wf x hx
  have hlast : (s.D ++ [(sortN l, sortN r)])[s.D.length]? = some (sortN l, sortN r) := by simp
  have hlen : (s.D ++ [(sortN l, sortN r)]).length = s.D.length + 1 := by simp
  have hmem : ∀ x, x ∈ sortN l ++ sortN r → x < s.D.length := fun x hx => by
    rcases List.mem_append.1 hx with h | h
    · exact hl x (sortN_mem.1 h)
    · exact hr x (sortN_mem.1 h)
  have hb0 := bornTo_bd hg.wf _ hmem
  have hbn := bornTo_append hg.wf hgn.wf _ hmem
  have hlts : ∀ b, s.S b → b < wp.heap.size ∧ ¬ POwn pp h s b := fun b hb => ⟨hPp.listLt hb, hP.ap5 b hb⟩
  have hKw : ∀ b, w.heap.size ≤ b → ¬ POwn pp h s b := fun b hb hc => by have := hP.ownLt hc; omega
  let S' : Nat → Prop := fun b => s.S b ∨ L.ownBlock = some b ∨ R.ownBlock = some b
  have hS' : ∀ b, S' b → b < wp.heap.size ∧ ¬ POwn pp h s b := by
    rintro b (hb | hb | hb)
    · exact hlts b hb
    · exact ⟨(fL b hb).2, hKw b (fL b hb).1⟩
    · exact ⟨(fR b hb).2, hKw b (fR b hb).1⟩
  have listR : ∀ {v : Value} {k : List Nat}, Ints wp v (toZ k) → (∀ b, v.ownBlock = some b → S' b) → Sup S' (fun W => ListR W [v] k) wp := fun {v k} hv hb => by
    obtain ⟨a, c, rfl, -⟩ := id hv
    refine ⟨fun b hb => (hS' b hb).1, fun w2 h2 => ⟨a, c, by rw [toZ_len], ?_⟩⟩
    have := (hv.sup (fun b hb => (hS' b hb).1) hb).2 w2 h2
    rw [toZ_len] at this; exact this
  have itemsL : Items ListR S' 1 (xl ++ [L]) (s.D.map (·.1) ++ [sortN l]) wp := (hil.mono (fun b hb => .inl hb) (fun b hb => (hS' b hb).1)).snoc rfl (listR hL fun b hb => .inr (.inl hb))
  have itemsR : Items ListR S' 1 (xr ++ [R]) (s.D.map (·.2) ++ [sortN r]) wp := (hir.mono (fun b hb => .inl hb) (fun b hb => (hS' b hb).1)).snoc rfl (listR hR fun b hb => .inr (.inr hb))
  have hkeep2 : ∀ b, S' b → ¬ POwn pp h s b := fun b hb => (hS' b hb).2
  have kinj : ∀ i (hi : i < s.D.length), keyV s.D[i] ≠ keyV (sortN l, sortN r) := fun i hi e => by
    have := hf1 i hi
    rw [e, hfn] at this; cases this

  have ownNew : ∀ b, POwn pp h ⟨lv1, rv1, bv1, s.D ++ [(sortN l, sortN r)], S', s.cn⟩ b → POwn pp h s b ∨ wp.heap.size ≤ b := by
    rintro b (rfl | hb | hb | hb | hb)
    · exact .inl (.inl rfl)
    · exact .inl (.inr (.inl hb))
    · rcases oL b hb with h1 | h1
      · exact .inl (.inr (.inr (.inl h1)))
      · exact .inr h1
    · rcases oR b hb with h1 | h1
      · exact .inl (.inr (.inr (.inr (.inl h1))))
      · exact .inr (by omega)
    · rcases oB b hb with h1 | h1
      · exact .inl (.inr (.inr (.inr (.inr h1))))
      · exact .inr (by omega)
  have farL : ∀ b, lv1.ownBlock = some b → b ≠ pp ∧ (b < h ∨ h + 1 + 1 + 1 + 1 + 1 ≤ b) := fun b hb => by
    rcases oL b hb with h1 | h1
    · exact hP.ap2 b (.inl h1)
    · exact ⟨fun e => q2 (e ▸ hb), .inr (by have := hP.mapsLt (m := h + 1 + 1 + 1 + 1) (by omega); omega)⟩
  have farR : ∀ b, rv1.ownBlock = some b → b ≠ pp ∧ (b < h ∨ h + 1 + 1 + 1 + 1 + 1 ≤ b) := fun b hb => by
    rcases oR b hb with h1 | h1
    · exact hP.ap2 b (.inr (.inl h1))
    · exact ⟨fun e => q3 (e ▸ hb), .inr (by have := hP.mapsLt (m := h + 1 + 1 + 1 + 1) (by omega); omega)⟩
  have farB : ∀ b, bv1.ownBlock = some b → b ≠ pp ∧ (b < h ∨ h + 1 + 1 + 1 + 1 + 1 ≤ b) := fun b hb => by
    rcases oB b hb with h1 | h1
    · exact hP.ap2 b (.inr (.inr h1))
    · exact ⟨fun e => q4 (e ▸ hb), .inr (by have := hP.mapsLt (m := h + 1 + 1 + 1 + 1) (by omega); omega)⟩
  obtain ⟨n3, f3, o1, o2⟩ := hPp.orders
  obtain ⟨n4, f4, p1, p2, p3⟩ := hPp.canons
  refine ⟨⟨lv1, rv1, bv1, s.D ++ [(sortN l, sortN r)], S', s.cn⟩, s.D.length, rfl, ⟨?_, ?_, ?_, fun b hb => .inl hb, ?_, ⟨_, rfl⟩, fun _ _ h => h⟩, ⟨hlast, .inr rfl⟩, rfl⟩
  · refine ⟨hgn, by rw [hlen]; exact hroom, hP.cnok.more hg.wf hgn.wf, hb4, ⟨xl ++ [L], ?_, ?_⟩, ⟨xr ++ [R], ?_, ?_⟩, ?_, ⟨upd (fun _ _ => Classical.propDecidable _) f (keyV (sortN l, sortN r)) (.int .i64 ((s.D.length : Nat) : Int)), ?_, ?_, ?_⟩, ⟨n3, f3, o1.keep (hmk1 _ (by omega) (by omega)), ?_⟩, ⟨n4, f4, p1.keep (hmk1 _ (by omega) (by omega)), p2, p3⟩, hP.ap1, ?_, ?_, ?_, ?_, ?_, ?_⟩
    · rw [hlen]; exact rowL
    · rw [List.map_append]; exact itemsL.keep K hkeep2
    · rw [hlen]; exact rowR
    · rw [List.map_append]; exact itemsR.keep K hkeep2
    · have e : ((s.D ++ [(sortN l, sortN r)]).mapIdx fun i _ => (Cgt.born (vl (s.D ++ [(sortN l, sortN r)]) i) : Int)) = (s.D.mapIdx fun i _ => (Cgt.born (vl s.D i) : Int)) ++ [bornTo s.D (sortN l ++ sortN r)] := by
        rw [List.mapIdx_append]
        congr 1
        · refine List.ext_getElem (by simp) fun i h1 h2 => ?_
          simp only [List.getElem_mapIdx]
          rw [hvl i (by simpa using h2)]
        · simp only [List.mapIdx_cons, List.mapIdx_nil, Nat.zero_add]
          rw [bornTo_born hgn.wf hlast (l := sortN l) (r := sortN r) (fun _ => Iff.rfl) (fun _ => Iff.rfl) (by rw [hbn]; exact hb0.1), hbn]
      show World.ownsRow _ 0 _ 1 bv1 (s.D ++ [(sortN l, sortN r)]).length _
      rw [e, List.map_append, hlen]; exact hw4
    · have := hM.keep (w' := w4.setCell ⟨pp, 2, none⟩ bv1) (hmk h (Nat.le_refl _) (by omega))
      rw [hlen]; exact this
    · intro i hi
      have hi' : i < s.D.length + 1 := by rw [← hlen]; exact hi
      by_cases c : i < s.D.length
      · have e : (s.D ++ [(sortN l, sortN r)])[i]'hi = s.D[i] := List.getElem_append_left c
        rw [show (⟨lv1, rv1, bv1, s.D ++ [(sortN l, sortN r)], S', s.cn⟩ : PSt).D[i]'hi = s.D[i] from e, upd_ne (kinj i c)]
        exact hf1 i c
      · have c' : i = s.D.length := by omega
        subst c'
        have e : (s.D ++ [(sortN l, sortN r)])[s.D.length]'hi = (sortN l, sortN r) := by simp
        rw [show (⟨lv1, rv1, bv1, s.D ++ [(sortN l, sortN r)], S', s.cn⟩ : PSt).D[s.D.length]'hi = (sortN l, sortN r) from e]
        exact upd_same _ _ _
    · intro k v hk
      rcases upd_old hk with ⟨rfl, rfl⟩ | hk
      · refine ⟨s.D.length, by rw [hlen]; omega, ?_, rfl⟩
        have e : (s.D ++ [(sortN l, sortN r)])[s.D.length]'(by rw [hlen]; omega) = (sortN l, sortN r) := by simp
        exact congrArg keyV e.symm
      · obtain ⟨i, hi, e1, e2⟩ := hf2 k v hk
        exact ⟨i, by rw [hlen]; omega, by rw [e1]; exact congrArg keyV (List.getElem_append_left hi).symm, e2⟩
    · intro k v hk
      obtain ⟨a, b, g, e1, e2, h1, h2, h3⟩ := o2 k v hk
      refine ⟨a, b, g, e1, e2, by rw [hlen]; omega, by rw [hlen]; omega, ?_⟩
      rw [show vl (⟨lv1, rv1, bv1, s.D ++ [(sortN l, sortN r)], S', s.cn⟩ : PSt).D a = vl s.D a from hvl a h1, show vl (⟨lv1, rv1, bv1, s.D ++ [(sortN l, sortN r)], S', s.cn⟩ : PSt).D b = vl s.D b from hvl b h2]
      exact h3
    · rintro b (hb | hb | hb)
      · exact farL b hb
      · exact farR b hb
      · exact farB b hb
    · intro b hb
      have hz := lLt b hb
      refine ⟨fun hc => ?_, fun hc => ?_⟩
      · rcases oR b hc with h1 | h1
        · rcases oL b hb with h2 | h2
          · exact (hP.ap3 b h2).1 h1
          · have := (hrv b h1).2; omega
        · omega
      · rcases oB b hc with h1 | h1
        · rcases oL b hb with h2 | h2
          · exact (hP.ap3 b h2).2 h1
          · have := (hbv b h1).2; omega
        · omega
    · intro b hb hc
      have hz := rLt b hb
      rcases oB b hc with h1 | h1
      · rcases oR b hb with h2 | h2
        · exact hP.ap4 b h2 h1
        · have := (hbv b h1).2; omega
      · omega
    · intro b hb hc
      rcases ownNew b hc with h1 | h1
      · exact (hS' b hb).2 h1
      · have := (hS' b hb).1; omega
    · have hm4 := hP.mapsLt (m := h + 1 + 1 + 1 + 1) (by omega)
      rintro b (hb | hb | hb)
      · exact hP.ap6 b hb
      · have := (fL b hb).1; omega
      · have := (fR b hb).1; omega
    · intro m hm
      have := hP.mapsLt hm; omega
  · exact (keep_ext hE).trans K (fun _ _ h => h)
  · intro b hb
    rcases ownNew b hb with h1 | h1
    · exact .inl h1
    · exact .inr (by omega)
  · rintro b (hb | hb | hb)
    · exact .inl hb
    · exact .inr (fL b hb).1
    · exact .inr (fR b hb).1

end Go.Proofs.YteknjeohbcgpdaaGreatDoor
