/-
  Contract of the reference's l6Node.
  A book that was made behind a world, and what is kept beside it.
-/
import Derived.Test.YtjkdanmpihildaaGreatDoorQ4
import Derived.Test.YtjkdanmpihildaaGreatDoorQ12
import Derived.Test.YtjkdanmpihildaaGreatDoorQ16
namespace Go.Proofs.YtjkdanmpihildaaGreatDoor
open Go.RowKit
open Cgt (Dag Nd vl Ge Gm Canon Eqv)

def NodePost (pb : Nat) (vn vb : Value) (D : Dag) (l r : List Nat) (w : World) (e : Ending) (w' : World) : Prop :=
  ∃ vn' vb' D' i, e = .returned (.int .i64 ((i : Nat) : Int)) ∧ BookAt w' pb vn' vb' D' ∧ Keep (InS pb vn vb) w w' ∧ (∀ b, InS pb vn' vb' b → InS pb vn vb b ∨ w.heap.size ≤ b) ∧
    (∀ b, ListBlk w' vn' D'.length b → ListBlk w vn D.length b ∨ w.heap.size ≤ b) ∧ (∃ E, D' = D ++ E ∧ E.length ≤ 3) ∧ i < D'.length ∧ Canon (vl D' i) ∧ Eqv (vl D' i) (.mk (l.map (vl D)) (r.map (vl D))) ∧ Within D l r D' i

theorem ListBlk.ord {w w' : World} {po pb kb gn cn : Nat} {vb : Value} {D : Dag} (hO : Ord w po pb kb (.slice (some ⟨gn, 0, none⟩) D.length cn) vb D) (hg : w.grownBy w' (some kb)) {b : Nat} (h : ListBlk w' (.slice (some ⟨gn, 0, none⟩) D.length cn) D.length b) : ListBlk w (.slice (some ⟨gn, 0, none⟩) D.length cn) D.length b := by
  obtain ⟨i, g, cap, v, hi, he, hc, hv⟩ := h
  obtain ⟨L, R, h1, _, _⟩ := hO.lists2 hi
  obtain ⟨a1, a2, _⟩ := h1 w (World.grownBy.refl _ _)
  obtain ⟨b1, b2, _⟩ := h1 w' hg
  have he' := he
  simp only [Value.slice.injEq, Option.some.injEq, Addr.mk.injEq, and_true, true_and] at he
  obtain ⟨rfl, rfl⟩ := he
  refine ⟨i, gn, cn, v, hi, rfl, ?_, hv⟩
  rcases hc with hc | hc
  · exact .inl (by rw [a1, ← b1]; exact hc)
  · exact .inr (by rw [a2, ← b2]; exact hc)
theorem keep_grown {w w' : World} {kb : Nat} (g : w.grownBy w' (some kb)) : Keep (fun b => b = kb) w w' := ⟨g.os, g.tape, g.output, g.size, fun k hk hn => g.block k hk (by intro e; injection e with e; exact hn e)⟩

set_option maxHeartbeats 2000000 in
set_option maxRecDepth 100000 in
theorem l6Node_any (pb : Nat) (vn vb : Value) (D : Dag) (v u : Value) (l r : List Nat) (w : World) (hB : BookAt w pb vn vb D) (hv : Ints w v (toZ l)) (hu : Ints w u (toZ r))
    (hl : ∀ x, x ∈ l → x < D.length) (hr : ∀ x, x ∈ r → x < D.length) (hls : l.length ≤ 1000000) (hrs : r.length ≤ 1000000) (hroom : D.length + 3 ≤ 1000000)
    (cl : ∀ x, x ∈ l → Canon (vl D x)) (cr : ∀ x, x ∈ r → Canon (vl D x)) :
    Calls Tryz.prog 47 #[.pointer (some ⟨pb, 0, none⟩), v, u] w (NodePost pb vn vb D l r w) := by
  go_enter Tryz.func47, Tryz.ntmps47
  go_wp2_with (first
    | (go_at_call 51; refine (put_any pb vn vb D _ _ l r _ hB hv hu hl hr hls hrs (by omega)).mono ?_; rintro e w1 ⟨vn1, vb1, D1, i1, rfl, hB1, hK1, hS1, hQ1, hP1⟩)
    | (go_at_call 64; refine (l4Of_any pb vn1 vb1 D1 _ hB1).mono ?_; rintro e w2 ⟨po, kb, rfl, hO, hx2, hkb⟩))
  have hi1 : i1 < D1.length := (List.getElem?_eq_some_iff.1 hP1.1).1
  have hnode : D1[i1] = (sortN l, sortN r) := by have h := hP1.1; rw [List.getElem?_eq_getElem hi1] at h; injection h
  obtain ⟨gn, cn, _, _, rfl, _, _, _⟩ := hO.lists hi1
  obtain ⟨L, R, hG, hLk, hRk⟩ := hO.lists2 hi1
  have hG' := hG
  rw [hnode] at hG'
  obtain ⟨gL, gR, iL, iR⟩ := hG' w2 (World.grownBy.refl _ _)
  have c0 := hO.at.cell0
  have hds := hO.at.small
  obtain ⟨aL, cL, rfl, -⟩ := id iL
  obtain ⟨aR, cR, rfl, -⟩ := id iR
  have hlen1 := hP1.len
  have hll : ∀ x, x ∈ sortN l → x < D1.length := fun x hx => by have := hl x (sortN_mem.1 hx); omega
  have hrl : ∀ x, x ∈ sortN r → x < D1.length := fun x hx => by have := hr x (sortN_mem.1 hx); omega
  have gd : w2.grownBy w2.drew (some kb) := ⟨rfl, rfl, rfl, Nat.le_refl _, fun _ _ _ => rfl⟩
  have hkb2 := hO.kb_lt
  have hHeld0 : w2.cell? ⟨pb, 0, none⟩ = some (.slice (some ⟨gn, 0, none⟩) D1.length cn) ∧ w2.cell? ⟨gn, i1 * 2, none⟩ = some (.slice aL (toZ (sortN l)).length cL) ∧ w2.cell? ⟨gn, i1 * 2 + 1, none⟩ = some (.slice aR (toZ (sortN r)).length cR) := ⟨c0, gL, gR⟩
  go_wp2_with fail
  refine wp_region_T (fun w' => w'.cell? ⟨pb, 0, none⟩ = some (.slice (some ⟨gn, 0, none⟩) D1.length cn) ∧ w'.cell? ⟨gn, i1 * 2, none⟩ = some (.slice aL (toZ (sortN l)).length cL) ∧ w'.cell? ⟨gn, i1 * 2 + 1, none⟩ = some (.slice aR (toZ (sortN r)).length cR)) [23, 24] (by kernel_rfl) hHeld0 (fun hHeld => ?_)
  ((refine tkT (i := 0) (v := ?v1) (by simp only [gE]; rfl) hHeld (Or.inl ⟨by rfl, ?hy1⟩) ?r1; case hy1 => (intro w' hSw; (try dsimp only at hSw); go_simp; (try with_reducible rfl))); (try simp only [Act.put, nE]); (refine tkT (i := 1) (v := ?v2) (by simp only [gE]; rfl) hHeld (Or.inl ⟨by rfl, ?hy2⟩) ?r2; case hy2 => (intro w' hSw; (try dsimp only at hSw); go_simp; (try with_reducible rfl))); (try simp only [Act.put, nE]); (refine tkT (i := 2) (v := ?v3) (by simp only [gE]; rfl) hHeld (Or.inl ⟨by rfl, ?hy3⟩) ?r3; case hy3 => (intro w' hSw; (try dsimp only at hSw); go_simp; (try with_reducible rfl))); (try simp only [Act.put, nE]); (refine tkT (i := 3) (v := ?v4) (by simp only [gE]; rfl) hHeld (Or.inl ⟨by rfl, ?hy4⟩) ?r4; case hy4 => (intro w' hSw; (try dsimp only at hSw); go_simp; (try with_reducible rfl))); (try simp only [Act.put, nE]); (refine tkT (i := 4) (v := ?v5) (by simp only [gE]; rfl) hHeld (Or.inl ⟨by rfl, ?hy5⟩) ?r5; case hy5 => (intro w' hSw; (try dsimp only at hSw); go_simp; (try with_reducible rfl))); (try simp only [Act.put, nE]); (refine tkT (i := 5) (v := ?v6) (by simp only [gE]; rfl) hHeld (Or.inl ⟨by rfl, ?hy6⟩) ?r6; case hy6 => (intro w' hSw; (try dsimp only at hSw); go_simp; (try with_reducible rfl))); (try simp only [Act.put, nE]); (refine tkT (i := 6) (v := ?v7) (by simp only [gE]; rfl) hHeld (Or.inl ⟨by rfl, ?hy7⟩) ?r7; case hy7 => (intro w' hSw; (try dsimp only at hSw); go_simp; (try with_reducible rfl))); (try simp only [Act.put, nE]); (refine tkT (i := 7) (v := ?v8) (by simp only [gE]; rfl) hHeld (Or.inl ⟨by rfl, ?hy8⟩) ?r8; case hy8 => (intro w' hSw; (try dsimp only at hSw); go_simp; (try with_reducible rfl))); (try simp only [Act.put, nE]); (refine tkT (i := 8) (v := ?v9) (by simp only [gE]; rfl) hHeld (Or.inl ⟨by rfl, ?hy9⟩) ?r9; case hy9 => (intro w' hSw; (try dsimp only at hSw); go_simp; (try with_reducible rfl))); (try simp only [Act.put, nE]); (refine tkT (i := 9) (v := ?v10) (by simp only [gE]; rfl) hHeld (Or.inl ⟨by rfl, ?hy10⟩) ?r10; case hy10 => (intro w' hSw; (try dsimp only at hSw); go_simp; (try with_reducible rfl))); (try simp only [Act.put, nE]); (refine tkT (i := 10) (v := ?v11) (by simp only [gE]; rfl) hHeld (Or.inl ⟨by rfl, ?hy11⟩) ?r11; case hy11 => (intro w' hSw; (try dsimp only at hSw); go_simp; (try with_reducible rfl))); (try simp only [Act.put, nE]); (refine tkT (i := 12) (v := ?v12) (by simp only [gE]; rfl) hHeld (Or.inl ⟨by rfl, ?hy12⟩) ?r12; case hy12 => (intro w' hSw; (try dsimp only at hSw); go_simp; (try with_reducible rfl))); (try simp only [Act.put, nE]); (refine tkT (i := 13) (v := ?v13) (by simp only [gE]; rfl) hHeld (Or.inl ⟨by rfl, ?hy13⟩) ?r13; case hy13 => (intro w' hSw; (try dsimp only at hSw); go_simp; (try with_reducible rfl))); (try simp only [Act.put, nE]); (refine tkT (i := 14) (v := ?v14) (by simp only [gE]; rfl) hHeld (Or.inl ⟨by rfl, ?hy14⟩) ?r14; case hy14 => (intro w' hSw; (try dsimp only at hSw); go_simp; (try with_reducible rfl))); (try simp only [Act.put, nE]); (refine tkT (i := 15) (v := ?v15) (by simp only [gE]; rfl) hHeld (Or.inl ⟨by rfl, ?hy15⟩) ?r15; case hy15 => (intro w' hSw; (try dsimp only at hSw); go_simp; (try with_reducible rfl))); (try simp only [Act.put, nE]); (refine tkT (i := 16) (v := ?v16) (by simp only [gE]; rfl) hHeld (Or.inl ⟨by rfl, ?hy16⟩) ?r16; case hy16 => (intro w' hSw; (try dsimp only at hSw); go_simp; (try with_reducible rfl))); (try simp only [Act.put, nE]); (refine tkT (i := 17) (v := ?v17) (by simp only [gE]; rfl) hHeld (Or.inl ⟨by rfl, ?hy17⟩) ?r17; case hy17 => (intro w' hSw; (try dsimp only at hSw); go_simp; (try with_reducible rfl))); (try simp only [Act.put, nE]); (refine tkT (i := 18) (v := ?v18) (by simp only [gE]; rfl) hHeld (Or.inl ⟨by rfl, ?hy18⟩) ?r18; case hy18 => (intro w' hSw; (try dsimp only at hSw); go_simp; (try with_reducible rfl))); (try simp only [Act.put, nE]); (refine tkT (i := 19) (v := ?v19) (by simp only [gE]; rfl) hHeld (Or.inl ⟨by rfl, ?hy19⟩) ?r19; case hy19 => (intro w' hSw; (try dsimp only at hSw); go_simp; (try with_reducible rfl))); (try simp only [Act.put, nE]); (refine tkT (i := 20) (v := ?v20) (by simp only [gE]; rfl) hHeld (Or.inl ⟨by rfl, ?hy20⟩) ?r20; case hy20 => (intro w' hSw; (try dsimp only at hSw); go_simp; (try with_reducible rfl))); (try simp only [Act.put, nE]); (refine tkT (i := 21) (v := ?v21) (by simp only [gE]; rfl) hHeld (Or.inl ⟨by rfl, ?hy21⟩) ?r21; case hy21 => (intro w' hSw; (try dsimp only at hSw); go_simp; (try with_reducible rfl))); (try simp only [Act.put, nE]))
  (refine wpAnyT_step (i := 11) (o := _) (by kernel_rfl) (by simp only [gE]; rfl) (fun K hK => ?_); go_simp)
  have hw2 := hO.grown (w' := w2.drew) ⟨rfl, rfl, rfl, Nat.le_refl _, fun _ _ _ => rfl⟩
  refine (l6Open_any po pb kb _ vb1 _ D1 i1 (sortN l) true _ hw2 hi1 (hG' _ gd).2.2.1 hLk hll (asc_nodup (sortN_asc _))).mono ?_
  rintro e w3 ⟨v3, lineL, BL, rfl, hIL, hiL, hO3, hgr3, hf3⟩
  have g3 := gd.trans hgr3
  obtain ⟨s3a, s3b, -, s3c⟩ := hG' w3 g3
  (refine hK.out _ _ (fun _ => ?_) ?_)
  · exact ⟨hO3.at.cell0, s3a, s3b⟩
  clear hK K
  (try simp only [Act.put, nE])
  (refine wpAnyT_step (i := 22) (o := _) (by kernel_rfl) (by simp only [gE]; rfl) (fun K hK => ?_); go_simp)
  refine (l6Open_any po pb kb _ vb1 _ D1 i1 (sortN r) false _ hO3 hi1 s3c hRk hrl (asc_nodup (sortN_asc _))).mono ?_
  rintro e w4 ⟨v4, lineR, BR, rfl, hIR, hiR, hO4, hgr4, hf4⟩
  have g4 := g3.trans hgr4
  obtain ⟨s4a, s4b, -, -⟩ := hG' w4 g4
  (refine hK.out _ _ (fun _ => ?_) ?_)
  · exact ⟨hO4.at.cell0, s4a, s4b⟩
  clear hK K
  (try simp only [Act.put, nE])
  have hB4 := hO4.at
  have bl4 : ∀ x, x ∈ sortN BL → x < D1.length := fun x hx => hiL.lt x (hiL.kept x (sortN_mem.1 hx)).1
  have br4 : ∀ x, x ∈ sortN BR → x < D1.length := fun x hx => hiR.lt x (hiR.kept x (sortN_mem.1 hx)).1
  have nl4 : (sortN BL).length ≤ 1000000 := by have := sortN_len BL; have := hiL.blen; have := hiL.len; omega
  have nr4 : (sortN BR).length ≤ 1000000 := by have := sortN_len BR; have := hiR.blen; have := hiR.len; omega
  rw [sortN_toZ] at hIL hIR
  have hIL4 : Ints w4 v3 (toZ (sortN BL)) := ints_grown hIL hgr4 (fun b hb => by have h := (hf3 b hb).1; have e : w2.drew.heap.size = w2.heap.size := rfl; omega)
  refine wpAnyT_tail [23, 24] [?o22_23, ?o22_24] _ _ _ _ (by simp) (by kernel_rfl) (by rfl) (by simp only [List.map_cons, List.map_nil, gE]; rfl) ?_
  go_wp2_with (first
    | (go_at_call 51; refine (put_any pb _ vb1 D1 _ _ (sortN BL) (sortN BR) _ hB4 hIL4 hIR bl4 br4 nl4 nr4 (by omega)).mono ?_; rintro e w5 ⟨vn2, vb2, D2, i2, rfl, hB2, hK2, hS2, hQ2, hP2⟩)
    | (go_at_call 64; refine (l4Of_any pb vn2 vb2 D2 _ hB2).mono ?_; rintro e w6 ⟨po2, kb2, rfl, hO5, hx5, hkb5⟩
       have hi2 := hP2.lt
       obtain ⟨gn2, cn2, _, _, rfl, _, _, _⟩ := hO5.lists hi2
       obtain ⟨L2, R2, hG2, hLk2, hRk2⟩ := hO5.lists2 hi2
       rw [hP2.node, sortN_eq (sortN_asc BL), sortN_eq (sortN_asc BR)] at hG2
       obtain ⟨gL2, gR2, iL2, iR2⟩ := hG2 w6 (World.grownBy.refl _ _)
       have c02 := hO5.at.cell0
       have hds2 := hO5.at.small
       obtain ⟨aL2, cL2, rfl, -⟩ := id iL2
       obtain ⟨aR2, cR2, rfl, -⟩ := id iR2))
  obtain ⟨xb, hxb⟩ : ∃ xb, xb = w6.heap.size := ⟨_, rfl⟩
  rw [← hxb]
  obtain ⟨W, hW⟩ : ∃ W, W = w6.alloc (Obj.cells #[Value.slice aL2 (toZ (sortN BL)).length cL2, Value.slice aR2 (toZ (sortN BR)).length cR2] 80) := ⟨_, rfl⟩
  rw [← hW]
  have hkb6 := hO5.kb_lt
  have cW0 : W.cell? ⟨xb, 0, none⟩ = some (.slice aL2 (toZ (sortN BL)).length cL2) := by rw [hW, hxb]; exact World.cell?_alloc_at _ _ _ 0 (by simp)
  have cW1 : W.cell? ⟨xb, 1, none⟩ = some (.slice aR2 (toZ (sortN BR)).length cR2) := by rw [hW, hxb]; exact World.cell?_alloc_at _ _ _ 1 (by simp)
  have gW : w6.grownBy W none := by rw [hW]; exact World.grownBy_alloc _ _ _
  have gWd : W.grownBy W.drew none := ⟨rfl, rfl, rfl, Nat.le_refl _, fun _ _ _ => rfl⟩
  have hOW := hO5.grown (gW.trans gWd)
  have hxk : xb ≠ kb2 := by omega
  clear hxb hW
  have hlW : ∀ x, x ∈ sortN BL → x < D2.length := fun x hx => by have := bl4 x hx; have := hP2.len; omega
  have hrW : ∀ x, x ∈ sortN BR → x < D2.length := fun x hx => by have := br4 x hx; have := hP2.len; omega
  have gWk : w6.grownBy W.drew (some kb2) := (gW.trans gWd).but _
  have hHeld6 : W.cell? ⟨xb, 0, none⟩ = some (.slice aL2 (toZ (sortN BL)).length cL2) ∧ W.cell? ⟨xb, 1, none⟩ = some (.slice aR2 (toZ (sortN BR)).length cR2) := ⟨cW0, cW1⟩
  refine wp_region_T (fun w' => w'.cell? ⟨xb, 0, none⟩ = some (.slice aL2 (toZ (sortN BL)).length cL2) ∧ w'.cell? ⟨xb, 1, none⟩ = some (.slice aR2 (toZ (sortN BR)).length cR2)) [15, 16] (by kernel_rfl) hHeld6 (fun hHeld => ?_)
  ((refine tkT (i := 0) (v := ?v23) (by simp only [gE]; rfl) hHeld (Or.inl ⟨by rfl, ?hy23⟩) ?r23; case hy23 => (intro w' hSw; (try dsimp only at hSw); go_simp; (try with_reducible rfl))); (try simp only [Act.put, nE]); (refine tkT (i := 1) (v := ?v24) (by simp only [gE]; rfl) hHeld (Or.inl ⟨by rfl, ?hy24⟩) ?r24; case hy24 => (intro w' hSw; (try dsimp only at hSw); go_simp; (try with_reducible rfl))); (try simp only [Act.put, nE]); (refine tkT (i := 2) (v := ?v25) (by simp only [gE]; rfl) hHeld (Or.inl ⟨by rfl, ?hy25⟩) ?r25; case hy25 => (intro w' hSw; (try dsimp only at hSw); go_simp; (try with_reducible rfl))); (try simp only [Act.put, nE]); (refine tkT (i := 3) (v := ?v26) (by simp only [gE]; rfl) hHeld (Or.inl ⟨by rfl, ?hy26⟩) ?r26; case hy26 => (intro w' hSw; (try dsimp only at hSw); go_simp; (try with_reducible rfl))); (try simp only [Act.put, nE]); (refine tkT (i := 4) (v := ?v27) (by simp only [gE]; rfl) hHeld (Or.inl ⟨by rfl, ?hy27⟩) ?r27; case hy27 => (intro w' hSw; (try dsimp only at hSw); go_simp; (try with_reducible rfl))); (try simp only [Act.put, nE]); (refine tkT (i := 5) (v := ?v28) (by simp only [gE]; rfl) hHeld (Or.inl ⟨by rfl, ?hy28⟩) ?r28; case hy28 => (intro w' hSw; (try dsimp only at hSw); go_simp; (try with_reducible rfl))); (try simp only [Act.put, nE]); (refine tkT (i := 8) (v := ?v29) (by simp only [gE]; rfl) hHeld (Or.inl ⟨by rfl, ?hy29⟩) ?r29; case hy29 => (intro w' hSw; (try dsimp only at hSw); go_simp; (try with_reducible rfl))); (try simp only [Act.put, nE]); (refine tkT (i := 9) (v := ?v30) (by simp only [gE]; rfl) hHeld (Or.inl ⟨by rfl, ?hy30⟩) ?r30; case hy30 => (intro w' hSw; (try dsimp only at hSw); go_simp; (try with_reducible rfl))); (try simp only [Act.put, nE]); (refine tkT (i := 10) (v := ?v31) (by simp only [gE]; rfl) hHeld (Or.inl ⟨by rfl, ?hy31⟩) ?r31; case hy31 => (intro w' hSw; (try dsimp only at hSw); go_simp; (try with_reducible rfl))); (try simp only [Act.put, nE]); (refine tkT (i := 11) (v := ?v32) (by simp only [gE]; rfl) hHeld (Or.inl ⟨by rfl, ?hy32⟩) ?r32; case hy32 => (intro w' hSw; (try dsimp only at hSw); go_simp; (try with_reducible rfl))); (try simp only [Act.put, nE]); (refine tkT (i := 12) (v := ?v33) (by simp only [gE]; rfl) hHeld (Or.inl ⟨by rfl, ?hy33⟩) ?r33; case hy33 => (intro w' hSw; (try dsimp only at hSw); go_simp; (try with_reducible rfl))); (try simp only [Act.put, nE]))
  (refine wpAnyT_step (i := 6) (o := _) (by kernel_rfl) (by simp only [gE]; rfl) (fun K hK => ?_); go_simp)
  obtain ⟨-, -, i7, -⟩ := hG2 _ gWk
  refine (l6Dominated_any po2 pb kb2 _ vb2 _ D2 (sortN BL) true _ hOW i7 hLk2 hlW nl4).mono ?_
  rintro e w7 ⟨v7, zL, rfl, hz7, hd7, hO7, hg7, hf7⟩
  have g7 := gWk.trans hg7
  have s7a := hg7.cell hHeld.1 (by simpa using hxk)
  have s7b := hg7.cell hHeld.2 (by simpa using hxk)
  (refine hK.out _ _ (fun _ => ?_) ?_)
  · exact ⟨s7a, s7b⟩
  clear hK K
  (try simp only [Act.put, nE])
  (refine wpAnyT_step (i := 7) (o := _) (by kernel_rfl) (by simp only [gE]; rfl) (fun K hK => ?_); go_simp)
  refine (l6Without_any _ _ _ _ _ (hG2 _ g7).2.2.1 hz7 (by rw [toZ_len]; omega)).mono ?_
  rintro e w8 ⟨v8, rfl, hz8, hx8, hf8⟩
  have g8 := g7.trans ((ext_grows hx8).but _)
  have hO8 := hO7.grown (ext_grows hx8)
  have s8a := (ext_grows hx8).cell s7a (by simp)
  have s8b := (ext_grows hx8).cell s7b (by simp)
  (refine hK.out _ _ (fun _ => ?_) ?_)
  · exact ⟨s8a, s8b⟩
  clear hK K
  (try simp only [Act.put, nE])
  (refine wpAnyT_step (i := 13) (o := _) (by kernel_rfl) (by simp only [gE]; rfl) (fun K hK => ?_); go_simp)
  refine (l6Dominated_any po2 pb kb2 _ vb2 _ D2 (sortN BR) false _ hO8 (hG2 _ g8).2.2.2 hRk2 hrW nr4).mono ?_
  rintro e w9 ⟨v9, zR, rfl, hz9, hd9, hO9, hg9, hf9⟩
  have g9 := g8.trans hg9
  have s9a := hg9.cell s8a (by simpa using hxk)
  have s9b := hg9.cell s8b (by simpa using hxk)
  (refine hK.out _ _ (fun _ => ?_) ?_)
  · exact ⟨s9a, s9b⟩
  clear hK K
  (try simp only [Act.put, nE])
  (refine wpAnyT_step (i := 14) (o := _) (by kernel_rfl) (by simp only [gE]; rfl) (fun K hK => ?_); go_simp)
  refine (l6Without_any _ _ _ _ _ (hG2 _ g9).2.2.2 hz9 (by rw [toZ_len]; omega)).mono ?_
  rintro e wa ⟨va, rfl, hza, hxa, hfa⟩
  have ga := g9.trans ((ext_grows hxa).but _)
  have hOa := hO9.grown (ext_grows hxa)
  (refine hK.out _ _ (fun _ => ?_) ?_)
  · exact ⟨(ext_grows hxa).cell s9a (by simp), (ext_grows hxa).cell s9b (by simp)⟩
  clear hK K
  (try simp only [Act.put, nE])
  rw [woN_toZ] at hz8 hza
  have hBa := hOa.at
  have h8a : Ints wa v8 (toZ (woN (sortN BL) zL)) := (ints_grown hz8 hg9 (fun b hb => by have h := (hf8 b hb).1; have h7 := hg7.size; have e : W.drew.heap.size = W.heap.size := rfl; have h6 := gW.size; omega)).ext hxa
  have wL : ∀ x, x ∈ woN (sortN BL) zL → x ∈ sortN BL := fun x hx => by obtain ⟨i, h, rfl, _⟩ := woN_mem.1 hx; exact List.getElem_mem h
  have wR : ∀ x, x ∈ woN (sortN BR) zR → x ∈ sortN BR := fun x hx => by obtain ⟨i, h, rfl, _⟩ := woN_mem.1 hx; exact List.getElem_mem h
  have wl1 : (woN (sortN BL) zL).length ≤ 1000000 := by have := woK_len (toZ (sortN BL)) zL (toZ (sortN BL)).length; have e := woN_toZ (sortN BL) zL; unfold withoutZ at e; rw [e, toZ_len, toZ_len] at this; omega
  have wr1 : (woN (sortN BR) zR).length ≤ 1000000 := by have := woK_len (toZ (sortN BR)) zR (toZ (sortN BR)).length; have e := woN_toZ (sortN BR) zR; unfold withoutZ at e; rw [e, toZ_len, toZ_len] at this; omega
  have hlen2 := hP2.len
  refine wpAnyT_tail [15, 16] [?o34_15, ?o34_16] _ _ _ _ (by simp) (by kernel_rfl) (by rfl) (by simp only [List.map_cons, List.map_nil, gE]; rfl) ?_
  go_wp2_with (go_at_call 51; refine (put_any pb _ vb2 D2 _ _ (woN (sortN BL) zL) (woN (sortN BR) zR) _ hBa h8a hza (fun x hx => hlW x (wL x hx)) (fun x hx => hrW x (wR x hx)) wl1 wr1 (by omega)).mono ?_; rintro e w' ⟨vn3, vb3, D3, i3, rfl, hB3, hK3, hS3, hQ3, hP3⟩)
  go_ret
  have z1 := hK1.size
  have z2 := hx2.size
  have z4 := g4.size
  have z5 := hK2.size
  have z6 := hx5.size
  have za := ga.size
  have k2 : Keep (InS pb vn vb) w w2 := hK1.trans (keep_ext hx2) (fun _ _ h => h)
  have k4 := k2.trans (keep_grown g4) (fun x hx h => by subst h; omega)
  have k5 := k4.trans hK2 (fun x hx h => by rcases hS1 x h with h | h; exact h; omega)
  have k6 := k5.trans (keep_ext (F := fun _ => False) hx5) (fun _ _ h => h.elim)
  have ka := k6.trans (keep_grown ga) (fun x hx h => by subst h; omega)
  have hSS : ∀ b, InS pb (.slice (some ⟨gn2, 0, none⟩) D2.length cn2) vb2 b → InS pb vn vb b ∨ w.heap.size ≤ b := fun b hb => by
    rcases hS2 b hb with h | h
    · exact hS1 b h
    · exact .inr (by omega)
  have k7 := ka.trans hK3 (fun x hx h => by rcases hSS x h with h | h; exact h; omega)
  have hLL : ∀ b, ListBlk wa (.slice (some ⟨gn2, 0, none⟩) D2.length cn2) D2.length b → ListBlk w vn D.length b ∨ w.heap.size ≤ b := fun b hb => by
    have h6 := ListBlk.ord hO5 ga hb
    rcases hQ2 b (ListBlk.back hB2 hx5 h6) with h | h
    · have h2 := ListBlk.ord hO g4 h
      rcases hQ1 b (ListBlk.back hB1 hx2 h2) with h | h
      · exact .inl h
      · exact .inr h
    · exact .inr (by omega)
  refine ⟨vn3, vb3, D3, i3, rfl, hB3, k7, ?_, fun b hb => ?_, node_done hB.good hO.at.good hO5.at.good hB3.good hP1 hP2 hP3 hl hr cl cr hiL hiR hd7 hd9⟩
  · intro b hb
    rcases hS3 b hb with h | h
    · exact hSS b h
    · exact .inr (by omega)
  · rcases hQ3 b hb with h | h
    · exact hLL b h
    · exact .inr (by omega)

end Go.Proofs.YtjkdanmpihildaaGreatDoor

namespace Go.Proofs.YtjkdanmpihildaaGreatDoor
open Go.RowKit
open Cgt (Dag Nd vl)

structure BookOn (w0 w : World) (pb : Nat) (vn vb : Value) (D : Dag) : Prop where
  bk : BookAt w pb vn vb D
  sep : ∀ b, InS pb vn vb b → w0.heap.size ≤ b
  ext : Ext w0 w

structure BookGo (w w' : World) (pb : Nat) (vn vb : Value) (D : Dag) (vn' vb' : Value) (D' : Dag) : Prop where
  keep : Keep (InS pb vn vb) w w'
  ins : ∀ b, InS pb vn' vb' b → InS pb vn vb b ∨ w.heap.size ≤ b
  lists : ∀ b, ListBlk w' vn' D'.length b → ListBlk w vn D.length b ∨ w.heap.size ≤ b
  more : ∃ E, D' = D ++ E

theorem BookGo.len {w w' : World} {pb : Nat} {vn vb vn' vb' : Value} {D D' : Dag} (h : BookGo w w' pb vn vb D vn' vb' D') : D.length ≤ D'.length := by obtain ⟨E, rfl⟩ := h.more; simp
theorem BookGo.refl (w : World) (pb : Nat) (vn vb : Value) (D : Dag) : BookGo w w pb vn vb D vn vb D := ⟨Keep.refl _ _, fun _ h => .inl h, fun _ h => .inl h, ⟨[], by simp⟩⟩
theorem BookGo.trans {a b c : World} {pb : Nat} {v1 u1 v2 u2 v3 u3 : Value} {D1 D2 D3 : Dag} (h : BookGo a b pb v1 u1 D1 v2 u2 D2) (k : BookGo b c pb v2 u2 D2 v3 u3 D3) : BookGo a c pb v1 u1 D1 v3 u3 D3 := by
  have hz := h.keep.size
  refine ⟨h.keep.trans k.keep (fun x hx hi => by rcases h.ins x hi with h | h; exact h; omega), fun x hx => ?_, fun x hx => ?_, ?_⟩
  · rcases k.ins x hx with h1 | h1
    · exact h.ins x h1
    · exact .inr (by omega)
  · rcases k.lists x hx with h1 | h1
    · exact h.lists x h1
    · exact .inr (by omega)
  · obtain ⟨E, rfl⟩ := h.more
    obtain ⟨E', rfl⟩ := k.more
    exact ⟨E ++ E', by simp⟩
theorem BookGo.ext {w w' : World} {pb : Nat} {vn vb : Value} {D : Dag} (hB : BookAt w pb vn vb D) (hx : Ext w w') : BookGo w w' pb vn vb D vn vb D := ⟨keep_ext hx, fun _ h => .inl h, fun _ h => .inl (ListBlk.back hB hx h), ⟨[], by simp⟩⟩
theorem BookGo.of_put {w w' : World} {pb : Nat} {vn vb vn' vb' : Value} {D D' : Dag} {l r : List Nat} {i : Nat} (h1 : Keep (InS pb vn vb) w w') (h2 : ∀ b, InS pb vn' vb' b → InS pb vn vb b ∨ w.heap.size ≤ b) (h3 : ∀ b, ListBlk w' vn' D'.length b → ListBlk w vn D.length b ∨ w.heap.size ≤ b) (h4 : PutRel D l r D' i) : BookGo w w' pb vn vb D vn' vb' D' :=
  ⟨h1, h2, h3, by obtain ⟨E, h, _⟩ := h4.ext; exact ⟨E, h⟩⟩
theorem BookAt.insLt {w : World} {pb : Nat} {vn vb : Value} {D : Dag} (h : BookAt w pb vn vb D) {b : Nat} (hb : InS pb vn vb b) : b < w.heap.size := by
  obtain ⟨xs, ho, _⟩ := h.nodes
  rcases hb with rfl | hb | hb
  · exact h.lt
  · exact (ho.lt b hb).2
  · exact (h.born.lt b hb).2
theorem BookAt.listLt {w : World} {pb : Nat} {vn vb : Value} {D : Dag} (h : BookAt w pb vn vb D) {b : Nat} (hb : ListBlk w vn D.length b) : b < w.heap.size ∧ ¬ InS pb vn vb b := by
  obtain ⟨i, g, cap, v, hi, he, hc, hv⟩ := hb
  obtain ⟨g', cap', L, R, he', _, _, c1, c2, _, _, h5, h6⟩ := h.nodeFull hi
  rw [he] at he'
  simp only [Value.slice.injEq, Option.some.injEq, Addr.mk.injEq, and_true, true_and] at he'
  obtain ⟨rfl, rfl⟩ := he'
  rcases hc with hc | hc
  · rw [c1] at hc; injection hc with hc; subst hc; exact ⟨(h5 b hv).2, (h5 b hv).1⟩
  · rw [c2] at hc; injection hc with hc; subst hc; exact ⟨(h6 b hv).2, (h6 b hv).1⟩

theorem BookAt.keepG {w w' : World} {pb : Nat} {vn vb : Value} {D : Dag} {G : Nat → Prop} (h : BookAt w pb vn vb D) (hk : Keep G w w') (h1 : ∀ b, InS pb vn vb b → ¬ G b) (h2 : ∀ b, ListBlk w vn D.length b → ¬ G b) : BookAt w' pb vn vb D := by
  obtain ⟨t, ht⟩ := h.cells
  obtain ⟨xs, ho, hn⟩ := h.nodes
  have hz := hk.size
  refine ⟨h.good, h.small, ⟨t, ?_⟩, own_keepG h.born hk (fun b hb => h1 b (.inr (.inr hb))), ⟨xs, own_keepG ho hk (fun b hb => h1 b (.inr (.inl hb))), fun i hi => ?_⟩, h.apart1, h.apart2, h.apart3⟩
  · rw [hk.block pb h.lt (h1 pb (.inl rfl))]; exact ht
  · obtain ⟨L, R, c1, c2, c3, c4, c5, c6⟩ := hn i hi
    obtain ⟨g, cap, he, _, _, hcell⟩ := own_at ho (by omega)
    have hl1 := ho.1
    have b1 : w.cell? ⟨g, i * 2, none⟩ = some L := by rw [hcell _ (by omega), Nat.mul_comm]; exact c1
    have b2 : w.cell? ⟨g, i * 2 + 1, none⟩ = some R := by rw [hcell _ (by omega), Nat.mul_comm]; exact c2
    refine ⟨L, R, c1, c2, ints_keep c3 hk (fun b hb => h2 b ⟨i, g, cap, L, hi, he, .inl b1, hb⟩), ints_keep c4 hk (fun b hb => h2 b ⟨i, g, cap, R, hi, he, .inr b2, hb⟩), fun b hb => ⟨(c5 b hb).1, by have := (c5 b hb).2; omega⟩, fun b hb => ⟨(c6 b hb).1, by have := (c6 b hb).2; omega⟩⟩
theorem ListBlk.keepG {w w' : World} {pb : Nat} {vn vb : Value} {D : Dag} {G : Nat → Prop} (h : BookAt w pb vn vb D) (hk : Keep G w w') (h1 : ∀ b, InS pb vn vb b → ¬ G b) {b : Nat} (hb : ListBlk w' vn D.length b) : ListBlk w vn D.length b := by
  obtain ⟨i, g, cap, v, hi, he, hc, hv⟩ := hb
  obtain ⟨xs, ho, _⟩ := h.nodes
  have hg := (ho.lt g (by rw [he]; rfl)).2
  have e := hk.block g hg (h1 g (.inr (.inl (by rw [he]; rfl))))
  refine ⟨i, g, cap, v, hi, he, ?_, hv⟩
  rcases hc with hc | hc
  · exact .inl (by rw [← World.cell?_of_block (w := w) e]; exact hc)
  · exact .inr (by rw [← World.cell?_of_block (w := w) e]; exact hc)

theorem BookOn.ext' {w0 w w' : World} {pb : Nat} {vn vb : Value} {D : Dag} (h : BookOn w0 w pb vn vb D) (hx : Ext w w') : BookOn w0 w' pb vn vb D := ⟨h.bk.ext hx, h.sep, ext_trans h.ext hx⟩
theorem BookOn.go {w0 w w' : World} {pb : Nat} {vn vb vn' vb' : Value} {D D' : Dag} (h : BookOn w0 w pb vn vb D) (hB : BookAt w' pb vn' vb' D') (hg : BookGo w w' pb vn vb D vn' vb' D') : BookOn w0 w' pb vn' vb' D' := by
  have hz := h.ext.size
  refine ⟨hB, fun b hb => ?_, ⟨hg.keep.os.trans h.ext.os, hg.keep.tape.trans h.ext.tape, hg.keep.output.trans h.ext.output, Nat.le_trans hz hg.keep.size, fun k hk => ?_⟩⟩
  · rcases hg.ins b hb with h1 | h1
    · exact h.sep b h1
    · omega
  · rw [hg.keep.block k (by omega) (fun hi => by have := h.sep k hi; omega)]; exact h.ext.block k hk

structure Beside (w : World) (pb : Nat) (vn vb : Value) (D : Dag) (b : Nat) : Prop where
  ins : ¬ InS pb vn vb b
  lists : ¬ ListBlk w vn D.length b
theorem Beside.go {w w' : World} {pb : Nat} {vn vb vn' vb' : Value} {D D' : Dag} {b : Nat} (h : Beside w pb vn vb D b) (hb : b < w.heap.size) (hg : BookGo w w' pb vn vb D vn' vb' D') : Beside w' pb vn' vb' D' b :=
  ⟨fun k => by rcases hg.ins b k with k | k; exact h.ins k; omega, fun k => by rcases hg.lists b k with k | k; exact h.lists k; omega⟩
theorem Beside.new {w : World} {pb : Nat} {vn vb : Value} {D : Dag} (h : BookAt w pb vn vb D) {b : Nat} (hb : w.heap.size ≤ b) : Beside w pb vn vb D b :=
  ⟨fun k => by have := h.insLt k; omega, fun k => by have := (h.listLt k).1; omega⟩
theorem Beside.goE {w w' : World} {pb : Nat} {vn vb : Value} {D : Dag} {b : Nat} (h : Beside w pb vn vb D b) (hB : BookAt w pb vn vb D) (hx : Ext w w') : Beside w' pb vn vb D b := ⟨h.ins, fun k => h.lists (ListBlk.back hB hx k)⟩
theorem Beside.row {w0 w w' X : World} {pb : Nat} {vn0 vb0 vn vb : Value} {D0 D : Dag} {v v' : Value} (hG : BookGo w0 w pb vn0 vb0 D0 vn vb D) (hB : BookAt w pb vn vb D) (h : ∀ b, v.ownBlock = some b → w0.heap.size ≤ b ∧ Beside w pb vn vb D b) (hX : Ext w X) (hg : X.grownBy w' v.ownBlock) (hl : Lies X v v') :
    BookAt w' pb vn vb D ∧ BookGo w0 w' pb vn0 vb0 D0 vn vb D ∧ (∀ b, v'.ownBlock = some b → w0.heap.size ≤ b ∧ Beside w' pb vn vb D b) ∧ (∀ b, Beside w pb vn vb D b → Beside w' pb vn vb D b) := by
  have hk : Keep (fun b => v.ownBlock = some b) w w' := ⟨hg.os.trans hX.os, hg.tape.trans hX.tape, hg.output.trans hX.output, Nat.le_trans hX.size hg.size, fun k hk hn => by rw [hg.block k (Nat.lt_of_lt_of_le hk hX.size) (fun e => hn e.symm)]; exact hX.block k hk⟩
  have hB' := hB.keepG hk (fun b hb e => (h b e).2.ins hb) (fun b hb e => (h b e).2.lists hb)
  have hL : ∀ b, ListBlk w' vn D.length b → ListBlk w vn D.length b := fun b hb => ListBlk.keepG hB hk (fun b hb e => (h b e).2.ins hb) hb
  have hz := hG.keep.size
  have hzX := hX.size
  refine ⟨hB', ⟨hG.keep.trans hk (fun x hx e => by have := (h x e).1; omega), hG.ins, fun b hb => hG.lists b (hL b hb), hG.more⟩, fun b hb => ?_, fun b hb => ⟨hb.ins, fun k => hb.lists (hL b k)⟩⟩
  rcases hl with h1 | ⟨g, h1, h2⟩
  · rw [h1] at hb
    obtain ⟨a, c⟩ := h b hb
    exact ⟨a, c.ins, fun k => c.lists (hL b k)⟩
  · rw [h1] at hb; injection hb with hb; subst hb
    exact ⟨by omega, fun k => by have := hB.insLt k; omega, fun k => by have := (hB.listLt (hL _ k)).1; omega⟩

end Go.Proofs.YtjkdanmpihildaaGreatDoor
