/-
  Contracts of the book's add and root.
  Plain law of l6Canon: nodes that are equal stand for equal games; what is reached lies among the places told.
-/
import Derived.Test.YtjkdanmpihildaaGreatDoorQ17
namespace Go.Proofs.YtjkdanmpihildaaGreatDoor
open Go.RowKit
open Cgt (Dag Nd vl Same)

def AddPost (pb : Nat) (vn vb : Value) (D F : Dag) (w : World) (e : Ending) (w' : World) : Prop :=
  ∃ v' vn' vb' D' at_, e = .returned v' ∧ Ints w' v' (toZ at_) ∧ BookAt w' pb vn' vb' D' ∧ BookGo w w' pb vn vb D vn' vb' D' ∧ D'.length ≤ D.length + F.length ∧ at_.length = F.length ∧ (∀ i (h : i < at_.length), at_[i] < D'.length ∧ Same (vl D' at_[i]) (vl F i))

theorem at_bnd {l at_ : List Nat} {k n : Nat} (hl : ∀ x, x ∈ l → x < k) (ha : at_.length = k) (hat : ∀ i (h : i < at_.length), at_[i] < n) : ∀ x, x ∈ l.map (fun x => at_.getD x 0) → x < n := by
  intro x hx
  obtain ⟨y, hy, rfl⟩ := List.mem_map.1 hx
  have := hl y hy
  rw [List.getD_eq_getElem?_getD, List.getElem?_eq_getElem (by omega), Option.getD_some]
  exact hat y (by omega)

theorem put_same {D D' F : Dag} {at_ : List Nat} {k i : Nat} (g : Cgt.WF D) (g' : Cgt.WF D') (hF : Cgt.WF F) (hk : k < F.length) (ha : at_.length = k) (hat : ∀ i (h : i < at_.length), at_[i] < D.length ∧ Same (vl D at_[i]) (vl F i))
    (hp : PutRel D ((F[k]).1.map fun x => at_.getD x 0) ((F[k]).2.map fun x => at_.getD x 0) D' i) : Same (vl D' i) (vl F k) := by
  have dk : F[k]? = some F[k] := List.getElem?_eq_getElem hk
  have hw := hF k _ dk
  have key : ∀ x, x < k → at_.getD x 0 < D.length ∧ Same (vl D' (at_.getD x 0)) (vl F x) := fun x hx => by
    have e : at_.getD x 0 = at_[x]'(by omega) := by rw [List.getD_eq_getElem?_getD, List.getElem?_eq_getElem (by omega)]; rfl
    have h := hat x (by omega)
    rw [e, hp.vl g g' h.1]; exact h
  rw [Cgt.same_iff, Cgt.vl_l g' hp.1, Cgt.vl_r g' hp.1, Cgt.vl_l hF dk, Cgt.vl_r hF dk]
  refine ⟨fun y hy => ?_, fun y hy => ?_, fun y hy => ?_, fun y hy => ?_⟩
  · obtain ⟨x, hx, rfl⟩ := List.mem_map.1 hy
    obtain ⟨z, hz, rfl⟩ := List.mem_map.1 (sortN_mem.1 hx)
    exact ⟨_, List.mem_map_of_mem hz, (key z (hw.1 z hz)).2⟩
  · obtain ⟨z, hz, rfl⟩ := List.mem_map.1 hy
    exact ⟨_, List.mem_map_of_mem (sortN_mem.2 (List.mem_map_of_mem hz)), (key z (hw.1 z hz)).2⟩
  · obtain ⟨x, hx, rfl⟩ := List.mem_map.1 hy
    obtain ⟨z, hz, rfl⟩ := List.mem_map.1 (sortN_mem.1 hx)
    exact ⟨_, List.mem_map_of_mem hz, (key z (hw.2 z hz)).2⟩
  · obtain ⟨z, hz, rfl⟩ := List.mem_map.1 hy
    exact ⟨_, List.mem_map_of_mem (sortN_mem.2 (List.mem_map_of_mem hz)), (key z (hw.2 z hz)).2⟩
theorem more_same {D D' F : Dag} {at_ : List Nat} (g : Cgt.WF D) (g' : Cgt.WF D') (h : ∃ E, D' = D ++ E) (hat : ∀ i (h : i < at_.length), at_[i] < D.length ∧ Same (vl D at_[i]) (vl F i)) : ∀ i (h : i < at_.length), at_[i] < D'.length ∧ Same (vl D' at_[i]) (vl F i) := by
  obtain ⟨E, rfl⟩ := h
  intro i hi
  obtain ⟨a, b⟩ := hat i hi
  exact ⟨by simp; omega, by rw [Cgt.vl_append g g' _ a]; exact b⟩
theorem snoc_all {at_ : List Nat} {i : Nat} {P : Nat → Nat → Prop} (h : ∀ j (h : j < at_.length), P at_[j] j) (hi : P i at_.length) : ∀ j (h : j < (at_ ++ [i]).length), P (at_ ++ [i])[j] j := by
  intro j hj
  by_cases c : j < at_.length
  · rw [List.getElem_append_left c]; exact h j c
  · have e : j = at_.length := by simp at hj; omega
    subst e
    rw [List.getElem_append_right (Nat.le_refl _)]; simpa using hi

set_option maxHeartbeats 2000000 in
set_option maxRecDepth 100000 in
theorem add_any (pb : Nat) (vn vb : Value) (D : Dag) (vf : Value) (F : Dag) (w0 w : World) (hB : BookOn w0 w pb vn vb D) (hf : Nodes w0 0 vf F) (hF : Cgt.Good F) (hroom : D.length + F.length ≤ 1000000) :
    Calls Tryz.prog 71 #[.pointer (some ⟨pb, 0, none⟩), .agg #[vf]] w (AddPost pb vn vb D F w) := by
  obtain ⟨i0, hi0, hz0, hz1, hz2⟩ := info_parts info_int
  obtain ⟨aF, capF, rfl, -⟩ := id hf
  have hGF := Lib.hid hF
  go_enter Tryz.func71, Tryz.ntmps71
  go_wp2
  have hE2 : Ext w ((w.alloc (.cells #[.slice aF F.length capF] 28)).alloc (.cells #[] 3)) := by go_grown
  go_loopw [5, 6] (fun av kk wr => ∃ k vn' vb' D' at_, k ≤ F.length ∧ kk = .int .i64 ((k : Nat) : Int) ∧ at_.length = k ∧ wr.ownsRow w.heap.size 3 1 av k ((toZ at_).map (Value.int .i64)) ∧ BookAt wr pb vn' vb' D' ∧ BookGo w wr pb vn vb D vn' vb' D' ∧ D'.length ≤ D.length + k ∧
    (∀ b, av.ownBlock = some b → w.heap.size ≤ b ∧ Beside wr pb vn' vb' D' b) ∧ wr.heap[w.heap.size]? = some (.cells #[.slice aF F.length capF] 28 (0, 0)) ∧ Beside wr pb vn' vb' D' w.heap.size ∧ av.ownBlock ≠ some w.heap.size ∧ Hid (∀ i (h : i < at_.length), at_[i] < D'.length ∧ Same (vl D' at_[i]) (vl F i))) (fun _ kk _ => F.length - (intOf kk).toNat)
  case atStart =>
    refine ⟨0, vn, vb, D, [], Nat.zero_le _, rfl, rfl, own_empty2 w _ _ (Nat.le_refl _) _, hB.bk.ext hE2, BookGo.ext hB.bk hE2, Nat.le_refl _, fun b hb => ?_, ?_, ?_, ?_, fun i h => absurd h (by simp)⟩
    · simp [Value.ownBlock] at hb; subst hb
      exact ⟨by omega, (Beside.new hB.bk (b := w.heap.size + 1) (by omega)).goE hB.bk hE2⟩
    · rw [Below.heap_alloc _ _ _ (by rw [World.size_alloc]; omega)]; exact heap_alloc_new _ _
    · exact (Beside.new hB.bk (Nat.le_refl _)).goE hB.bk hE2
    · simp [Value.ownBlock]
  case round =>
    obtain ⟨k, vn1, vb1, D1, at_, hk, rfl, hal, hown, hB1, hG1, hD1, hbes, hbox, hbb, hne, HA⟩ := hrel
    have hBO := hB.go hB1 hG1
    have cbox := cell_of_row wr w.heap.size 0 _ _ _ hbox
    by_cases hlt : k < F.length
    · have hlt' : ((k : Nat) : Int) < (F.length : Int) := by omega
      obtain ⟨bF, cF, aL, cL, aR, cR, he, hcF, cl, cr, hIL, hIR⟩ := hf.at hlt
      simp only [Value.slice.injEq] at he
      obtain ⟨rfl, -, rfl⟩ := he
      have gl := good_lens hGF.out hlt
      have hwk := hGF.out.wf k _ (List.getElem?_eq_getElem hlt)
      have hSx : ∀ W, Ext w0 W → W.heap[w.heap.size]? = some (.cells #[.slice (some ⟨bF, 0, none⟩) F.length capF] 28 (0, 0)) → W.cell? ⟨w.heap.size, 0, none⟩ = some (.slice (some ⟨bF, 0, none⟩) F.length capF) ∧ W.cell? ⟨bF, k * 2, none⟩ = some (.slice aL (F[k]).1.length cL) ∧ W.cell? ⟨bF, k * 2 + 1, none⟩ = some (.slice aR (F[k]).2.length cR) :=
        fun W h1 h2 => ⟨cell_of_row W w.heap.size 0 _ _ _ h2, (h1.cell (lt_of_cell cl)).trans cl, (h1.cell (lt_of_cell cr)).trans cr⟩
      have hS0 := hSx wr hBO.ext hbox
      obtain ⟨aA, cA, rfl, hcA, _⟩ := own_len hown
      have hx0 : Ext wr wr.drew := ⟨rfl, rfl, rfl, Nat.le_refl _, fun _ _ => rfl⟩
      have hIat := Ints.of_own (l := toZ at_) hown (by rw [toZ_len]; have := hB1.small; omega)
      have HIAT := Lib.hid hIat
      have HOWN := Lib.hid hown
      have HB1 := Lib.hid hB1
      have HG1 := Lib.hid hG1
      have HBO := Lib.hid hBO
      have HBES := Lib.hid hbes
      have HBOX := Lib.hid hbox
      have HNE := Lib.hid hne
      have HAL := Lib.hid hal
      have HD1 := Lib.hid hD1
      have HGL := Lib.hid gl
      have HWK := Lib.hid hwk
      have HIL := Lib.hid hIL
      have HIR := Lib.hid hIR
      clear hown hB1 hG1 hBO hbes hbox hne hal hIat hIL hIR cl cr hcF hD1 gl hwk
      go_wp2_with fail
      refine wp_region_T (fun W => W.cell? ⟨w.heap.size, 0, none⟩ = some (.slice (some ⟨bF, 0, none⟩) F.length capF) ∧ W.cell? ⟨bF, k * 2, none⟩ = some (.slice aL (F[k]).1.length cL) ∧ W.cell? ⟨bF, k * 2 + 1, none⟩ = some (.slice aR (F[k]).2.length cR)) [20, 21] (by kernel_rfl) hS0 (fun hHeld => ?_)
      ((refine tkT (i := 0) (v := ?v1) (by simp only [gE]; rfl) hHeld (Or.inl ⟨by rfl, ?hy1⟩) ?r1; case hy1 => (intro w' hSw; (try dsimp only at hSw); go_simp; (try with_reducible rfl))); (try simp only [Act.put, nE]); (refine tkT (i := 1) (v := ?v2) (by simp only [gE]; rfl) hHeld (Or.inl ⟨by rfl, ?hy2⟩) ?r2; case hy2 => (intro w' hSw; (try dsimp only at hSw); go_simp; (try with_reducible rfl))); (try simp only [Act.put, nE]); (refine tkT (i := 2) (v := ?v3) (by simp only [gE]; rfl) hHeld (Or.inl ⟨by rfl, ?hy3⟩) ?r3; case hy3 => (intro w' hSw; (try dsimp only at hSw); go_simp; (try with_reducible rfl))); (try simp only [Act.put, nE]); (refine tkT (i := 3) (v := ?v4) (by simp only [gE]; rfl) hHeld (Or.inl ⟨by rfl, ?hy4⟩) ?r4; case hy4 => (intro w' hSw; (try dsimp only at hSw); go_simp; (try with_reducible rfl))); (try simp only [Act.put, nE]); (refine tkT (i := 4) (v := ?v5) (by simp only [gE]; rfl) hHeld (Or.inl ⟨by rfl, ?hy5⟩) ?r5; case hy5 => (intro w' hSw; (try dsimp only at hSw); go_simp; (try with_reducible rfl))); (try simp only [Act.put, nE]); (refine tkT (i := 5) (v := ?v6) (by simp only [gE]; rfl) hHeld (Or.inl ⟨by rfl, ?hy6⟩) ?r6; case hy6 => (intro w' hSw; (try dsimp only at hSw); go_simp; (try with_reducible rfl))); (try simp only [Act.put, nE]); (refine tkT (i := 6) (v := ?v7) (by simp only [gE]; rfl) hHeld (Or.inl ⟨by rfl, ?hy7⟩) ?r7; case hy7 => (intro w' hSw; (try dsimp only at hSw); go_simp; (try with_reducible rfl))); (try simp only [Act.put, nE]); (refine tkT (i := 7) (v := ?v8) (by simp only [gE]; rfl) hHeld (Or.inl ⟨by rfl, ?hy8⟩) ?r8; case hy8 => (intro w' hSw; (try dsimp only at hSw); go_simp; (try with_reducible rfl))); (try simp only [Act.put, nE]); (refine tkT (i := 8) (v := ?v9) (by simp only [gE]; rfl) hHeld (Or.inl ⟨by rfl, ?hy9⟩) ?r9; case hy9 => (intro w' hSw; (try dsimp only at hSw); go_simp; (try with_reducible rfl))); (try simp only [Act.put, nE]); (refine tkT (i := 10) (v := ?v10) (by simp only [gE]; rfl) hHeld (Or.inl ⟨by rfl, ?hy10⟩) ?r10; case hy10 => (intro w' hSw; (try dsimp only at hSw); go_simp; (try with_reducible rfl))); (try simp only [Act.put, nE]); (refine tkT (i := 11) (v := ?v11) (by simp only [gE]; rfl) hHeld (Or.inl ⟨by rfl, ?hy11⟩) ?r11; case hy11 => (intro w' hSw; (try dsimp only at hSw); go_simp; (try with_reducible rfl))); (try simp only [Act.put, nE]); (refine tkT (i := 12) (v := ?v12) (by simp only [gE]; rfl) hHeld (Or.inl ⟨by rfl, ?hy12⟩) ?r12; case hy12 => (intro w' hSw; (try dsimp only at hSw); go_simp; (try with_reducible rfl))); (try simp only [Act.put, nE]); (refine tkT (i := 13) (v := ?v13) (by simp only [gE]; rfl) hHeld (Or.inl ⟨by rfl, ?hy13⟩) ?r13; case hy13 => (intro w' hSw; (try dsimp only at hSw); go_simp; (try with_reducible rfl))); (try simp only [Act.put, nE]); (refine tkT (i := 14) (v := ?v14) (by simp only [gE]; rfl) hHeld (Or.inl ⟨by rfl, ?hy14⟩) ?r14; case hy14 => (intro w' hSw; (try dsimp only at hSw); go_simp; (try with_reducible rfl))); (try simp only [Act.put, nE]); (refine tkT (i := 15) (v := ?v15) (by simp only [gE]; rfl) hHeld (Or.inl ⟨by rfl, ?hy15⟩) ?r15; case hy15 => (intro w' hSw; (try dsimp only at hSw); go_simp; (try with_reducible rfl))); (try simp only [Act.put, nE]); (refine tkT (i := 16) (v := ?v16) (by simp only [gE]; rfl) hHeld (Or.inl ⟨by rfl, ?hy16⟩) ?r16; case hy16 => (intro w' hSw; (try dsimp only at hSw); go_simp; (try with_reducible rfl))); (try simp only [Act.put, nE]))
      (refine wpAnyT_step (i := 9) (o := _) (by kernel_rfl) (by simp only [gE]; rfl) (fun K hK => ?_); go_simp)
      have hlen1 : (toZ (F[k]).1).length ≤ 1000000000 := by rw [toZ_len]; have := HGL.out.1; omega
      have hlen2 : (toZ (F[k]).2).length ≤ 1000000000 := by rw [toZ_len]; have := HGL.out.2; omega
      have bnd1 : ∀ x, x ∈ toZ (F[k]).1 → 0 ≤ x ∧ x < (toZ at_).length := fun x hx => by obtain ⟨n, hn, rfl⟩ := toZ_mem hx; have := HWK.out.1 n hn; rw [toZ_len, HAL.out]; omega
      have bnd2 : ∀ x, x ∈ toZ (F[k]).2 → 0 ≤ x ∧ x < (toZ at_).length := fun x hx => by obtain ⟨n, hn, rfl⟩ := toZ_mem hx; have := HWK.out.2 n hn; rw [toZ_len, HAL.out]; omega
      refine (l3At_any _ _ (toZ at_) (toZ (F[k]).1) _ (HIAT.out.ext hx0) (HIL.out.ext (ext_trans HBO.out.ext hx0)) bnd1 hlen1).mono ?_
      rintro e w1 ⟨v1, rfl, hI1, hx1⟩
      have hx01 := ext_trans hx0 hx1
      (refine hK.out _ _ (fun _ => ?_) ?_)
      · exact hSx _ (ext_trans HBO.out.ext hx01) (by rw [hx01.block _ (blk_lt HBOX.out)]; exact HBOX.out)
      clear hK K
      (try simp only [Act.put, nE])
      (refine wpAnyT_step (i := 17) (o := _) (by kernel_rfl) (by simp only [gE]; rfl) (fun K hK => ?_); go_simp)
      refine (l3At_any _ _ (toZ at_) (toZ (F[k]).2) _ (HIAT.out.ext hx01) (HIR.out.ext (ext_trans HBO.out.ext hx01)) bnd2 hlen2).mono ?_
      rintro e w2 ⟨v2, rfl, hI2, hx2⟩
      have hx02 := ext_trans hx01 hx2
      have hbox2 : w2.heap[w.heap.size]? = some (.cells #[.slice (some ⟨bF, 0, none⟩) F.length capF] 28 (0, 0)) := by rw [hx02.block _ (blk_lt HBOX.out)]; exact HBOX.out
      (refine hK.out _ _ (fun _ => ?_) ?_)
      · exact hSx _ (ext_trans HBO.out.ext hx02) hbox2
      clear hK K
      (try simp only [Act.put, nE])
      have hI1' := hI1.ext hx2
      rw [atZ_toZ] at hI1' hI2
      have hB2 := HB1.out.ext hx02
      have hat1 : ∀ i (h : i < at_.length), at_[i] < D1.length := fun i h => (HA.out i h).1
      have hG2 := HG1.out.trans (BookGo.ext HB1.out hx02)
      have hbes2 : ∀ b, Value.ownBlock (.slice aA k cA) = some b → w.heap.size ≤ b ∧ Beside w2 pb vn1 vb1 D1 b := fun b hb => ⟨(HBES.out b hb).1, (HBES.out b hb).2.goE HB1.out hx02⟩
      have hbb2 := hbb.goE HB1.out hx02
      have hown2 := own_keep HOWN.out hx02
      (refine wpAnyT_step (i := 18) (o := _) (by kernel_rfl) (by simp only [gE]; rfl) (fun K hK => ?_); go_simp)
      refine (put_any pb vn1 vb1 D1 _ _ _ _ _ hB2 hI1' hI2 (at_bnd HWK.out.1 HAL.out hat1) (at_bnd HWK.out.2 HAL.out hat1) (by simp; have := HGL.out.1; omega) (by simp; have := HGL.out.2; omega) (by have := HD1.out; omega)).mono ?_
      rintro e w3 ⟨vn2, vb2, D2, i2, rfl, hB3, hK3, hS3, hQ3, hP3⟩
      have hgo3 := BookGo.of_put hK3 hS3 hQ3 hP3
      have hbox3 : w3.heap[w.heap.size]? = some (.cells #[.slice (some ⟨bF, 0, none⟩) F.length capF] 28 (0, 0)) := by rw [hK3.block _ (blk_lt hbox2) hbb2.ins]; exact hbox2
      have hG3 := hG2.trans hgo3
      have hBO3 := hB.go hB3 hG3
      (refine hK.out _ _ (fun _ => ?_) ?_)
      · exact hSx _ hBO3.ext hbox3
      clear hK K
      (try simp only [Act.put, nE])
      (refine wpAnyT_step (i := 19) (o := _) (by kernel_rfl) (by simp only [gE]; rfl) (fun K hK => ?_); go_simp)
      have hx4 : Ext w3 (w3.alloc (.cells #[.int .i64 ((i2 : Nat) : Int)] 3)) := by go_grown
      (refine hK.out _ _ (fun _ => ?_) ?_)
      · exact hSx _ (ext_trans hBO3.ext hx4) (by rw [hx4.block _ (blk_lt hbox3)]; exact hbox3)
      clear hK K
      (try simp only [Act.put, nE])
      have hown3 := own_keepG hown2 hK3 (fun b hb => (hbes2 b hb).2.ins)
      have hzw := hG3.keep.size
      refine wpAnyT_tail [20, 21] [?o17_20, ?o17_21] _ _ _ _ (by simp) (by kernel_rfl) (by rfl) (by simp only [List.map_cons, List.map_nil, gE]; rfl) ?_
      refine app_list rfl (.tmp 15) (.tmp 34) 22 rfl w.heap.size 3 i0 (.int .i64 0) 1 8 Tryz.underlying22 hi0 hz0 hz1 hz2 rfl (by decide) (.slice aA k cA) k ((toZ at_).map (Value.int .i64)) rfl (own_keep hown3 hx4) _ 1 _ [.int .i64 ((i2 : Nat) : Int)] rfl rfl (.inr ⟨_, rfl, one_src (new_cell _ _ _)⟩) one_cell (by unfold maxLen; omega) (by omega) (by rw [World.size_alloc]; omega) ?_
      intro v5 w5 ho5 hg5 hl5
      have hbes3 : ∀ b, Value.ownBlock (.slice aA k cA) = some b → w.heap.size ≤ b ∧ Beside w3 pb vn2 vb2 D2 b := fun b hb => ⟨(hbes2 b hb).1, (hbes2 b hb).2.go (hown2.lt b hb).2 hgo3⟩
      have hbb3 := hbb2.go (blk_lt hbox2) hgo3
      obtain ⟨hB5, hG5, hbes5, hside⟩ := Beside.row hG3 hB3 hbes3 hx4 hg5 hl5
      have hbb5 := hside _ hbb3
      have hbox5 : w5.heap[w.heap.size]? = some (.cells #[.slice (some ⟨bF, 0, none⟩) F.length capF] 28 (0, 0)) := by
        rw [hg5.block _ (by rw [World.size_alloc]; have := blk_lt hbox3; omega) (fun e => HNE.out e.symm), hx4.block _ (blk_lt hbox3)]; exact hbox3
      have hne5 : v5.ownBlock ≠ some w.heap.size := by
        rcases hl5 with h | ⟨g, h, h2⟩
        · rw [h]; exact HNE.out
        · rw [h]; intro e; injection e with e; rw [World.size_alloc] at h2; have := blk_lt hbox3; omega
      have hlen : D2.length ≤ D.length + (k + 1) := by have := hP3.len; have := HD1.out; omega
      have hsame : Hid (∀ j (h : j < (at_ ++ [i2]).length), (at_ ++ [i2])[j] < D2.length ∧ Same (vl D2 (at_ ++ [i2])[j]) (vl F j)) :=
        snoc_all (P := fun a j => a < D2.length ∧ Same (vl D2 a) (vl F j)) (more_same HB1.out.good.wf hB3.good.wf hgo3.more HA.out) ⟨hP3.lt, by rw [HAL.out]; exact put_same HB1.out.good.wf hB3.good.wf hGF.out.wf hlt HAL.out HA.out hP3⟩
      have H5 := Lib.hid hB5
      have H6 := Lib.hid hG5
      have H7 := Lib.hid hbes5
      have H8 := Lib.hid hbox5
      have H9 := Lib.hid hbb5
      have H10 := Lib.hid hne5
      have H11 := Lib.hid ho5
      have H12 := Lib.hid hlen
      clear hB5 hG5 hbes5 hbox5 hbb5 hne5 ho5 hlen hg5 hl5 hside hbes3 hbb3 hgo3 hbox3 hG3 hBO3 hx4 hown3 hB3 hK3 hS3 hQ3 hbes2 hbb2 hown2 hG2 hB2 hHeld
      (try simp only [Act.put, nE])
      go_wp2_with fail
      go_roundw
      case rel => exact ⟨k + 1, vn2, vb2, D2, at_ ++ [i2], by omega, by go_num, by rw [List.length_append, HAL.out]; rfl, by simpa [toZ] using H11.out, H5.out, H6.out, H12.out, H7.out, H8.out, H9.out, H10.out, hsame⟩
      case measure => simp [intOf]; omega
    · have hke : k = F.length := by omega
      have hlt' : ¬ (((k : Nat) : Int) < (F.length : Int)) := by omega
      obtain ⟨aA, cA, rfl, hcA, _⟩ := own_len hown
      have hIat := Ints.of_own (l := toZ at_) hown (by rw [toZ_len]; have := hB1.small; omega)
      have HIAT := Lib.hid hIat
      have HB1 := Lib.hid hB1
      have HG1 := Lib.hid hG1
      have HKE := Lib.hid hke
      clear hown hB1 hG1 hbes hbox hne hIat hke
      go_wp2
      go_ret
      exact ⟨_, vn1, vb1, D1, at_, rfl, HIAT.out, HB1.out, HG1.out, by have := HKE.out; omega, by rw [hal]; exact HKE.out, HA.out⟩

def RootPost (pb : Nat) (vn vb : Value) (D F : Dag) (w : World) (e : Ending) (w' : World) : Prop :=
  ∃ vn' vb' D' i, e = .returned (.int .i64 ((i : Nat) : Int)) ∧ BookAt w' pb vn' vb' D' ∧ BookGo w w' pb vn vb D vn' vb' D' ∧ D'.length ≤ D.length + F.length ∧ i < D'.length ∧ Same (vl D' i) (Cgt.topOf F)

set_option maxHeartbeats 2000000 in
theorem root_any (pb : Nat) (vn vb : Value) (D : Dag) (vf : Value) (F : Dag) (w0 w : World) (hB : BookOn w0 w pb vn vb D) (hf : Nodes w0 0 vf F) (hF : Cgt.Good F) (h0 : 0 < F.length) (hroom : D.length + F.length ≤ 1000000) :
    Calls Tryz.prog 50 #[.pointer (some ⟨pb, 0, none⟩), .agg #[vf]] w (RootPost pb vn vb D F w) := by
  obtain ⟨aF, capF, rfl, -⟩ := id hf
  have hx : Ext w (w.alloc (.cells #[.slice aF F.length capF] 28)) := by go_grown
  have hB1 := hB.ext' hx
  go_enter Tryz.func50, Tryz.ntmps50
  have hwr : wrap64 ((F.length : Int) - 1) = ((F.length - 1 : Nat) : Int) := by unfold wrap64; omega
  go_wp2_with (first
    | (go_at_call 71; refine (add_any pb vn vb D _ F w0 _ hB1 hf hF hroom).mono ?_; rintro e w1 ⟨v1, vn1, vb1, D1, at_, rfl, hI, hB2, hG2, hD2, hal, hat⟩
       have e9 : (toZ at_).length = F.length := by rw [toZ_len, hal]
       obtain ⟨a1, c1, rfl, hc1, hm1, hcell⟩ := hI
       rw [e9] at hc1 hm1 hcell ⊢
       obtain ⟨b, off, rfl, hcc⟩ := hcell h0
       have hc2 := hcc (F.length - 1) (by omega)
       rw [toZ_zat (by omega)] at hc2))
  go_ret
  have hlast := hat (F.length - 1) (by omega)
  exact ⟨vn1, vb1, D1, _, rfl, hB2, (BookGo.ext hB.bk hx).trans hG2, hD2, hlast.1, hlast.2⟩

end Go.Proofs.YtjkdanmpihildaaGreatDoor

namespace Go.Proofs.YtjkdanmpihildaaGreatDoor
open Cgt

theorem eqv_opts {l r : List Nat} {f g : Nat → Gm} (hl : ∀ x, x ∈ l → Eqv (f x) (g x)) (hr : ∀ x, x ∈ r → Eqv (f x) (g x)) : Eqv (.mk (l.map f) (r.map f)) (.mk (l.map g) (r.map g)) := by
  constructor
  · refine ge_of (fun y hy => ?_) (fun y hy => ?_)
    · obtain ⟨x, hx, rfl⟩ := List.mem_map.1 hy; exact .inl ⟨g x, List.mem_map_of_mem hx, (hr x hx).1⟩
    · obtain ⟨x, hx, rfl⟩ := List.mem_map.1 hy; exact .inl ⟨f x, List.mem_map_of_mem hx, (hl x hx).1⟩
  · refine ge_of (fun y hy => ?_) (fun y hy => ?_)
    · obtain ⟨x, hx, rfl⟩ := List.mem_map.1 hy; exact .inl ⟨f x, List.mem_map_of_mem hx, (hr x hx).2⟩
    · obtain ⟨x, hx, rfl⟩ := List.mem_map.1 hy; exact .inl ⟨g x, List.mem_map_of_mem hx, (hl x hx).2⟩

theorem card_le {n : Nat} {at_ : List Nat} {R : Nat → Nat → Prop} (h : ∀ i, i < n → ∃ j, j ∈ at_ ∧ R i j) (hu : ∀ i i' j, i < n → i' < n → R i j → R i' j → i = i') : n ≤ at_.length := by
  classical
  have h1 : ∀ i, ∃ k, i < n → ∃ hk : k < at_.length, R i at_[k] := fun i => by
    by_cases c : i < n
    · obtain ⟨j, hj, hr⟩ := h i c
      obtain ⟨k, hk, rfl⟩ := List.mem_iff_getElem.1 hj
      exact ⟨k, fun _ => ⟨hk, hr⟩⟩
    · exact ⟨0, fun c' => absurd c' c⟩
  have h2 : ((List.range n).map fun i => Classical.choose (h1 i)).Nodup := by
    rw [List.Nodup, List.pairwise_map]
    refine List.Pairwise.imp_of_mem (R := fun a b => a < b) ?_ List.pairwise_lt_range
    intro a b ha hb hab e
    have ha' := List.mem_range.1 ha
    have hb' := List.mem_range.1 hb
    obtain ⟨k1, r1⟩ := Classical.choose_spec (h1 a) ha'
    obtain ⟨k2, r2⟩ := Classical.choose_spec (h1 b) hb'
    have : a = b := hu a b _ ha' hb' r1 (by simp only [e]; exact r2)
    omega
  have h3 := nodup_len (n := at_.length) h2 (fun x hx => by
    obtain ⟨i, hi, rfl⟩ := List.mem_map.1 hx
    exact (Classical.choose_spec (h1 i) (List.mem_range.1 hi)).1)
  simpa using h3

theorem form_small {D F' : Dag} {root : Nat} {at_ : List Nat} (g : Cgt.Good D) (hr : root < D.length) (hF : IsForm F') (hs : Same (topOf F') (vl D root)) (hroot : root ∈ at_) (hc : ∀ j side x, j ∈ at_ → x ∈ opt D side j → x ∈ at_) : F'.length ≤ at_.length := by
  have hin : ∀ j, Cgt.Reach D root j → j ∈ at_ := by
    intro j h
    induction h with
    | here => exact hroot
    | @left j k nd _ hd hk ih => exact hc j true k ih (by simp [opt, hd]; exact hk)
    | @right j k nd _ hd hk ih => exact hc j false k ih (by simp [opt, hd]; exact hk)
  refine card_le (R := fun i j => Same (vl F' i) (vl D j)) (fun i hi => ?_) (fun i i' j hi hi' h1 h2 => same_idx hF.good i i' hi hi' (same_trans h1 (same_symm h2)))
  obtain ⟨j, _, rj, sj⟩ := reach_same hF.good g hr hs (hF.reach i hi)
  exact ⟨j, hin j rj, sj⟩

structure CInv (D F : Dag) (at_ : List Nat) : Prop where
  lt : ∀ i (h : i < at_.length), at_[i] < D.length
  canon : ∀ i (h : i < at_.length), Canon (vl D at_[i])
  eqv : ∀ i (h : i < at_.length), Eqv (vl D at_[i]) (vl F i)
  shut : ∀ j side x, j ∈ at_ → x ∈ opt D side j → x ∈ at_

theorem CInv.nil (F : Dag) : CInv [] F [] := ⟨fun i h => absurd h (by simp), fun i h => absurd h (by simp), fun i h => absurd h (by simp), by simp⟩
theorem CInv.next {D D' F : Dag} {at_ : List Nat} {k i : Nat} (g : Cgt.WF D) (g' : Cgt.WF D') (hF : WF F) (hk : k < F.length) (ha : at_.length = k) (h : CInv D F at_) (hE : ∃ E, D' = D ++ E ∧ E.length ≤ 3) (hi : i < D'.length) (hc : Canon (vl D' i))
    (he : Eqv (vl D' i) (.mk (((F[k]).1.map fun x => at_.getD x 0).map (vl D)) (((F[k]).2.map fun x => at_.getD x 0).map (vl D)))) (hw : Within D ((F[k]).1.map fun x => at_.getD x 0) ((F[k]).2.map fun x => at_.getD x 0) D' i) : CInv D' F (at_ ++ [i]) := by
  obtain ⟨E, rfl, _⟩ := hE
  have dk : F[k]? = some F[k] := List.getElem?_eq_getElem hk
  have hwk := hF k _ dk
  have key : ∀ x, x < k → ∃ hx : x < at_.length, at_.getD x 0 = at_[x] := fun x hx => ⟨by omega, by rw [List.getD_eq_getElem?_getD, List.getElem?_eq_getElem (by omega)]; rfl⟩
  refine ⟨snoc_all (P := fun a _ => a < (D ++ E).length) (fun j hj => by have := h.lt j hj; simp; omega) hi, snoc_all (P := fun a _ => Canon (vl (D ++ E) a)) (fun j hj => by rw [vl_append g g' _ (h.lt j hj)]; exact h.canon j hj) hc,
    snoc_all (P := fun a j => Eqv (vl (D ++ E) a) (vl F j)) (fun j hj => by rw [vl_append g g' _ (h.lt j hj)]; exact h.eqv j hj) ?_, fun j side x hj hx => ?_⟩
  · rw [ha]
    refine he.trans ?_
    rw [vl_mk hF dk, List.map_map, List.map_map]
    refine eqv_opts (fun x hx => ?_) (fun x hx => ?_)
    · obtain ⟨hl, e⟩ := key x (hwk.1 x hx)
      show Eqv (vl D (at_.getD x 0)) _
      rw [e]; exact h.eqv x hl
    · obtain ⟨hl, e⟩ := key x (hwk.2 x hx)
      show Eqv (vl D (at_.getD x 0)) _
      rw [e]; exact h.eqv x hl
  · have hm : ∀ l : List Nat, (∀ x, x ∈ l → x < k) → ∀ y, y ∈ l.map (fun x => at_.getD x 0) → y ∈ at_ := fun l hl y hy => by
      obtain ⟨x, hx, rfl⟩ := List.mem_map.1 hy
      obtain ⟨hl', e⟩ := key x (hl x hx)
      rw [e]; exact List.getElem_mem hl'
    rcases List.mem_append.1 hj with hj | hj
    · have hlt : j < D.length := by obtain ⟨q, hq, rfl⟩ := List.mem_iff_getElem.1 hj; exact h.lt q hq
      rw [opt_old hlt] at hx
      exact List.mem_append_left _ (h.shut j side x hj hx)
    · obtain rfl : j = i := by simpa using hj
      exact List.mem_append_left _ (hw (fun y => y ∈ at_) (fun a sd y ha hy => h.shut a sd y ha hy) (hm _ hwk.1) (hm _ hwk.2) side x hx)

theorem canon_at {D : Dag} {at_ : List Nat} {l : List Nat} {k : Nat} {F : Dag} (h : CInv D F at_) (hl : ∀ x, x ∈ l → x < k) (ha : at_.length = k) : ∀ x, x ∈ l.map (fun x => at_.getD x 0) → Canon (vl D x) := by
  intro x hx
  obtain ⟨y, hy, rfl⟩ := List.mem_map.1 hx
  have hlt : y < at_.length := by have := hl y hy; omega
  have e : at_.getD y 0 = at_[y] := by rw [List.getD_eq_getElem?_getD, List.getElem?_eq_getElem hlt]; rfl
  rw [e]; exact h.canon y hlt

end Go.Proofs.YtjkdanmpihildaaGreatDoor
