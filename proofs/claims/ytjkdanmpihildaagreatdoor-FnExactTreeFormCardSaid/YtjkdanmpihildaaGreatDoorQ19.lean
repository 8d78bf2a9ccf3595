/-
  Contract of the reference's l6Canon.
-/
import Derived.Test.YtjkdanmpihildaaGreatDoorQ18
namespace Go.Proofs.YtjkdanmpihildaaGreatDoor
open Go.RowKit
open Cgt (Dag Nd vl Same Canon Eqv)

theorem book_empty {w : World} {pb : Nat} {t : TypeId} (h : w.heap[pb]? = some (.cells #[.slice none 0 0, .slice none 0 0] t (0, 0))) : BookAt w pb (.slice none 0 0) (.slice none 0 0) [] :=
  ⟨Cgt.Good.nil, by simp, ⟨t, h⟩, ⟨by simp, .inl ⟨rfl, rfl⟩⟩, ⟨[], ⟨by simp, .inl ⟨rfl, rfl⟩⟩, fun i h => absurd h (by simp)⟩, by simp [Value.ownBlock], by simp [Value.ownBlock], by simp [Value.ownBlock]⟩
theorem Nodes.set {w : World} {base : Nat} {v : Value} {F : Dag} (h : Nodes w base v F) {p : Addr} (hp : p.block < base) (u : Value) : Nodes (w.setCell p u) base v F := by
  obtain ⟨a, cap, rfl, h1, h2, h3⟩ := h
  refine ⟨a, cap, rfl, h1, h2, fun h0 => ?_⟩
  obtain ⟨b, rfl, hb, hc⟩ := h3 h0
  refine ⟨b, rfl, hb, fun i hi => ?_⟩
  obtain ⟨L, R, c1, c2, c3, c4, c5, c6⟩ := hc i hi
  have e : ∀ k, base ≤ k → (w.setCell p u).heap[k]? = w.heap[k]? := fun k hk => heap_setCell_other _ _ _ _ (by omega)
  exact ⟨L, R, by rw [World.cell?_of_block (w := w) (e b hb)]; exact c1, by rw [World.cell?_of_block (w := w) (e b hb)]; exact c2, c3.keep (fun b hl hb' => e b (c5 b hb').1), c4.keep (fun b hl hb' => e b (c6 b hb').1), by simpa using c5, by simpa using c6⟩

def CanonPost (F : Dag) (w : World) (e : Ending) (w' : World) : Prop :=
  ∃ vN F' g, e = .returned (.agg #[vN]) ∧ Nodes w' w.heap.size vN F' ∧ Cgt.IsForm F' ∧ Same (Cgt.topOf F') g ∧ Canon g ∧ Eqv g (Cgt.topOf F) ∧ F'.length ≤ F.length ∧ Ext w w'

set_option maxHeartbeats 2000000 in
set_option maxRecDepth 100000 in
theorem l6Canon_any (vf : Value) (F : Dag) (w : World) (hf : Nodes w 0 vf F) (hF : Cgt.Good F) (h0 : 0 < F.length) (hroom : 3 * F.length ≤ 1000000) :
    Calls Tryz.prog 33 #[.agg #[vf]] w (CanonPost F w) := by
  obtain ⟨i0, hi0, hz0, hz1, hz2⟩ := info_parts info_int
  obtain ⟨aF, capF, rfl, -⟩ := id hf
  have hGF := Lib.hid hF
  go_enter Tryz.func33, Tryz.ntmps33
  go_wp2
  obtain ⟨we, hwe⟩ : ∃ we, we = ((w.alloc (.cells #[.slice aF F.length capF] 28)).alloc (.cells #[.slice none 0 0] 28)).alloc (.cells #[.slice none 0 0, .slice none 0 0] 84) := ⟨_, rfl⟩
  have hze : we.heap.size = w.heap.size + 3 := by rw [hwe]; simp
  have hb0 : we.heap[w.heap.size]? = some (.cells #[.slice aF F.length capF] 28 (0, 0)) := by
    rw [hwe, Below.heap_alloc _ _ _ (by simp; omega), Below.heap_alloc _ _ _ (by simp)]; exact heap_alloc_new _ _
  have hb1 : we.heap[w.heap.size + 1]? = some (.cells #[.slice none 0 0] 28 (0, 0)) := by
    rw [hwe, Below.heap_alloc _ _ _ (by simp)]; have h := heap_alloc_new (w.alloc (.cells #[.slice aF F.length capF] 28)) (.cells #[.slice none 0 0] 28); rw [World.size_alloc] at h; exact h
  have hb2 : we.heap[w.heap.size + 1 + 1]? = some (.cells #[.slice none 0 0, .slice none 0 0] 84 (0, 0)) := by
    rw [hwe]; have h := heap_alloc_new ((w.alloc (.cells #[.slice aF F.length capF] 28)).alloc (.cells #[.slice none 0 0] 28)) (.cells #[.slice none 0 0, .slice none 0 0] 84); rw [World.size_alloc, World.size_alloc] at h; exact h
  have hxe : Ext w we := by rw [hwe]; go_grown
  have hBe : BookAt we (w.heap.size + 1 + 1) (.slice none 0 0) (.slice none 0 0) [] := book_empty hb2
  have hB : BookOn w we (w.heap.size + 1 + 1) (.slice none 0 0) (.slice none 0 0) [] := ⟨hBe, fun b hb => by
    rcases hb with h | h | h
    · omega
    · simp [Value.ownBlock] at h
    · simp [Value.ownBlock] at h, hxe⟩
  have hsd : ∀ b, b < w.heap.size + 2 → Beside we (w.heap.size + 1 + 1) (.slice none 0 0) (.slice none 0 0) [] b := fun b hb => ⟨fun k => by
    rcases k with h | h | h
    · omega
    · simp [Value.ownBlock] at h
    · simp [Value.ownBlock] at h, fun ⟨i, g, cap, v, hi, _⟩ => by simp at hi⟩
  rw [← hwe]
  have hxa : Ext we (we.alloc (.cells #[] 3)) := by go_grown
  have hwe1 : w.heap.size + 1 + 1 + 1 = we.heap.size := by omega
  rw [hwe1]
  have hzl : w.heap.size + 2 < we.heap.size := by omega
  clear hwe hze hwe1
  go_loopw [4, 5] (fun av kk wr => ∃ k vn' vb' D' at_, k ≤ F.length ∧ kk = .int .i64 ((k : Nat) : Int) ∧ at_.length = k ∧ wr.ownsRow we.heap.size 3 1 av k ((toZ at_).map (Value.int .i64)) ∧ BookAt wr (w.heap.size + 1 + 1) vn' vb' D' ∧ BookGo we wr (w.heap.size + 1 + 1) (.slice none 0 0) (.slice none 0 0) [] vn' vb' D' ∧ D'.length ≤ 3 * k ∧
    (∀ b, av.ownBlock = some b → we.heap.size ≤ b ∧ Beside wr (w.heap.size + 1 + 1) vn' vb' D' b) ∧ wr.heap[w.heap.size]? = some (.cells #[.slice aF F.length capF] 28 (0, 0)) ∧ Beside wr (w.heap.size + 1 + 1) vn' vb' D' w.heap.size ∧ wr.heap[w.heap.size + 1]? = some (.cells #[.slice none 0 0] 28 (0, 0)) ∧ Beside wr (w.heap.size + 1 + 1) vn' vb' D' (w.heap.size + 1) ∧ Hid (CInv D' F at_)) (fun _ kk _ => F.length - (intOf kk).toNat)
  case atStart =>
    refine ⟨0, _, _, [], [], Nat.zero_le _, rfl, rfl, own_empty we _ (Nat.le_refl _) _, hBe.ext hxa, BookGo.ext hBe hxa, Nat.le_refl _, fun b hb => ?_, ?_, ?_, ?_, ?_, CInv.nil F⟩
    · simp [Value.ownBlock] at hb; subst hb
      exact ⟨Nat.le_refl _, (Beside.new hBe (b := we.heap.size) (Nat.le_refl _)).goE hBe hxa⟩
    · rw [hxa.block _ (by omega)]; exact hb0
    · exact (hsd _ (by omega)).goE hBe hxa
    · rw [hxa.block _ (by omega)]; exact hb1
    · exact (hsd _ (by omega)).goE hBe hxa
  case round =>
    obtain ⟨k, vn1, vb1, D1, at_, hk, rfl, hal, hown, hB1, hG1, hD1, hbes, hbox, hbb, hres, hrb, HA⟩ := hrel
    have hBO := hB.go hB1 hG1
    have cbox := cell_of_row wr w.heap.size 0 _ _ _ hbox
    by_cases hlt : k < F.length
    · have hlt' : ((k : Nat) : Int) < (F.length : Int) := by omega
      obtain ⟨bF, cF, aL, cL, aR, cR, he, hcF, cl, cr, hIL, hIR⟩ := hf.at hlt
      simp only [Value.slice.injEq] at he
      obtain ⟨rfl, -, rfl⟩ := he
      have gl := good_lens hGF.out hlt
      have hwk := hGF.out.wf k _ (List.getElem?_eq_getElem hlt)
      have hSx : ∀ W, Ext w W → W.heap[w.heap.size]? = some (.cells #[.slice (some ⟨bF, 0, none⟩) F.length capF] 28 (0, 0)) → W.cell? ⟨w.heap.size, 0, none⟩ = some (.slice (some ⟨bF, 0, none⟩) F.length capF) ∧ W.cell? ⟨bF, k * 2, none⟩ = some (.slice aL (F[k]).1.length cL) ∧ W.cell? ⟨bF, k * 2 + 1, none⟩ = some (.slice aR (F[k]).2.length cR) :=
        fun W h1 h2 => ⟨cell_of_row W w.heap.size 0 _ _ _ h2, (h1.cell (lt_of_cell cl)).trans cl, (h1.cell (lt_of_cell cr)).trans cr⟩
      have hS0 := hSx wr hBO.ext hbox
      obtain ⟨aA, cA, rfl, hcA, _⟩ := own_len hown
      have hx0 : Ext wr wr.drew := ⟨rfl, rfl, rfl, Nat.le_refl _, fun _ _ => rfl⟩
      have hIat := Ints.of_own (l := toZ at_) hown (by rw [toZ_len]; have := hB1.small; omega)
      have HIAT := Lib.hid hIat
      have HOWN := Lib.hid hown
      have HB1 := Lib.hid hB1
      have HG1 := Lib.hid hG1
      have HBO := Lib.hid hBO
      have HBES := Lib.hid hbes
      have HBOX := Lib.hid hbox
      have HRES := Lib.hid hres
      have HAL := Lib.hid hal
      have HD1 := Lib.hid hD1
      have HGL := Lib.hid gl
      have HWK := Lib.hid hwk
      have HIL := Lib.hid hIL
      have HIR := Lib.hid hIR
      clear hown hB1 hG1 hBO hbes hbox hres hal hIat hIL hIR cl cr hcF hD1 gl hwk
      go_wp2_with fail
      refine wp_region_T (fun W => W.cell? ⟨w.heap.size, 0, none⟩ = some (.slice (some ⟨bF, 0, none⟩) F.length capF) ∧ W.cell? ⟨bF, k * 2, none⟩ = some (.slice aL (F[k]).1.length cL) ∧ W.cell? ⟨bF, k * 2 + 1, none⟩ = some (.slice aR (F[k]).2.length cR)) [20, 21] (by kernel_rfl) hS0 (fun hHeld => ?_)
      ((refine tkT (i := 0) (v := ?v1) (by simp only [gE]; rfl) hHeld (Or.inl ⟨by rfl, ?hy1⟩) ?r1; case hy1 => (intro w' hSw; (try dsimp only at hSw); go_simp; (try with_reducible rfl))); (try simp only [Act.put, nE]); (refine tkT (i := 1) (v := ?v2) (by simp only [gE]; rfl) hHeld (Or.inl ⟨by rfl, ?hy2⟩) ?r2; case hy2 => (intro w' hSw; (try dsimp only at hSw); go_simp; (try with_reducible rfl))); (try simp only [Act.put, nE]); (refine tkT (i := 2) (v := ?v3) (by simp only [gE]; rfl) hHeld (Or.inl ⟨by rfl, ?hy3⟩) ?r3; case hy3 => (intro w' hSw; (try dsimp only at hSw); go_simp; (try with_reducible rfl))); (try simp only [Act.put, nE]); (refine tkT (i := 3) (v := ?v4) (by simp only [gE]; rfl) hHeld (Or.inl ⟨by rfl, ?hy4⟩) ?r4; case hy4 => (intro w' hSw; (try dsimp only at hSw); go_simp; (try with_reducible rfl))); (try simp only [Act.put, nE]); (refine tkT (i := 4) (v := ?v5) (by simp only [gE]; rfl) hHeld (Or.inl ⟨by rfl, ?hy5⟩) ?r5; case hy5 => (intro w' hSw; (try dsimp only at hSw); go_simp; (try with_reducible rfl))); (try simp only [Act.put, nE]); (refine tkT (i := 5) (v := ?v6) (by simp only [gE]; rfl) hHeld (Or.inl ⟨by rfl, ?hy6⟩) ?r6; case hy6 => (intro w' hSw; (try dsimp only at hSw); go_simp; (try with_reducible rfl))); (try simp only [Act.put, nE]); (refine tkT (i := 6) (v := ?v7) (by simp only [gE]; rfl) hHeld (Or.inl ⟨by rfl, ?hy7⟩) ?r7; case hy7 => (intro w' hSw; (try dsimp only at hSw); go_simp; (try with_reducible rfl))); (try simp only [Act.put, nE]); (refine tkT (i := 7) (v := ?v8) (by simp only [gE]; rfl) hHeld (Or.inl ⟨by rfl, ?hy8⟩) ?r8; case hy8 => (intro w' hSw; (try dsimp only at hSw); go_simp; (try with_reducible rfl))); (try simp only [Act.put, nE]); (refine tkT (i := 8) (v := ?v9) (by simp only [gE]; rfl) hHeld (Or.inl ⟨by rfl, ?hy9⟩) ?r9; case hy9 => (intro w' hSw; (try dsimp only at hSw); go_simp; (try with_reducible rfl))); (try simp only [Act.put, nE]); (refine tkT (i := 10) (v := ?v10) (by simp only [gE]; rfl) hHeld (Or.inl ⟨by rfl, ?hy10⟩) ?r10; case hy10 => (intro w' hSw; (try dsimp only at hSw); go_simp; (try with_reducible rfl))); (try simp only [Act.put, nE]); (refine tkT (i := 11) (v := ?v11) (by simp only [gE]; rfl) hHeld (Or.inl ⟨by rfl, ?hy11⟩) ?r11; case hy11 => (intro w' hSw; (try dsimp only at hSw); go_simp; (try with_reducible rfl))); (try simp only [Act.put, nE]); (refine tkT (i := 12) (v := ?v12) (by simp only [gE]; rfl) hHeld (Or.inl ⟨by rfl, ?hy12⟩) ?r12; case hy12 => (intro w' hSw; (try dsimp only at hSw); go_simp; (try with_reducible rfl))); (try simp only [Act.put, nE]); (refine tkT (i := 13) (v := ?v13) (by simp only [gE]; rfl) hHeld (Or.inl ⟨by rfl, ?hy13⟩) ?r13; case hy13 => (intro w' hSw; (try dsimp only at hSw); go_simp; (try with_reducible rfl))); (try simp only [Act.put, nE]); (refine tkT (i := 14) (v := ?v14) (by simp only [gE]; rfl) hHeld (Or.inl ⟨by rfl, ?hy14⟩) ?r14; case hy14 => (intro w' hSw; (try dsimp only at hSw); go_simp; (try with_reducible rfl))); (try simp only [Act.put, nE]); (refine tkT (i := 15) (v := ?v15) (by simp only [gE]; rfl) hHeld (Or.inl ⟨by rfl, ?hy15⟩) ?r15; case hy15 => (intro w' hSw; (try dsimp only at hSw); go_simp; (try with_reducible rfl))); (try simp only [Act.put, nE]); (refine tkT (i := 16) (v := ?v16) (by simp only [gE]; rfl) hHeld (Or.inl ⟨by rfl, ?hy16⟩) ?r16; case hy16 => (intro w' hSw; (try dsimp only at hSw); go_simp; (try with_reducible rfl))); (try simp only [Act.put, nE]))
      (refine wpAnyT_step (i := 9) (o := _) (by kernel_rfl) (by simp only [gE]; rfl) (fun K hK => ?_); go_simp)
      have hlen1 : (toZ (F[k]).1).length ≤ 1000000000 := by rw [toZ_len]; have := HGL.out.1; omega
      have hlen2 : (toZ (F[k]).2).length ≤ 1000000000 := by rw [toZ_len]; have := HGL.out.2; omega
      have bnd1 : ∀ x, x ∈ toZ (F[k]).1 → 0 ≤ x ∧ x < (toZ at_).length := fun x hx => by obtain ⟨n, hn, rfl⟩ := toZ_mem hx; have := HWK.out.1 n hn; rw [toZ_len, HAL.out]; omega
      have bnd2 : ∀ x, x ∈ toZ (F[k]).2 → 0 ≤ x ∧ x < (toZ at_).length := fun x hx => by obtain ⟨n, hn, rfl⟩ := toZ_mem hx; have := HWK.out.2 n hn; rw [toZ_len, HAL.out]; omega
      refine (l3At_any _ _ (toZ at_) (toZ (F[k]).1) _ (HIAT.out.ext hx0) (HIL.out.ext (ext_trans HBO.out.ext hx0)) bnd1 hlen1).mono ?_
      rintro e w1 ⟨v1, rfl, hI1, hx1⟩
      have hx01 := ext_trans hx0 hx1
      (refine hK.out _ _ (fun _ => ?_) ?_)
      · exact hSx _ (ext_trans HBO.out.ext hx01) (by rw [hx01.block _ (blk_lt HBOX.out)]; exact HBOX.out)
      clear hK K
      (try simp only [Act.put, nE])
      (refine wpAnyT_step (i := 17) (o := _) (by kernel_rfl) (by simp only [gE]; rfl) (fun K hK => ?_); go_simp)
      refine (l3At_any _ _ (toZ at_) (toZ (F[k]).2) _ (HIAT.out.ext hx01) (HIR.out.ext (ext_trans HBO.out.ext hx01)) bnd2 hlen2).mono ?_
      rintro e w2 ⟨v2, rfl, hI2, hx2⟩
      have hx02 := ext_trans hx01 hx2
      have hbox2 : w2.heap[w.heap.size]? = some (.cells #[.slice (some ⟨bF, 0, none⟩) F.length capF] 28 (0, 0)) := by rw [hx02.block _ (blk_lt HBOX.out)]; exact HBOX.out
      (refine hK.out _ _ (fun _ => ?_) ?_)
      · exact hSx _ (ext_trans HBO.out.ext hx02) hbox2
      clear hK K
      (try simp only [Act.put, nE])
      have hI1' := hI1.ext hx2
      rw [atZ_toZ] at hI1' hI2
      have hB2 := HB1.out.ext hx02
      have hat1 : ∀ i (h : i < at_.length), at_[i] < D1.length := HA.out.lt
      have hG2 := HG1.out.trans (BookGo.ext HB1.out hx02)
      have hbes2 : ∀ b, Value.ownBlock (.slice aA k cA) = some b → we.heap.size ≤ b ∧ Beside w2 (w.heap.size + 1 + 1) vn1 vb1 D1 b := fun b hb => ⟨(HBES.out b hb).1, (HBES.out b hb).2.goE HB1.out hx02⟩
      have hbb2 := hbb.goE HB1.out hx02
      have hown2 := own_keep HOWN.out hx02
      (refine wpAnyT_step (i := 18) (o := _) (by kernel_rfl) (by simp only [gE]; rfl) (fun K hK => ?_); go_simp)
      refine (l6Node_any (w.heap.size + 1 + 1) vn1 vb1 D1 _ _ _ _ _ hB2 hI1' hI2 (at_bnd HWK.out.1 HAL.out hat1) (at_bnd HWK.out.2 HAL.out hat1) (by simp; have := HGL.out.1; omega) (by simp; have := HGL.out.2; omega) (by have := HD1.out; omega) (canon_at HA.out HWK.out.1 HAL.out) (canon_at HA.out HWK.out.2 HAL.out)).mono ?_
      rintro e w3 ⟨vn2, vb2, D2, i2, rfl, hB3, hK3, hS3, hQ3, hE3, hi3, hC3, hV3, hW3⟩
      have hgo3 : BookGo w2 w3 (w.heap.size + 1 + 1) vn1 vb1 D1 vn2 vb2 D2 := ⟨hK3, hS3, hQ3, by obtain ⟨E, h, _⟩ := hE3; exact ⟨E, h⟩⟩
      have hbox3 : w3.heap[w.heap.size]? = some (.cells #[.slice (some ⟨bF, 0, none⟩) F.length capF] 28 (0, 0)) := by rw [hK3.block _ (blk_lt hbox2) hbb2.ins]; exact hbox2
      have hG3 := hG2.trans hgo3
      have hBO3 := hB.go hB3 hG3
      (refine hK.out _ _ (fun _ => ?_) ?_)
      · exact hSx _ hBO3.ext hbox3
      clear hK K
      (try simp only [Act.put, nE])
      (refine wpAnyT_step (i := 19) (o := _) (by kernel_rfl) (by simp only [gE]; rfl) (fun K hK => ?_); go_simp)
      have hx4 : Ext w3 (w3.alloc (.cells #[.int .i64 ((i2 : Nat) : Int)] 3)) := by go_grown
      (refine hK.out _ _ (fun _ => ?_) ?_)
      · exact hSx _ (ext_trans hBO3.ext hx4) (by rw [hx4.block _ (blk_lt hbox3)]; exact hbox3)
      clear hK K
      (try simp only [Act.put, nE])
      have hown3 := own_keepG hown2 hK3 (fun b hb => (hbes2 b hb).2.ins)
      have hzw := hG3.keep.size
      refine wpAnyT_tail [20, 21] [?o17_20, ?o17_21] _ _ _ _ (by simp) (by kernel_rfl) (by rfl) (by simp only [List.map_cons, List.map_nil, gE]; rfl) ?_
      refine app_list rfl (.tmp 16) (.tmp 35) 22 rfl we.heap.size 3 i0 (.int .i64 0) 1 8 Tryz.underlying22 hi0 hz0 hz1 hz2 rfl (by decide) (.slice aA k cA) k ((toZ at_).map (Value.int .i64)) rfl (own_keep hown3 hx4) _ 1 _ [.int .i64 ((i2 : Nat) : Int)] rfl rfl (.inr ⟨_, rfl, one_src (new_cell _ _ _)⟩) one_cell (by unfold maxLen; omega) (by omega) (by rw [World.size_alloc]; omega) ?_
      intro v5 w5 ho5 hg5 hl5
      have hbes3 : ∀ b, Value.ownBlock (.slice aA k cA) = some b → we.heap.size ≤ b ∧ Beside w3 (w.heap.size + 1 + 1) vn2 vb2 D2 b := fun b hb => ⟨(hbes2 b hb).1, (hbes2 b hb).2.go (hown2.lt b hb).2 hgo3⟩
      have hbb3 := hbb2.go (blk_lt hbox2) hgo3
      obtain ⟨hB5, hG5, hbes5, hside⟩ := Beside.row hG3 hB3 hbes3 hx4 hg5 hl5
      have hbb5 := hside _ hbb3
      have hbox5 : w5.heap[w.heap.size]? = some (.cells #[.slice (some ⟨bF, 0, none⟩) F.length capF] 28 (0, 0)) := by
        rw [hg5.block _ (by rw [World.size_alloc]; have := blk_lt hbox3; omega) (fun e => by have := (hbes3 _ e.symm).1; omega), hx4.block _ (blk_lt hbox3)]; exact hbox3
      have hrb3 := (hrb.goE HB1.out hx02).go (Nat.lt_of_lt_of_le (blk_lt HRES.out) hx02.size) hgo3
      have hres3 : w3.heap[w.heap.size + 1]? = some (.cells #[.slice none 0 0] 28 (0, 0)) := by
        rw [hK3.block _ (Nat.lt_of_lt_of_le (blk_lt HRES.out) hx02.size) (hrb.goE HB1.out hx02).ins, hx02.block _ (blk_lt HRES.out)]; exact HRES.out
      have hrb5 := hside _ hrb3
      have hres5 : w5.heap[w.heap.size + 1]? = some (.cells #[.slice none 0 0] 28 (0, 0)) := by
        rw [hg5.block _ (by rw [World.size_alloc]; have := blk_lt hres3; omega) (fun e => by have := (hbes3 _ e.symm).1; omega), hx4.block _ (blk_lt hres3)]; exact hres3
      have hlen : D2.length ≤ 3 * (k + 1) := by obtain ⟨E, rfl, hE⟩ := hE3; have := HD1.out; simp; omega
      have hsame : Hid (CInv D2 F (at_ ++ [i2])) := CInv.next HB1.out.good.wf hB3.good.wf hGF.out.wf hlt HAL.out HA.out hE3 hi3 hC3 hV3 hW3
      have H5 := Lib.hid hB5
      have H6 := Lib.hid hG5
      have H7 := Lib.hid hbes5
      have H8 := Lib.hid hbox5
      have H9 := Lib.hid hbb5
      have H10 := Lib.hid hres5
      have H13 := Lib.hid hrb5
      have H11 := Lib.hid ho5
      have H12 := Lib.hid hlen
      clear hB5 hG5 hbes5 hbox5 hbb5 hres5 hrb5 hres3 hrb3 ho5 hlen hg5 hl5 hside hbes3 hbb3 hgo3 hbox3 hG3 hBO3 hx4 hown3 hB3 hK3 hS3 hQ3 hE3 hi3 hC3 hV3 hW3 hbes2 hbb2 hown2 hG2 hB2 hHeld
      (try simp only [Act.put, nE])
      go_wp2_with fail
      go_roundw
      case rel => exact ⟨k + 1, vn2, vb2, D2, at_ ++ [i2], by omega, by go_num, by rw [List.length_append, HAL.out]; rfl, by simpa [toZ] using H11.out, H5.out, H6.out, H12.out, H7.out, H8.out, H9.out, H10.out, H13.out, hsame⟩
      case measure => simp [intOf]; omega
    · have hke : k = F.length := by omega
      have hlt' : ¬ (((k : Nat) : Int) < (F.length : Int)) := by omega
      obtain ⟨ga, ca, rfl, hca, _, hcell⟩ := own_at hown (by omega)
      have hlast : k - 1 < at_.length := by omega
      have hc1 : wr.cell? ⟨ga, k - 1, none⟩ = some (.int .i64 ((at_[k - 1] : Nat) : Int)) := by rw [hcell _ (by omega)]; simp [toZ, hlast]
      have hrl := HA.out.lt _ hlast
      have hrc := HA.out.canon _ hlast
      have hre := HA.out.eqv _ hlast
      have hrm : at_[k - 1] ∈ at_ := List.getElem_mem hlast
      generalize hroot : at_[k - 1] = root at *
      have HA' := Lib.hid (And.intro hrc (And.intro hre hrm))
      have HBES := Lib.hid hbes
      have HG1 := Lib.hid hG1
      have HKE := Lib.hid hke
      have HAL := Lib.hid hal
      have hzw := hG1.keep.size
      have hwk : wrap64 ((k : Int) - 1) = ((k - 1 : Nat) : Int) := by unfold wrap64; omega
      have hb9 : ((k - 1 : Nat) : Int) < (k : Int) := by omega
      clear hcell hbes hG1 hal hroot hrc hre hrm hown hke
      go_wp2_with (first
        | (go_at_call 49; refine (form_any _ vn1 vb1 D1 root _ hB1 hrl).mono ?_; rintro e w7 ⟨vN, F', rfl, hN7, hIF, hS7, hx7⟩
           obtain ⟨aN, cN, rfl, -⟩ := id hN7
           have hres7 : w7.heap[w.heap.size + 1]? = some (.cells #[.slice none 0 0] 28 (0, 0)) := by rw [hx7.block _ (blk_lt hres)]; exact hres
           have cr7 := cell_of_row w7 (w.heap.size + 1) 0 _ _ _ hres7
           have fr7 := frozen_of_row w7 (w.heap.size + 1) 0 _ _ hres7
           have hh := heap_setCell_same w7 (w.heap.size + 1) 0 _ _ (.slice aN F'.length cN) hres7
           have HH : Hid ((w7.setCell ⟨w.heap.size + 1, 0, none⟩ (.slice aN F'.length cN)).heap[w.heap.size + 1]? = some (.cells #[.slice aN F'.length cN] 28 (0, 0))) := hh
           clear hh))
      (try simp only [Exit.inBlock, Exit.then])
      refine bodyPost_ret (results_cell_row rfl _ _ (w.heap.size + 1) 28 #[.slice aN F'.length cN] (0, 0) _ rfl HH.out Tryz.underlying28 rfl (by kernel_rfl)) rfl ?_
      obtain ⟨hrc, hre, hrm⟩ := HA'.out
      have hE7 : Ext w w7 := ext_trans hBO.ext hx7
      have hN8 := (hN7.set (p := ⟨w.heap.size + 1, 0, none⟩) (by show w.heap.size + 1 < wr.heap.size; exact blk_lt hres) (.slice aN F'.length cN)).weaken (base' := w.heap.size) hBO.ext.size
      have hsm := form_small hB1.good hrl hIF hS7 hrm HA.out.shut
      refine ⟨_, F', _, rfl, hN8, hIF, hS7, hrc, ?_, by have := HAL.out; have := HKE.out; omega, hE7.setCell (p := ⟨w.heap.size + 1, 0, none⟩) (by show w.heap.size ≤ w.heap.size + 1; omega) _⟩
      have e : k - 1 = F.length - 1 := by have := HKE.out; omega
      rw [e] at hre; exact hre

end Go.Proofs.YtjkdanmpihildaaGreatDoor
