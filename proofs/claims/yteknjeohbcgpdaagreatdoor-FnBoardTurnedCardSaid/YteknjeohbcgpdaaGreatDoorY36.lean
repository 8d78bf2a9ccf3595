/-
  Contract of the program's load: the games of a form, taken into a pool.
-/
import Derived.Test.YteknjeohbcgpdaaGreatDoorY33
import Derived.Test.YteknjeohbcgpdaaGreatDoorY35
set_option maxRecDepth 100000
namespace Go.Proofs.YteknjeohbcgpdaaGreatDoor
open Go.RowKit
open Cgt (Dag Nd Gm vl Same)

structure LoadL (D F : Dag) (L : List Nat) (k : Nat) : Prop where
  len : L.length = k
  at_ : ∀ j (h : j < L.length), L[j] < D.length ∧ Same (vl D L[j]) (vl F j)
theorem LoadL.nil (D F : Dag) : LoadL D F [] 0 := ⟨rfl, fun j h => absurd h (by simp)⟩
theorem LoadL.go {pp h : Nat} {s s' : PSt} {w w' : World} {F : Dag} {L : List Nat} {k : Nat} (n : LoadL s.D F L k) (hw : Cgt.WF s.D) (g : PGo pp h s w s' w') : LoadL s'.D F L k := by
  refine ⟨n.len, fun j h => ?_⟩
  obtain ⟨h1, h2⟩ := n.at_ j h
  have := g.len
  exact ⟨by omega, by rw [g.vl hw h1]; exact h2⟩
theorem LoadL.next {D F : Dag} {L : List Nat} {k i : Nat} (n : LoadL D F L k) (hi : i < D.length) (hs : Same (vl D i) (vl F k)) : LoadL D F (L ++ [i]) (k + 1) := by
  refine ⟨by simp [n.len], fun j h => ?_⟩
  have hl := n.len
  by_cases c : j < L.length
  · rw [List.getElem_append_left c]; exact n.at_ j c
  · have e : j = k := by simp at h; omega
    subst e
    rw [List.getElem_append_right (by omega)]
    simp only [List.getElem_singleton]
    exact ⟨hi, hs⟩
theorem LoadL.get {D F : Dag} {L : List Nat} {k : Nat} (n : LoadL D F L k) {x : Nat} (hx : x < k) : ∃ h : x < L.length, L[x] = L.getD x 0 := by
  have hl := n.len
  exact ⟨by omega, by rw [List.getD_eq_getElem?_getD, List.getElem?_eq_getElem (by omega)]; rfl⟩
theorem LoadL.opt {D F : Dag} {L : List Nat} {k : Nat} (n : LoadL D F L k) {x : Nat} (hx : x < k) : L.getD x 0 < D.length ∧ Same (vl D (L.getD x 0)) (vl F x) := by
  obtain ⟨h, e⟩ := n.get hx
  rw [← e]; exact n.at_ x h
theorem same_maps {f g : Nat → Gm} {l r : List Nat} (hl : ∀ x, x ∈ l → Same (f x) (g x)) (hr : ∀ x, x ∈ r → Same (f x) (g x)) : Same (.mk (l.map f) (r.map f)) (.mk (l.map g) (r.map g)) := by
  rw [Cgt.same_iff]
  simp only [Gm.l, Gm.r]
  refine ⟨fun y hy => ?_, fun y hy => ?_, fun y hy => ?_, fun y hy => ?_⟩
  · obtain ⟨x, hx, rfl⟩ := List.mem_map.1 hy; exact ⟨_, List.mem_map_of_mem hx, hl x hx⟩
  · obtain ⟨x, hx, rfl⟩ := List.mem_map.1 hy; exact ⟨_, List.mem_map_of_mem hx, hl x hx⟩
  · obtain ⟨x, hx, rfl⟩ := List.mem_map.1 hy; exact ⟨_, List.mem_map_of_mem hx, hr x hx⟩
  · obtain ⟨x, hx, rfl⟩ := List.mem_map.1 hy; exact ⟨_, List.mem_map_of_mem hx, hr x hx⟩
theorem load_node {D D' F : Dag} {k i : Nat} {L : List Nat} (hD : Cgt.WF D) (hD' : Cgt.WF D') (hF : Cgt.WF F) (hk : k < F.length) (n : LoadL D F L k) (p : PutRel D ((F[k]).1.map fun x => L.getD x 0) ((F[k]).2.map fun x => L.getD x 0) D' i) : Same (vl D' i) (vl F k) := by
  have dk : F[k]? = some F[k] := List.getElem?_eq_getElem hk
  obtain ⟨w1, w2⟩ := hF k _ dk
  rw [Cgt.vl_mk hD' p.1, Cgt.vl_mk hF dk]
  refine Cgt.same_trans (same_opts (c := (((F[k]).1.map fun x => L.getD x 0).map (vl D'))) (d := (((F[k]).2.map fun x => L.getD x 0).map (vl D'))) (fun y => by simp only [List.mem_map, sortN_mem]) (fun y => by simp only [List.mem_map, sortN_mem])) ?_
  rw [List.map_map, List.map_map]
  refine same_maps (fun x hx => ?_) (fun x hx => ?_)
  · obtain ⟨h1, h2⟩ := n.opt (w1 x hx)
    show Same (vl D' (L.getD x 0)) _
    rw [p.vl hD hD' h1]; exact h2
  · obtain ⟨h1, h2⟩ := n.opt (w2 x hx)
    show Same (vl D' (L.getD x 0)) _
    rw [p.vl hD hD' h1]; exact h2

def LoadPost (pp h : Nat) (s : PSt) (F : Dag) (w0 w : World) (e : Ending) (w' : World) : Prop :=
  ∃ s' v' L, e = .returned v' ∧ w'.ownsRow w.heap.size 3 1 v' L.length ((toZ L).map (Value.int .i64)) ∧ PGo pp h s w s' w' ∧ LoadL s'.D F L F.length ∧ s'.D.length ≤ s.D.length + F.length ∧ Ext w0 w' ∧ (∀ b, POwn pp h s' b → w0.heap.size ≤ b)
theorem load_start {pp h : Nat} {s : PSt} {w : World} (hP : PoolAt w pp h s) (n : Nat) (hn : n ≤ 1000000) (X : Obj) : NegMem pp h s w ((w.alloc X).alloc (.cells (madeCells #[Value.int .i64 0] n) 3)) (.slice (some ⟨w.heap.size + 1, 0, none⟩) 0 n) (.slice none 0 0) [] [] := by
  have z1 : (w.alloc X).heap.size = w.heap.size + 1 := World.size_alloc _ _
  have z2 : ((w.alloc X).alloc (.cells (madeCells #[Value.int .i64 0] n) 3)).heap.size = w.heap.size + 1 + 1 := by rw [World.size_alloc, z1]
  have hb := heap_alloc_new (w.alloc X) (.cells (madeCells #[Value.int .i64 0] n) 3)
  rw [z1] at hb
  refine ⟨⟨by simp [toZ], .inr ⟨w.heap.size + 1, n, madeCells #[Value.int .i64 0] n, rfl, by omega, hb, Nat.zero_le _, by unfold maxLen; omega, by rw [size_madeCells]; simp, by simp [toZ]⟩⟩, ⟨by simp [toZ], .inl ⟨rfl, rfl⟩⟩, ?_, ?_⟩
  · intro b hb hc; simp [Value.ownBlock] at hc
  · intro b hb
    have : b = w.heap.size + 1 := by
      rcases hb with hb | hb
      · simp [Value.ownBlock] at hb; exact hb.symm
      · simp [Value.ownBlock] at hb
    exact ⟨by omega, hP.new (by omega)⟩
def rowsLoad : List Row := [⟨0, [], 20, [5]⟩, ⟨1, [], 21, [0]⟩, ⟨2, [], 22, [7]⟩, ⟨3, [2], 23, [21]⟩, ⟨4, [], 24, [5]⟩, ⟨5, [3, 4], 25, [22, 23]⟩, ⟨6, [], 26, [7]⟩, ⟨7, [6], 27, [25]⟩, ⟨8, [], 28, [5]⟩, ⟨9, [7, 8, 5], 29, [26, 27]⟩, ⟨10, [1, 5, 9, 9], 30, [20, 24, 28]⟩, ⟨11, [10], 31, [29]⟩, ⟨12, [0, 11, 10], 32, [19, 30]⟩, ⟨13, [12, 12, 0, 1, 2, 3, 4, 5, 6, 7, 8, 9, 10, 11, 12], 6, [31]⟩]

set_option maxHeartbeats 4000000 in
theorem load_any (pp h : Nat) (s : PSt) (vf : Value) (F : Dag) (w0 w : World) (hf : Nodes w0 0 vf F) (hF : Cgt.WF F) (hA : ∀ x, x ∈ F → x.1.length ≤ 1000000 ∧ x.2.length ≤ 1000000) (hx : Ext w0 w) (hP : PoolAt w pp h s) (hb0 : ∀ b, POwn pp h s b → w0.heap.size ≤ b) (hFl : s.D.length + F.length ≤ 900000) :
    Calls Tryz.prog 120 #[.pointer (some ⟨pp, 0, none⟩), .agg #[vf]] w (LoadPost pp h s F w0 w) := by
  obtain ⟨i0, hi0, hz0, hz1, hz2⟩ := info_parts info_int
  obtain ⟨aF, capF, rfl, hcap, hml, -⟩ := id hf
  have hh5 : h + 1 + 1 + 1 + 1 < w.heap.size := hP.mapsLt (by omega)
  have hx1 : Ext w ((w.alloc (.cells #[.slice aF F.length capF] 28)).alloc (.cells (madeCells #[Value.int .i64 0] F.length) 3)) := by go_grown
  have hm0 := load_start hP F.length (by omega) (.cells #[.slice aF F.length capF] 28)
  have hbx := cell_of_row (w.alloc (.cells #[.slice aF F.length capF] 28)) w.heap.size 0 _ _ _ (heap_alloc_new w _)
  have hbx2 : ((w.alloc (.cells #[.slice aF F.length capF] 28)).alloc (.cells (madeCells #[Value.int .i64 0] F.length) 3)).cell? ⟨w.heap.size, 0, none⟩ = some (.slice aF F.length capF) := alloc_cell hbx _
  have hmk := fun w : World => run_make (P := Tryz.prog) w 80 3 i0 (.int .i64 0) Tryz.underlying80 hi0 hz0 .i64 .i64 (0 : Int) (F.length : Int) (by omega) (by omega) (by rw [hz2]; omega) (by omega)
  simp only [hz1, Int.toNat_natCast, Int.toNat_zero, Nat.mul_one] at hmk
  go_enter Tryz.func120, Tryz.ntmps120
  go_upto_region 2 with fail
  generalize (w.alloc (.cells #[.slice aF F.length capF] 28)).alloc (.cells (madeCells #[Value.int .i64 0] F.length) 3) = W0 at *
  clear hmk hbx
  have hgo0 : PGo pp h s w s W0 := PGo.refl hP hx1
  have hE0 := ext_trans hx hx1
  go_wp2
  go_loopw [5, 7, 15] (fun lv _ ii wr => ∃ (k : Nat) (s1 : PSt) (L : List Nat), k ≤ F.length ∧ ii = .int .i64 ((k : Nat) : Int) ∧ PGo pp h s w s1 wr ∧ Ext w0 wr ∧ Hid (∀ b, POwn pp h s1 b → w0.heap.size ≤ b) ∧ NegMem pp h s1 w wr lv (.slice none 0 0) L [] ∧ Hid (LoadL s1.D F L k) ∧ Hid (s1.D.length ≤ s.D.length + k)) (fun _ _ ii _ => F.length - (intOf ii).toNat)
  case atStart => exact ⟨0, s, [], Nat.zero_le _, rfl, hgo0, hE0, Lib.hid hb0, hm0, Lib.hid (LoadL.nil _ _), Lib.hid (Nat.le_refl _)⟩
  case round =>
    clear hgo0 hE0 hm0 hx1 hbx2
    obtain ⟨k, s1, L, hk, rfl, hgo, hE, HB, hmm, HL, HD⟩ := hrel
    have hql : L.length = k := HL.out.len
    by_cases hlt : k < F.length
    · have h1 : ((k : Nat) : Int) < ((F.length : Nat) : Int) := by omega
      obtain ⟨bF, cF, aL, cL, aR, cR, he, hcF, cl, cr, hiL, hiR⟩ := hf.at hlt
      simp only [Value.slice.injEq] at he
      obtain ⟨rfl, -, rfl⟩ := he
      have cl' := (hE.cell (lt_of_cell cl)).trans cl
      have cr' := (hE.cell (lt_of_cell cr)).trans cr
      have HF := Lib.hid hf
      clear cl cr hf
      have dk : F[k]? = some F[k] := List.getElem?_eq_getElem hlt
      obtain ⟨wk1, wk2⟩ := hF k _ dk
      obtain ⟨al1, al2⟩ := hA _ (List.getElem_mem hlt)
      obtain ⟨aq, cq, rfl, hqc, _⟩ := own_len hmm.l
      have hxW : Ext wr (wr.alloc (.cells #[.slice aL (F[k]).1.length cL, .slice aR (F[k]).2.length cR] 89)) := by go_grown
      have hbW := heap_alloc_new wr (.cells #[.slice aL (F[k]).1.length cL, .slice aR (F[k]).2.length cR] 89)
      have hren1 : ∀ x, x ∈ (F[k]).1 → ∃ h : x < L.length, L[x] = L.getD x 0 := fun x hx => HL.out.get (wk1 x hx)
      have hren2 : ∀ x, x ∈ (F[k]).2 → ∃ h : x < L.length, L[x] = L.getD x 0 := fun x hx => HL.out.get (wk2 x hx)
      have hm1 : ∀ x, x ∈ ((F[k]).1.map fun x => L.getD x 0) → x < s1.D.length := fun x hx => by
        obtain ⟨y, hy, rfl⟩ := List.mem_map.1 hx; exact (HL.out.opt (wk1 y hy)).1
      have hm2 : ∀ x, x ∈ ((F[k]).2.map fun x => L.getD x 0) → x < s1.D.length := fun x hx => by
        obtain ⟨y, hy, rfl⟩ := List.mem_map.1 hx; exact (HL.out.opt (wk2 y hy)).1
      have HI := Lib.hid (And.intro (hiL.ext hE) (hiR.ext hE))
      have HR := Lib.hid (And.intro hren1 hren2)
      have HMM := Lib.hid (And.intro hm1 hm2)
      have HAL := Lib.hid (And.intro al1 al2)
      have hnb : wr.heap.size < (wr.alloc (.cells #[.slice aL (F[k]).1.length cL, .slice aR (F[k]).2.length cR] 89)).heap.size := blk_lt hbW
      have hwl := hgo.keep.size
      have HQ := Lib.hid hql
      clear hren1 hren2 hm1 hm2 al1 al2 wk1 wk2 hiL hiR hql
      go_upto_region 5 with fail
      generalize wr.alloc (.cells #[.slice aL (F[k]).1.length cL, .slice aR (F[k]).2.length cR] 89) = W at *
      have c0 := cell_of_row W wr.heap.size 0 _ _ _ hbW
      have c1 := cell_of_row W wr.heap.size 1 _ _ _ hbW
      simp only [gE] at c0 c1
      refine wp_region_L (fun V => V.cell? ⟨wr.heap.size, 0, none⟩ = some (.slice aL (F[k]).1.length cL) ∧ V.cell? ⟨wr.heap.size, 1, none⟩ = some (.slice aR (F[k]).2.length cR)) [13] rowsLoad (by kernel_rfl) ⟨by kernel_rfl, by kernel_rfl, by kernel_rfl⟩ ⟨c0, c1⟩ (fun hTab hHeld => ?_)
      ((refine tkB hTab (i := 0) hHeld ?_); (try simp only [nP]); (refine tkB hTab (i := 1) hHeld ?_); (try simp only [nP]); (refine tkB hTab (i := 2) hHeld ?_); (try simp only [nP]); (refine tkB hTab (i := 3) hHeld ?_); (try simp only [nP]); (refine tkB hTab (i := 4) hHeld ?_); (try simp only [nP]); (refine tkB hTab (i := 6) hHeld ?_); (try simp only [nP]); (refine tkB hTab (i := 7) hHeld ?_); (try simp only [nP]); (refine tkB hTab (i := 8) hHeld ?_); (try simp only [nP]))
      (refine stB hTab (i := 5) fun K hK => ?_; go_simp)
      refine (renamed_any _ _ (F[k]).1 L (fun x => L.getD x 0) _ (HI.out.1.ext (ext_trans hxW (rd_ext ⟨1, rfl⟩))) (Ints.of_own (hmm.ext (ext_trans hxW (rd_ext ⟨1, rfl⟩))).l (by rw [toZ_len]; have := HQ.out; omega)) HAL.out.1 HR.out.1).mono ?_
      rintro e w4 ⟨v4, rfl, ho4, hx4⟩
      have hx4' := ext_trans (ext_trans hxW (rd_ext ⟨1, rfl⟩)) hx4
      have hn4 : wr.heap.size < w4.heap.size := Nat.lt_of_lt_of_le hnb hx4.size
      have d0 : w4.cell? ⟨wr.heap.size, 0, none⟩ = some (.slice aL (F[k]).1.length cL) := (hx4.cell (lt_of_cell c0)).trans c0
      have d1 : w4.cell? ⟨wr.heap.size, 1, none⟩ = some (.slice aR (F[k]).2.length cR) := (hx4.cell (lt_of_cell c1)).trans c1
      (refine hK.out _ _ (fun _ => ?_) ?_)
      · exact ⟨d0, d1⟩
      clear hK K
      (try simp only [nP])
      (refine stB hTab (i := 9) fun K hK => ?_; go_simp)
      refine (renamed_any _ _ (F[k]).2 L (fun x => L.getD x 0) _ (HI.out.2.ext hx4') (Ints.of_own (hmm.ext hx4').l (by rw [toZ_len]; have := HQ.out; omega)) HAL.out.2 HR.out.2).mono ?_
      rintro e w5 ⟨v5, rfl, ho5, hx5⟩
      have hx5' := ext_trans hx4' hx5
      have hn5 : wr.heap.size < w5.heap.size := Nat.lt_of_lt_of_le hn4 hx5.size
      have e0 : w5.cell? ⟨wr.heap.size, 0, none⟩ = some (.slice aL (F[k]).1.length cL) := (hx5.cell (lt_of_cell d0)).trans d0
      have e1 : w5.cell? ⟨wr.heap.size, 1, none⟩ = some (.slice aR (F[k]).2.length cR) := (hx5.cell (lt_of_cell d1)).trans d1
      (refine hK.out _ _ (fun _ => ?_) ?_)
      · exact ⟨e0, e1⟩
      clear hK K
      (try simp only [nP])
      have hP5 := hgo.pool.ext hx5'
      have hnp5 : ¬ POwn pp h s1 wr.heap.size := (hgo.pool.new (Nat.le_refl _)).1
      have hl1 : (((F[k]).1.map fun x => L.getD x 0)).length ≤ 1000000 := by rw [List.length_map]; exact HAL.out.1
      have hl2 : (((F[k]).2.map fun x => L.getD x 0)).length ≤ 1000000 := by rw [List.length_map]; exact HAL.out.2
      (refine stB hTab (i := 10) fun K hK => ?_; go_simp)
      refine (node_any pp h s1 _ _ _ _ w5 hP5 (by have := HD.out; omega) HMM.out.1 HMM.out.2 hl1 hl2 (Ints.of_own (own_keep ho4 hx5) (by rw [toZ_len]; omega)) (Ints.of_own ho5 (by rw [toZ_len]; omega))).mono ?_
      rintro e w6 ⟨s2, i, rfl, hgo6, hp6, hc6⟩
      have f0 : w6.cell? ⟨wr.heap.size, 0, none⟩ = some (.slice aL (F[k]).1.length cL) := (World.cell?_of_block (hgo6.keep.block _ hn5 hnp5)).trans e0
      have f1 : w6.cell? ⟨wr.heap.size, 1, none⟩ = some (.slice aR (F[k]).2.length cR) := (World.cell?_of_block (hgo6.keep.block _ hn5 hnp5)).trans e1
      (refine hK.out _ _ (fun _ => ?_) ?_)
      · exact ⟨f0, f1⟩
      clear hK K
      (try simp only [nP])
      (refine stB hTab (i := 11) fun K hK => ?_; go_simp)
      (refine hK.out _ _ (fun _ => ?_) ?_)
      · exact ⟨alloc_cell f0 _, alloc_cell f1 _⟩
      clear hK K
      (try simp only [nP])
      have hm6 := (hmm.ext hx5').go hh5 hgo6.n
      have hwl6 := hgo6.keep.size
      have hz5 := hx5'.size
      refine stB hTab (i := 12) fun K hK => ?_
      refine app_step rfl (.tmp 19) (.tmp 30) 80 rfl w.heap.size 3 i0 (.int .i64 0) 1 8 Tryz.underlying80 hi0 hz0 hz1 hz2 rfl (by decide) (.slice aq L.length cq) L.length _ rfl (hm6.l.alloc _) _ 1 _ [.int .i64 ((i : Nat) : Int)] rfl rfl (.inr ⟨_, rfl, one_src (new_cell _ _ _)⟩) one_cell (by have := HQ.out; unfold maxLen; omega) (by have := HQ.out; omega) (by rw [World.size_alloc]; omega) ?_
      intro v9 w9 ho9 hg9 hl9
      obtain ⟨x9, y9, rfl, -, -⟩ := own_len ho9
      have hxa : Ext w6 (w6.alloc (.cells #[.int .i64 ((i : Nat) : Int)] 3)) := ext_alloc (Below.refl _ _) _
      have hkg := keep_grownO hg9
      have hnl : ∀ b, (Value.slice aq L.length cq).ownBlock = some b → b ≠ wr.heap.size := fun b hb e => by have := (hmm.clr b (.inl hb)).1; omega
      have g0 : w9.cell? ⟨wr.heap.size, 0, none⟩ = some (.slice aL (F[k]).1.length cL) := (World.cell?_of_block (hkg.block _ (Nat.lt_of_lt_of_le (Nat.lt_of_lt_of_le hn5 hgo6.keep.size) hxa.size) (fun hb => hnl _ hb rfl))).trans (alloc_cell f0 _)
      have g1 : w9.cell? ⟨wr.heap.size, 1, none⟩ = some (.slice aR (F[k]).2.length cR) := (World.cell?_of_block (hkg.block _ (Nat.lt_of_lt_of_le (Nat.lt_of_lt_of_le hn5 hgo6.keep.size) hxa.size) (fun hb => hnl _ hb rfl))).trans (alloc_cell f1 _)
      (refine hK.out _ _ (fun _ => ?_) ?_)
      · exact ⟨g0, g1⟩
      clear hK K
      (try simp only [nP])
      refine tlB hTab [13] [_] ?_
      clear hTab hHeld
      go_wp2
      go_roundw
      case rel =>
        have hgoA := (hgo.ext hx5').trans hgo6
        have hgoB := (hgoA.ext hxa).side hkg (fun b hb => ⟨hm6.lo (.inl hb), (hm6.clr b (.inl hb)).2⟩)
        have hB6 : ∀ b, POwn pp h s2 b → w0.heap.size ≤ b := fun b hb => by
          rcases hgo6.own b hb with c | c
          · exact HB.out b c
          · have := hE.size; omega
        have hE6 : Ext w0 w6 := ext_keep (ext_trans hE hx5') hgo6.keep (fun b hb => HB.out b hb)
        have hE9 : Ext w0 w9 := ext_keep (ext_trans hE6 hxa) hkg (fun b hb => by have := hm6.lo (.inl hb); have := hx.size; omega)
        have hm9 := hm6.push (news := [i]) hgo6.pool hxa hg9 ho9 (by simp) (by rw [toZ_app, List.map_append]; rfl) hl9
        have hln := hp6.len
        have hl7 := ((HL.out.go hgo.pool.good.wf hgo6).next hp6.lt (load_node hgo.pool.good.wf hgo6.pool.good.wf hF hlt HL.out hp6))
        exact ⟨k + 1, s2, L ++ [i], by omega, by go_num, hgoB, hE9, Lib.hid hB6, hm9, Lib.hid hl7, Lib.hid (by have := HD.out; omega)⟩
      case measure => simp [intOf]; omega
    · have h1 : ¬ (((k : Nat) : Int) < ((F.length : Nat) : Int)) := by omega
      have hke : k = F.length := by omega
      subst hke
      obtain ⟨aq, cq, rfl, hqc, _⟩ := own_len hmm.l
      clear hql
      go_wp2
      go_ret
      exact ⟨s1, _, L, rfl, hmm.l, hgo, HL.out, HD.out, hE, HB.out⟩

end Go.Proofs.YteknjeohbcgpdaaGreatDoor
