/-
  Contract of the program's GoodForm, at a valid form: true.
-/
import Derived.Test.YteknjeohbcgpdaaGreatDoorY8
import Derived.Test.YteknjeohbcgpdaaGreatDoorY38
set_option maxRecDepth 100000
namespace Go.Proofs.YteknjeohbcgpdaaGreatDoor
open Go.RowKit
open Cgt (Dag Nd Gm vl IsForm)

theorem fits_parts {F : Dag} (h : fitsN F = true) : 1 ≤ F.length ∧ F.length ≤ 120 ∧ ∀ i (h : i < F.length), (F[i]).1.length ≤ 24 ∧ (F[i]).2.length ≤ 24 := by
  unfold fitsN at h; exact of_decide_eq_true h
theorem ahead_or {F : Dag} {i j : Nat} (hi : i < F.length) (hj : j < F.length) (h : Cgt.Ahead F i j) : orZ3 (Lib.compareInt (Cgt.born (vl F i) : Int) (Cgt.born (vl F j) : Int)) (Cgt.cl (F[i]).1 (F[j]).1) (Cgt.cl (F[i]).2 (F[j]).2) < 0 := by
  unfold Cgt.Ahead at h
  rw [Cgt.getD_of hi, Cgt.getD_of hj] at h
  rcases h with h | ⟨h1, h2⟩
  · have e : Lib.compareInt (Cgt.born (vl F i) : Int) (Cgt.born (vl F j) : Int) = -1 := by unfold Lib.compareInt; rw [if_pos (by omega)]
    rw [e]; simp [orZ3]
  · have e : Lib.compareInt (Cgt.born (vl F i) : Int) (Cgt.born (vl F j) : Int) = 0 := by rw [h1]; unfold Lib.compareInt; simp
    rw [e]; unfold orZ3; rw [if_neg (by simp)]; exact h2
theorem brt_at {F : Dag} {x : Nat} (h : x < F.length) : ((brt F F.length).map (Value.int .i64))[x]? = some (.int .i64 (Cgt.born (vl F x) : Int)) := by
  rw [List.getElem?_map, brt, List.getElem?_append_left (by simpa using h)]; simp [h]
theorem new3_0 (w : World) (X : Obj) (x y : Value) (e : TypeId) : ((w.alloc X).alloc (.cells #[x, y] e)).cell? ⟨w.heap.size + 1, 0, none⟩ = some x := by
  have := new2_0 (w.alloc X) x y e
  rw [World.size_alloc] at this; exact this
theorem new3_1 (w : World) (X : Obj) (x y : Value) (e : TypeId) : ((w.alloc X).alloc (.cells #[x, y] e)).cell? ⟨w.heap.size + 1, 1, none⟩ = some y := by
  have := new2_1 (w.alloc X) x y e
  rw [World.size_alloc] at this; exact this
theorem newc_0 (w : World) (x y z : Value) (e : TypeId) : (w.alloc (.cells #[x, y, z] e)).cell? ⟨w.heap.size, 0, none⟩ = some x := World.cell?_alloc_at (w := w) #[x, y, z] e _ 0 rfl
theorem newc_1 (w : World) (x y z : Value) (e : TypeId) : (w.alloc (.cells #[x, y, z] e)).cell? ⟨w.heap.size, 1, none⟩ = some y := World.cell?_alloc_at (w := w) #[x, y, z] e _ 1 rfl
theorem newc_2 (w : World) (x y z : Value) (e : TypeId) : (w.alloc (.cells #[x, y, z] e)).cell? ⟨w.heap.size, 2, none⟩ = some z := World.cell?_alloc_at (w := w) #[x, y, z] e _ 2 rfl
def rowsGF13 : List Row := [⟨0, [], 51, [1]⟩, ⟨1, [0], 52, [50]⟩, ⟨2, [], 53, [6]⟩, ⟨3, [2], 54, [52]⟩, ⟨4, [1, 3], 55, [51, 53]⟩, ⟨5, [4], 56, [54]⟩, ⟨6, [], 57, [1]⟩, ⟨7, [6], 58, [56]⟩, ⟨8, [], 59, [6]⟩, ⟨9, [7, 8], 60, [57, 58]⟩, ⟨10, [9], 61, [59]⟩, ⟨11, [], 8, []⟩, ⟨12, [], 9, []⟩, ⟨13, [11, 5, 0, 1, 2, 3, 4, 5, 11, 12], 0, [7, 55]⟩, ⟨14, [12, 10, 13, 0, 1, 2, 3, 4, 5, 6, 7, 8, 9, 10, 11, 12, 13], 0, [8, 60]⟩]
def rowsGF14 : List Row := [⟨0, [], 62, [5]⟩, ⟨1, [], 63, [6]⟩, ⟨2, [1], 64, [62]⟩, ⟨3, [0, 2], 65, [61, 63]⟩, ⟨4, [3], 66, [64]⟩, ⟨5, [], 67, [5]⟩, ⟨6, [], 68, [6]⟩, ⟨7, [5, 6], 69, [66, 67]⟩, ⟨8, [7], 70, [68]⟩, ⟨9, [4, 8], 71, [65, 69]⟩, ⟨10, [], 72, [7]⟩, ⟨11, [10], 73, [71]⟩, ⟨12, [], 74, [8]⟩, ⟨13, [12], 75, [73]⟩, ⟨14, [11, 13, 9], 76, [72, 74]⟩, ⟨15, [], 77, [7]⟩, ⟨16, [15], 78, [76]⟩, ⟨17, [], 79, [8]⟩, ⟨18, [17], 80, [78]⟩, ⟨19, [16, 18, 14], 81, [77, 79]⟩, ⟨20, [9, 14, 19], 82, [70, 75, 80]⟩, ⟨21, [20, 19], 83, [81]⟩, ⟨22, [21], 84, [82]⟩]

set_option maxHeartbeats 1000000 in
theorem pGoodForm_any (v : Value) (F : Dag) (w : World) (hf : Nodes w 0 v F) (hF : IsForm F) (hfit : fitsN F = true) : Calls Tryz.prog 67 #[.agg #[v]] w fun e w' => e = .returned (.bool true) ∧ Ext w w' := by
  obtain ⟨aF, capF, rfl, hcap, hml, -⟩ := id hf
  obtain ⟨l1, l2, hopt⟩ := fits_parts hfit
  have HO := Lib.hid hopt
  clear hopt hfit
  have hxb : Ext w (w.alloc (.cells #[.slice aF F.length capF] 28)) := by go_grown
  have hbx := cell_of_row (w.alloc (.cells #[.slice aF F.length capF] 28)) w.heap.size 0 _ _ _ (heap_alloc_new w _)
  have g1 : ¬ ((F.length : Int) < 1) := by omega
  have g2 : ¬ ((120 : Int) < (F.length : Int)) := by omega
  go_enter Tryz.func67, Tryz.ntmps67
  go_upto_region 1 with fail
  simp only [gE] at hbx
  generalize w.alloc (.cells #[.slice aF F.length capF] 28) = W0 at *
  go_wp2
  go_loopw [3, 4, 22] (fun _ _ ii wr => ∃ k : Nat, k ≤ F.length ∧ ii = .int .i64 ((k : Nat) : Int) ∧ Ext W0 wr) (fun _ _ ii _ => F.length - (intOf ii).toNat)
  case atStart => exact ⟨0, Nat.zero_le _, rfl, Below.refl _ _⟩
  case round =>
    obtain ⟨k, hk, rfl, hx⟩ := hrel
    by_cases hlt : k < F.length
    · have h1 : ((k : Nat) : Int) < ((F.length : Nat) : Int) := by omega
      obtain ⟨bF, cF, aL, cL, aR, cR, he, hcF, cl, cr, hiL, hiR⟩ := hf.at hlt
      simp only [Value.slice.injEq] at he
      obtain ⟨rfl, -, rfl⟩ := he
      have hE := ext_trans hxb hx
      have cl' := (hE.cell (lt_of_cell cl)).trans cl
      have cr' := (hE.cell (lt_of_cell cr)).trans cr
      have dk : F[k]? = some F[k] := List.getElem?_eq_getElem hlt
      have HW := Lib.hid (hF.good.wf k _ dk)
      have HA := Lib.hid (hF.good.asc _ (List.getElem_mem hlt))
      have HK := Lib.hid (HO.out k hlt)
      have hxW : Ext wr (wr.alloc (.cells #[.slice aL (F[k]).1.length cL, .slice aR (F[k]).2.length cR] 89)) := by go_grown
      have hbW := heap_alloc_new wr (.cells #[.slice aL (F[k]).1.length cL, .slice aR (F[k]).2.length cR] 89)
      have HI := Lib.hid (And.intro (hiL.ext (ext_trans hE hxW)) (hiR.ext (ext_trans hE hxW)))
      clear cl cr hf dk hiL hiR
      go_upto_region 6 with fail
      generalize wr.alloc (.cells #[.slice aL (F[k]).1.length cL, .slice aR (F[k]).2.length cR] 89) = W at *
      have c0 := cell_of_row W wr.heap.size 0 _ _ _ hbW
      have c1 := cell_of_row W wr.heap.size 1 _ _ _ hbW
      simp only [gE] at c0 c1
      go_wp2_with (first
        | (go_at_call 110; refine (goodOptions_any _ (F[k]).2 k _ (HI.out.2.ext hx2) HK.out.2 HA.out.2 HW.out.2).mono ?_; rintro e w3 ⟨rfl, hx3⟩)
        | (go_at_call 110; refine (goodOptions_any _ (F[k]).1 k _ HI.out.1 HK.out.1 HA.out.1 HW.out.1).mono ?_; rintro e w2 ⟨rfl, hx2⟩; have d1 := (hx2.cell (lt_of_cell c1)).trans c1))
      go_roundw
      case rel => exact ⟨k + 1, by omega, by go_num, ext_trans (ext_trans hx hxW) (ext_trans hx2 hx3)⟩
      case measure => simp [intOf]; omega
    · have h1 : ¬ (((k : Nat) : Int) < ((F.length : Nat) : Int)) := by omega
      have hbr := (hx.cell (lt_of_cell hbx)).trans hbx
      have HB := Lib.hid (births_any (.slice aF F.length capF) F wr (hf.ext (ext_trans hxb hx)) hF.good.wf (by omega))
      go_upto_region 10 with (go_at_call 111; refine HB.out.mono ?_; rintro e wb ⟨vb, rfl, hob, hxB⟩)
      have hE := ext_trans (ext_trans hxb hx) hxB
      have hbb := (hxB.cell (lt_of_cell hbr)).trans hbr
      obtain ⟨ab, cb, rfl, hcb1, hcb2⟩ := own_len hob
      have HFI := Lib.hid hF
      clear hbr hbx hx hxb hxB HB h1 hk
      obtain ⟨wz, hwz⟩ : ∃ z, z = wr.heap.size := ⟨_, rfl⟩
      rw [← hwz] at hob
      clear hwz
      go_wp2
      go_loopw [6, 7, 8] (fun zi _ _ wr => ∃ k : Nat, 1 ≤ k ∧ k ≤ F.length ∧ zi = .int .i64 ((k : Nat) : Int) ∧ Ext wb wr) (fun zi _ _ _ => F.length - (intOf zi).toNat)
      case atStart => exact ⟨1, Nat.le_refl _, l1, by go_num, Below.refl _ _⟩
      case round =>
        obtain ⟨k, hk1, hk, rfl, hx⟩ := hrel
        have hbr := (hx.cell (lt_of_cell hbb)).trans hbb
        by_cases hlt : k < F.length
        · have h1 : ((k : Nat) : Int) < ((F.length : Nat) : Int) := by omega
          obtain ⟨j, rfl⟩ : ∃ j, k = j + 1 := ⟨k - 1, by omega⟩
          have hj : j < F.length := by omega
          obtain ⟨bF, cF, aL, cL, aR, cR, he, hcF, cl, cr, hiL, hiR⟩ := hf.at hj
          obtain ⟨bF2, cF2, aL2, cL2, aR2, cR2, he2, hcF2, cl2, cr2, hiL2, hiR2⟩ := hf.at hlt
          simp only [Value.slice.injEq] at he
          obtain ⟨rfl, -, rfl⟩ := he
          simp only [Value.slice.injEq, Option.some.injEq, Addr.mk.injEq, and_true, true_and] at he2
          obtain ⟨rfl, rfl⟩ := he2
          have hEr := ext_trans hE hx
          have cl' := (hEr.cell (lt_of_cell cl)).trans cl
          have cr' := (hEr.cell (lt_of_cell cr)).trans cr
          have cl2' := (hEr.cell (lt_of_cell cl2)).trans cl2
          have cr2' := (hEr.cell (lt_of_cell cr2)).trans cr2
          have HI := Lib.hid (And.intro (And.intro (hiL.ext hEr) (hiR.ext hEr)) (And.intro (hiL2.ext hEr) (hiR2.ext hEr)))
          have hwk : wrap64 ((j : Nat) : Int) = ((j : Nat) : Int) := by unfold wrap64; omega
          have hwk2 : IntKind.i64.wrap ((j : Nat) : Int) = ((j : Nat) : Int) := (Go.IntWalk.i64_left _).trans hwk
          have hj0 : (0 : Int) ≤ ((j : Nat) : Int) + 1 := by omega
          have hjF : ((j : Nat) : Int) < (F.length : Int) := by omega
          have HF := Lib.hid hf
          clear cl cr cl2 cr2 hiL hiR hiL2 hiR2 hf
          go_upto_region 13 with fail
          go_cut [7, 8] (fun x y wc => ∃ pa pb, x = .pointer (some ⟨pa, 0, none⟩) ∧ y = .pointer (some ⟨pb, 0, none⟩) ∧ Ext wr wc ∧ wc.cell? ⟨pa, 0, none⟩ = some (.slice aL (F[j]).1.length cL) ∧ wc.cell? ⟨pa, 1, none⟩ = some (.slice aR (F[j]).2.length cR) ∧ wc.cell? ⟨pb, 0, none⟩ = some (.slice aL2 (F[j + 1]).1.length cL2) ∧ wc.cell? ⟨pb, 1, none⟩ = some (.slice aR2 (F[j + 1]).2.length cR2))
          case first =>
            refine wp_region_L (fun V => V.cell? ⟨w.heap.size, 0, none⟩ = some (.slice (some ⟨bF, 0, none⟩) F.length capF) ∧ V.cell? ⟨bF, j * 2, none⟩ = some (.slice aL (F[j]).1.length cL) ∧ V.cell? ⟨bF, j * 2 + 1, none⟩ = some (.slice aR (F[j]).2.length cR) ∧ V.cell? ⟨bF, (j + 1) * 2, none⟩ = some (.slice aL2 (F[j + 1]).1.length cL2) ∧ V.cell? ⟨bF, (j + 1) * 2 + 1, none⟩ = some (.slice aR2 (F[j + 1]).2.length cR2)) [14] rowsGF13 (by kernel_rfl) ⟨by kernel_rfl, by kernel_rfl, by kernel_rfl⟩ ⟨hbr, cl', cr', cl2', cr2'⟩ (fun hTab hHeld => ?_)
            ((refine tkB hTab (i := 0) hHeld ?_); (try simp only [nP]); (refine tkB hTab (i := 1) hHeld ?_); (try simp only [nP]); (refine tkB hTab (i := 2) hHeld ?_); (try simp only [nP]); (refine tkB hTab (i := 3) hHeld ?_); (try simp only [nP]); (refine tkB hTab (i := 4) hHeld ?_); (try simp only [nP]); (refine tkB hTab (i := 5) hHeld ?_); (try simp only [nP]); (refine tkB hTab (i := 6) hHeld ?_); (try simp only [nP]); (refine tkB hTab (i := 7) hHeld ?_); (try simp only [nP]); (refine tkB hTab (i := 8) hHeld ?_); (try simp only [nP]); (refine tkB hTab (i := 9) hHeld ?_); (try simp only [nP]); (refine tkB hTab (i := 10) hHeld ?_); (try simp only [nP]))
            refine wpAnyL_two hTab (i := 11) (j := 12) (by kernel_rfl) ?_ ?_
            · (refine rnB (i := 11) fun K hK => ?_; go_simp)
              (refine hK.out _ _ (fun _ => ?_) ?_)
              · exact ⟨alloc_cell hbr _, alloc_cell cl' _, alloc_cell cr' _, alloc_cell cl2' _, alloc_cell cr2' _⟩
              clear hK K
              (try simp only [nP])
              (refine stB hTab (i := 12) fun K hK => ?_; go_simp)
              (refine hK.out _ _ (fun _ => ?_) ?_)
              · exact ⟨alloc_cell (alloc_cell hbr _) _, alloc_cell (alloc_cell cl' _) _, alloc_cell (alloc_cell cr' _) _, alloc_cell (alloc_cell cl2' _) _, alloc_cell (alloc_cell cr2' _) _⟩
              clear hK K
              (try simp only [nP])
              (refine stB hTab (i := 13) fun K hK => ?_; go_simp)
              (refine hK.out _ _ (fun _ => ?_) ?_)
              · exact ⟨alloc_cell (alloc_cell hbr _) _, alloc_cell (alloc_cell cl' _) _, alloc_cell (alloc_cell cr' _) _, alloc_cell (alloc_cell cl2' _) _, alloc_cell (alloc_cell cr2' _) _⟩
              clear hK K
              (try simp only [nP])
              refine tlB hTab [14] [_] ?_
              clear hTab hHeld
              go_wp2
              go_meet
              exact ⟨wr.heap.size, wr.heap.size + 1, rfl, rfl, ext_trans (ext_alloc (ext_alloc (Below.refl _ _) _) _) (rd_ext ⟨1, rfl⟩), alloc_cell (new2_0 wr _ _ _) _, alloc_cell (new2_1 wr _ _ _) _, new3_0 wr _ _ _ _, new3_1 wr _ _ _ _⟩
            · (refine rnB (i := 12) fun K hK => ?_; go_simp)
              (refine hK.out _ _ (fun _ => ?_) ?_)
              · exact ⟨alloc_cell hbr _, alloc_cell cl' _, alloc_cell cr' _, alloc_cell cl2' _, alloc_cell cr2' _⟩
              clear hK K
              (try simp only [nP])
              (refine stB hTab (i := 11) fun K hK => ?_; go_simp)
              (refine hK.out _ _ (fun _ => ?_) ?_)
              · exact ⟨alloc_cell (alloc_cell hbr _) _, alloc_cell (alloc_cell cl' _) _, alloc_cell (alloc_cell cr' _) _, alloc_cell (alloc_cell cl2' _) _, alloc_cell (alloc_cell cr2' _) _⟩
              clear hK K
              (try simp only [nP])
              (refine stB hTab (i := 13) fun K hK => ?_; go_simp)
              (refine hK.out _ _ (fun _ => ?_) ?_)
              · exact ⟨alloc_cell (alloc_cell hbr _) _, alloc_cell (alloc_cell cl' _) _, alloc_cell (alloc_cell cr' _) _, alloc_cell (alloc_cell cl2' _) _, alloc_cell (alloc_cell cr2' _) _⟩
              clear hK K
              (try simp only [nP])
              refine tlB hTab [14] [_] ?_
              clear hTab hHeld
              go_wp2
              go_meet
              exact ⟨wr.heap.size + 1, wr.heap.size, rfl, rfl, ext_trans (ext_alloc (ext_alloc (Below.refl _ _) _) _) (rd_ext ⟨1, rfl⟩), new3_0 wr _ _ _ _, new3_1 wr _ _ _ _, alloc_cell (new2_0 wr _ _ _) _, alloc_cell (new2_1 wr _ _ _) _⟩
          case rest =>
            obtain ⟨pa, pb, rfl, rfl, hxc, p0, p1, q0, q1⟩ := hcut
            have hxc2 := ext_trans hx hxc
            obtain ⟨gb, cb', e, hcb3, hcb4, hcb5⟩ := own_at hob (by omega)
            simp only [Value.slice.injEq, true_and] at e
            obtain ⟨rfl, rfl⟩ := e
            have b0 := (hcb5 j (by omega)).trans (brt_at hj)
            have b1 := (hcb5 (j + 1) (by omega)).trans (brt_at hlt)
            replace b0 := (hxc2.cell (lt_of_cell b0)).trans b0
            replace b1 := (hxc2.cell (lt_of_cell b1)).trans b1
            have HN := Lib.hid (ahead_or hj hlt (HFI.out.sorted j (j + 1) (by omega) hlt))
            have HC := Lib.hid (And.intro (And.intro (HI.out.1.1.ext hxc) (HI.out.1.2.ext hxc)) (And.intro (HI.out.2.1.ext hxc) (HI.out.2.2.ext hxc)))
            have HW1 := Lib.hid (HFI.out.good.wf j _ (List.getElem?_eq_getElem hj))
            have HW2 := Lib.hid (HFI.out.good.wf (j + 1) _ (List.getElem?_eq_getElem hlt))
            have hs : ∀ x : Nat, x < j + 1 → x < 900000000 := fun x hx => by omega
            have HS := Lib.hid hs
            obtain ⟨ba, hba⟩ : ∃ b, b = Cgt.born (vl F j) := ⟨_, rfl⟩
            obtain ⟨bb, hbb2⟩ : ∃ b, b = Cgt.born (vl F (j + 1)) := ⟨_, rfl⟩
            rw [← hba] at b0 HN
            rw [← hbb2] at b1 HN
            clear hba hbb2 hcb5 hob cl' cr' cl2' cr2' hs
            go_upto_region 14 with fail
            refine wp_region_L (fun V => (V.cell? ⟨gb, j, none⟩ = some (.int .i64 (ba : Int)) ∧ V.cell? ⟨gb, j + 1, none⟩ = some (.int .i64 (bb : Int))) ∧ V.cell? ⟨pa, 0, none⟩ = some (.slice aL (F[j]).1.length cL) ∧ V.cell? ⟨pa, 1, none⟩ = some (.slice aR (F[j]).2.length cR) ∧ V.cell? ⟨pb, 0, none⟩ = some (.slice aL2 (F[j + 1]).1.length cL2) ∧ V.cell? ⟨pb, 1, none⟩ = some (.slice aR2 (F[j + 1]).2.length cR2)) [20, 21, 22] rowsGF14 (by kernel_rfl) ⟨by kernel_rfl, by kernel_rfl, by kernel_rfl⟩ ⟨⟨b0, b1⟩, p0, p1, q0, q1⟩ (fun hTab hHeld => ?_)
            ((refine tkB hTab (i := 0) hHeld ?_); (try simp only [nP]); (refine tkB hTab (i := 1) hHeld ?_); (try simp only [nP]); (refine tkB hTab (i := 2) hHeld ?_); (try simp only [nP]); (refine tkB hTab (i := 3) hHeld ?_); (try simp only [nP]); (refine tkB hTab (i := 4) hHeld ?_); (try simp only [nP]); (refine tkB hTab (i := 5) hHeld ?_); (try simp only [nP]); (refine tkB hTab (i := 6) hHeld ?_); (try simp only [nP]); (refine tkB hTab (i := 7) hHeld ?_); (try simp only [nP]); (refine tkB hTab (i := 8) hHeld ?_); (try simp only [nP]); (refine tkB hTab (i := 10) hHeld ?_); (try simp only [nP]); (refine tkB hTab (i := 11) hHeld ?_); (try simp only [nP]); (refine tkB hTab (i := 12) hHeld ?_); (try simp only [nP]); (refine tkB hTab (i := 13) hHeld ?_); (try simp only [nP]); (refine tkB hTab (i := 15) hHeld ?_); (try simp only [nP]); (refine tkB hTab (i := 16) hHeld ?_); (try simp only [nP]); (refine tkB hTab (i := 17) hHeld ?_); (try simp only [nP]); (refine tkB hTab (i := 18) hHeld ?_); (try simp only [nP]))
            (refine stB hTab (i := 9) fun K hK => ?_; go_simp)
            refine (Tryz.cmp_Compare_int _ _ _).mono ?_
            rintro e w2 ⟨rfl, hw2⟩
            subst hw2
            (refine hK.out _ _ (fun _ => ?_) ?_)
            · exact hHeld
            clear hK K
            (try simp only [nP])
            (refine stB hTab (i := 14) fun K hK => ?_; go_simp)
            refine (slicesCompare_any _ _ (F[j]).1 (F[j + 1]).1 _ (HC.out.1.1.ext (rd_ext ⟨1, rfl⟩)) (HC.out.2.1.ext (rd_ext ⟨1, rfl⟩)) (fun x hx => HS.out x (by have := HW1.out.1 x hx; omega)) (fun x hx => HS.out x (by have := HW2.out.1 x hx; omega))).mono ?_
            rintro e w2 ⟨rfl, n2, rfl⟩
            (refine hK.out _ _ (fun _ => ?_) ?_)
            · exact hHeld
            clear hK K
            (try simp only [nP])
            (refine stB hTab (i := 19) fun K hK => ?_; go_simp)
            refine (slicesCompare_any _ _ (F[j]).2 (F[j + 1]).2 _ (HC.out.1.2.ext (rd_ext ⟨1 + n2, by rw [← World.drewN_drewN]⟩)) (HC.out.2.2.ext (rd_ext ⟨1 + n2, by rw [← World.drewN_drewN]⟩)) (fun x hx => HS.out x (by have := HW1.out.2 x hx; omega)) (fun x hx => HS.out x (by have := HW2.out.2 x hx; omega))).mono ?_
            rintro e w3 ⟨rfl, n3, rfl⟩
            (refine hK.out _ _ (fun _ => ?_) ?_)
            · exact hHeld
            clear hK K
            (try simp only [nP])
            refine tlB hTab [20, 21, 22] [_, _, _] ?_
            clear hTab hHeld
            have hneg : ¬ ((0 : Int) ≤ orZ3 (Lib.compareInt (ba : Int) (bb : Int)) (Cgt.cl (F[j]).1 (F[j + 1]).1) (Cgt.cl (F[j]).2 (F[j + 1]).2)) := Int.not_le.2 HN.out
            go_wp2_with (go_at_call 112; refine (cmpOr3_any _ (Lib.compareInt (ba : Int) (bb : Int)) (Cgt.cl (F[j]).1 (F[j + 1]).1) (Cgt.cl (F[j]).2 (F[j + 1]).2) _ (newc_0 _ _ _ _ _) (newc_1 _ _ _ _ _) (newc_2 _ _ _ _ _)).mono ?_; rintro e w5 ⟨rfl, n5, rfl⟩)
            go_roundw
            case rel => exact ⟨j + 1 + 1, by omega, by omega, by go_num, ext_drewN (ext_alloc (ext_trans hxc2 (rd_ext ⟨1 + n2 + n3, by rw [← World.drewN_drewN, ← World.drewN_drewN]⟩)) _) _⟩
            case measure => simp [intOf]; omega
        · have h1 : ¬ (((k : Nat) : Int) < ((F.length : Nat) : Int)) := by omega
          have hEr := ext_trans hE hx
          have HU : Hid (∀ V, Ext w V → Calls Tryz.prog 116 #[.slice aF F.length capF, .int .i64 ((F.length : Int) - 1)] V (UsedPost F V)) := fun V hV => by
            have := used_any (.slice aF F.length capF) F V (hf.ext hV) hF.good.wf (by omega) (by omega) hF.reach
            rw [show ((F.length - 1 : Nat) : Int) = (F.length : Int) - 1 by omega] at this
            exact this
          have HE := Lib.hid hEr
          clear hf hF hEr hE hx HFI
          go_wp2_with (first
            | (go_at_call 115; refine (contains_trues _ F.length _ _ ho2 (by omega)).mono ?_; rintro e w4 ⟨rfl, q, rfl⟩)
            | (go_at_call 116; refine (HU.out _ HE.out).mono ?_; rintro e w3 ⟨v3, rfl, ho2, hx3⟩; have hz3 := ext_trans HE.out hx3))
          go_ret
          exact ⟨rfl, ext_drewN hz3 _⟩

end Go.Proofs.YteknjeohbcgpdaaGreatDoor
