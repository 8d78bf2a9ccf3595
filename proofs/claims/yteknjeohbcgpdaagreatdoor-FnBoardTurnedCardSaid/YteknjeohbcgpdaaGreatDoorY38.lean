/-
  Contracts of slices.Contains at bools of which each is true, and of cmp.Or at three ints. (2 texts.)
-/
import Derived.Test.YteknjeohbcgpdaaGreatDoorY14
import Derived.Test.YteknjeohbcgpdaaGreatDoorY25
import Derived.Test.YteknjeohbcgpdaaGreatDoorY35
import Derived.Test.YteknjeohbcgpdaaGreatDoorY37
set_option maxRecDepth 100000
namespace Go.Proofs.YteknjeohbcgpdaaGreatDoor
section
open Go.RowKit
open Cgt (Dag Nd Gm vl)

structure UInv (F : Dag) (at_ c : Nat) (B : List Bool) : Prop where
  len : B.length = F.length
  root : B[at_]? = some true
  shut : ∀ p (hp : p < F.length), c ≤ p → B[p]? = some true → ∀ x, x ∈ (F[p]).1 ++ (F[p]).2 → B[x]? = some true

structure UStep (i : Nat) (B B' : List Bool) (O : List Nat) : Prop where
  len : B'.length = B.length
  up : ∀ p : Nat, i ≤ p → B'[p]? = B[p]?
  mono : ∀ p : Nat, B[p]? = some true → B'[p]? = some true
  set : ∀ x : Nat, x ∈ O → B'[x]? = some true
theorem UStep.refl (i : Nat) (B : List Bool) : UStep i B B [] := ⟨rfl, fun _ _ => rfl, fun _ h => h, fun _ h => absurd h (by simp)⟩
theorem UStep.put {i : Nat} {B B' : List Bool} {O : List Nat} {x : Nat} (h : UStep i B B' O) (hx : x < i) (hl : x < B.length) : UStep i B (B'.set x true) (O ++ [x]) := by
  have hlen := h.len
  refine ⟨by rw [List.length_set]; exact hlen, fun p hp => ?_, fun p hp => ?_, fun y hy => ?_⟩
  · rw [List.getElem?_set_ne (by omega)]; exact h.up p hp
  · by_cases e : x = p
    · subst e; rw [List.getElem?_set_self (by omega)]
    · rw [List.getElem?_set_ne e]; exact h.mono p hp
  · by_cases e : x = y
    · subst e; rw [List.getElem?_set_self (by omega)]
    · rw [List.getElem?_set_ne e]
      rcases List.mem_append.1 hy with hy | hy
      · exact h.set y hy
      · simp at hy; exact absurd hy.symm e
theorem UInv.next {F : Dag} {at_ i : Nat} {B B' : List Bool} (h : UInv F at_ (i + 1) B) (hi : i < F.length) (k : UStep i B B' ((F[i]).1 ++ (F[i]).2)) : UInv F at_ i B' := by
  refine ⟨by rw [k.len]; exact h.len, k.mono _ h.root, fun p hp hc hb x hx => ?_⟩
  by_cases e : p = i
  · subst e; exact k.set x hx
  · rw [k.up p hc] at hb
    exact k.mono x (h.shut p hp (by omega) hb x hx)
theorem UInv.skip {F : Dag} {at_ i : Nat} {B : List Bool} (h : UInv F at_ (i + 1) B) (hn : B[i]? = some false) : UInv F at_ i B := by
  refine ⟨h.len, h.root, fun p hp hc hb x hx => ?_⟩
  by_cases e : p = i
  · subst e; rw [hn] at hb; cases hb
  · exact h.shut p hp (by omega) hb x hx
theorem UInv.start {F : Dag} {at_ : Nat} (h : at_ < F.length) (hc : at_ + 1 = F.length) : UInv F at_ (at_ + 1) ((List.replicate F.length false).set at_ true) := by
  refine ⟨by simp, by rw [List.getElem?_set_self (by simpa using h)], fun p hp hcp _ => by omega⟩
theorem UInv.all {F : Dag} {at_ : Nat} {B : List Bool} (h : UInv F at_ 0 B) (hr : ∀ i, i < F.length → Cgt.Reach F at_ i) : B = List.replicate F.length true := by
  have key : ∀ i, Cgt.Reach F at_ i → B[i]? = some true := by
    intro i hi
    induction hi with
    | here => exact h.root
    | @left j k nd _ hd hk ih =>
      obtain ⟨hj, e⟩ := List.getElem?_eq_some_iff.1 hd
      exact h.shut j hj (Nat.zero_le _) ih k (by rw [e]; exact List.mem_append_left _ hk)
    | @right j k nd _ hd hk ih =>
      obtain ⟨hj, e⟩ := List.getElem?_eq_some_iff.1 hd
      exact h.shut j hj (Nat.zero_le _) ih k (by rw [e]; exact List.mem_append_right _ hk)
  refine List.ext_getElem (by rw [h.len, List.length_replicate]) fun i h1 h2 => ?_
  have := key i (hr i (by rw [← h.len]; exact h1))
  rw [List.getElem?_eq_getElem h1] at this
  rw [List.getElem_replicate]; injection this
theorem bools_own (w : World) (n : Nat) (hn : n ≤ 1000000) : (w.alloc (.cells (madeCells #[Value.bool false] n) 4)).ownsRow w.heap.size 4 1 (.slice (some ⟨w.heap.size, 0, none⟩) n n) n ((List.replicate n false).map Value.bool) := by
  have h := World.ownsRow_lit w (base := w.heap.size) (madeCells #[Value.bool false] n) n (e := 4) (size := 1) (Nat.le_refl _) (by unfold maxLen; omega) (by rw [size_madeCells]; simp)
  rw [made_bools] at h
  exact h
theorem own_setb {w : World} {B e g n cap k : Nat} {l : List Bool} (h : w.ownsRow B e 1 (.slice (some ⟨g, 0, none⟩) n cap) n (l.map Value.bool)) (hk : k < n) (x : Bool) :
    (w.setCell ⟨g, k, none⟩ (.bool x)).ownsRow B e 1 (.slice (some ⟨g, 0, none⟩) n cap) n ((l.set k x).map Value.bool) := by
  rw [List.map_set]; exact own_setv h hk _
def UsedPost (F : Dag) (w : World) (e : Ending) (w' : World) : Prop := ∃ v', e = .returned v' ∧ w'.ownsRow w.heap.size 4 1 v' F.length ((List.replicate F.length true).map Value.bool) ∧ Ext w w'

set_option maxHeartbeats 4000000 in
theorem used_any (v : Value) (F : Dag) (w : World) (hf : Nodes w 0 v F) (hF : Cgt.WF F) (hl : F.length ≤ 1000000) (h0 : 0 < F.length) (hr : ∀ i, i < F.length → Cgt.Reach F (F.length - 1) i) :
    Calls Tryz.prog 116 #[v, .int .i64 ((F.length - 1 : Nat) : Int)] w (UsedPost F w) := by
  obtain ⟨i0, hi0, hz0, hz1, hz2⟩ := info_parts info_boolC
  obtain ⟨aF, capF, rfl, hcap, hml, -⟩ := id hf
  obtain ⟨r, hrr⟩ : ∃ r, r = F.length - 1 := ⟨_, rfl⟩
  rw [← hrr] at hr ⊢
  have hrl : r + 1 = F.length := by omega
  have HR := Lib.hid hr
  clear hr hrr h0
  have hmk := fun w : World => run_make (P := Tryz.prog) w 106 4 i0 (.bool false) Tryz.underlying106 hi0 hz0 .i64 .i64 (F.length : Int) (F.length : Int) (by omega) (by omega) (by rw [hz2]; omega) (by omega)
  simp only [hz1, Nat.mul_one, Int.toNat_natCast] at hmk
  have hown0 := bools_own w F.length hl
  have hx0 : Ext w (w.alloc (.cells (madeCells #[Value.bool false] F.length) 4)) := by go_grown
  go_enter Tryz.func116, Tryz.ntmps116
  go_upto_region 2 with fail
  generalize w.alloc (.cells (madeCells #[Value.bool false] F.length) 4) = W0 at *
  clear hmk
  have hrF : ((r : Nat) : Int) < (F.length : Int) := by omega
  have hfr : W0.frozen? ⟨w.heap.size, r, none⟩ = false := hown0.frozenAt r
  obtain ⟨u, hu⟩ : ∃ u, W0.cell? ⟨w.heap.size, r, none⟩ = some u := ⟨_, (hown0.cellAt r (by omega)).trans (List.getElem?_eq_getElem (by simp; omega))⟩
  have hownS := own_setb hown0 (k := r) (by omega) true
  have hU0 := Lib.hid (UInv.start (F := F) (at_ := r) (by omega) hrl)
  have hxS : Ext w (W0.setCell ⟨w.heap.size, r, none⟩ (.bool true)) := hx0.setCell (p := ⟨w.heap.size, r, none⟩) (Nat.le_refl _) _
  clear hown0 hx0
  go_wp2
  go_loopw [6] (fun zi wr => ∃ (c : Nat) (B : List Bool), c ≤ F.length ∧ zi = .int .i64 ((c : Int) - 1) ∧ wr.ownsRow w.heap.size 4 1 (.slice (some ⟨w.heap.size, 0, none⟩) F.length F.length) F.length (B.map Value.bool) ∧ Ext w wr ∧ Hid (UInv F r c B)) (fun zi _ => (intOf zi + 1).toNat)
  case atStart => exact ⟨r + 1, _, by omega, by go_num, hownS, hxS, hU0⟩
  case round =>
    clear hownS hxS hU0 hfr hu
    obtain ⟨c, B, hc, rfl, hown, hx, HU⟩ := hrel
    by_cases hc0 : c = 0
    · subst hc0
      have h1 : ¬ ((0 : Int) ≤ ((0 : Nat) : Int) - 1) := by omega
      go_wp2
      go_ret
      have := HU.out.all HR.out
      subst this
      exact ⟨_, rfl, hown, hx⟩
    · obtain ⟨i, rfl⟩ : ∃ i, c = i + 1 := ⟨c - 1, by omega⟩
      have hie : (((i + 1 : Nat) : Int) - 1) = ((i : Nat) : Int) := by omega
      rw [hie]
      have h1 : (0 : Int) ≤ ((i : Nat) : Int) := by omega
      have hlt : i < F.length := by omega
      have hiF : ((i : Nat) : Int) < (F.length : Int) := by omega
      have hBl := HU.out.len
      obtain ⟨bi, hbi⟩ : ∃ bi, B[i]? = some bi := ⟨_, List.getElem?_eq_getElem (by omega)⟩
      have q0 : wr.cell? ⟨w.heap.size, i, none⟩ = some (.bool bi) := (hown.cellAt i (by omega)).trans (by rw [List.getElem?_map, hbi]; rfl)
      have hwk : wrap64 (((i : Nat) : Int) - 1) = ((i : Nat) : Int) - 1 := by unfold wrap64; omega
      cases bi with
      | false =>
        have HN := Lib.hid (HU.out.skip hbi)
        clear hbi HU hc0 hie
        go_wp2
        go_roundw
        case rel => exact ⟨i, B, by omega, rfl, hown, hx, HN⟩
        case measure => simp [intOf]
      | true =>
        obtain ⟨bF, cF, aL, cL, aR, cR, he, hcF, cl, cr, hiL, hiR⟩ := hf.at hlt
        simp only [Value.slice.injEq] at he
        obtain ⟨rfl, -, rfl⟩ := he
        have cl' := (hx.cell (lt_of_cell cl)).trans cl
        have hlr := lt_of_cell cr
        obtain ⟨wk1, wk2⟩ := hF i _ (List.getElem?_eq_getElem hlt)
        obtain ⟨FL, hFL⟩ : ∃ l, l = (F[i]).1 := ⟨_, rfl⟩
        obtain ⟨FR, hFR⟩ : ∃ l, l = (F[i]).2 := ⟨_, rfl⟩
        rw [← hFL] at cl' hiL wk1
        rw [← hFR] at cr hiR wk2
        have HK := Lib.hid (And.intro hFL hFR)
        have HF := Lib.hid hf
        obtain ⟨a', c', e, -, hlnL, hclL⟩ := hiL
        simp only [Value.slice.injEq, toZ_len, true_and] at e hlnL hclL
        obtain ⟨rfl, rfl⟩ := e
        obtain ⟨a', c', e, -, hlnR, hclR⟩ := hiR
        simp only [Value.slice.injEq, toZ_len, true_and] at e hlnR hclR
        obtain ⟨rfl, rfl⟩ := e
        have WK1 := Lib.hid wk1
        have WK2 := Lib.hid wk2
        have HCL := Lib.hid hclL
        have HCR := Lib.hid hclR
        clear wk1 wk2 hclL hclR hFL hFR cl hf hbi hie hc0
        go_wp2
        go_loopw [8, 33] (fun _ ii wr => ∃ (k : Nat) (B1 : List Bool), k ≤ FL.length ∧ ii = .int .i64 ((k : Nat) : Int) ∧ wr.ownsRow w.heap.size 4 1 (.slice (some ⟨w.heap.size, 0, none⟩) F.length F.length) F.length (B1.map Value.bool) ∧ Ext w wr ∧ Hid (UStep i B B1 (FL.take k))) (fun _ ii _ => FL.length - (intOf ii).toNat)
        case atStart => exact ⟨0, B, Nat.zero_le _, rfl, hown, hx, Lib.hid (UStep.refl _ _)⟩
        case round =>
          clear hown hx
          obtain ⟨k, B1, hk, rfl, hown1, hx1, HS1⟩ := hrel
          by_cases hk1 : k < FL.length
          · have h2 : ((k : Nat) : Int) < ((FL.length : Nat) : Int) := by omega
            obtain ⟨b, off, rfl, hcell⟩ := HCL.out (by omega)
            have hck := hcell k hk1
            rw [toZ_zat hk1] at hck
            have hck1 := (hx1.cell (lt_of_cell hck)).trans hck
            have hxi := WK1.out _ (List.getElem_mem hk1)
            have hB1 := HS1.out.len
            have hst := UStep.put HS1.out hxi (by omega)
            rw [← List.take_succ_eq_append_getElem hk1] at hst
            have HST := Lib.hid hst
            obtain ⟨x, hxe⟩ : ∃ x, x = FL[k] := ⟨_, rfl⟩
            rw [← hxe] at hck1 hxi HST
            have hfr : wr.frozen? ⟨w.heap.size, x, none⟩ = false := hown1.frozenAt x
            obtain ⟨u, hu⟩ : ∃ u, wr.cell? ⟨w.heap.size, x, none⟩ = some u := ⟨_, (hown1.cellAt x (by omega)).trans (List.getElem?_eq_getElem (by simp; omega))⟩
            have hxF : ((x : Nat) : Int) < (F.length : Int) := by omega
            have HO := Lib.hid (own_setb hown1 (k := x) (by omega) true)
            clear hcell hck hxe hxi hown1 hst
            go_wp2
            go_roundw
            case rel => exact ⟨k + 1, _, by omega, by go_num, HO.out, hx1.setCell (p := ⟨w.heap.size, x, none⟩) (Nat.le_refl _) _, HST⟩
            case measure => simp [intOf]; omega
          · have h2 : ¬ (((k : Nat) : Int) < ((FL.length : Nat) : Int)) := by omega
            have hke : k = FL.length := by omega
            subst hke
            rw [List.take_length] at HS1
            have cr1 := (hx1.cell hlr).trans cr
            go_wp2
            go_loopw [10, 47] (fun _ ii wr => ∃ (k : Nat) (B1 : List Bool), k ≤ FR.length ∧ ii = .int .i64 ((k : Nat) : Int) ∧ wr.ownsRow w.heap.size 4 1 (.slice (some ⟨w.heap.size, 0, none⟩) F.length F.length) F.length (B1.map Value.bool) ∧ Ext w wr ∧ Hid (UStep i B B1 (FL ++ FR.take k))) (fun _ ii _ => FR.length - (intOf ii).toNat)
            case atStart => exact ⟨0, B1, Nat.zero_le _, rfl, hown1, hx1, by rw [List.take_zero, List.append_nil]; exact HS1⟩
            case round =>
              clear hown1 hx1
              obtain ⟨k, B2, hk, rfl, hown2, hx2, HS2⟩ := hrel
              by_cases hk1 : k < FR.length
              · have h2 : ((k : Nat) : Int) < ((FR.length : Nat) : Int) := by omega
                obtain ⟨b, off, rfl, hcell⟩ := HCR.out (by omega)
                have hck := hcell k hk1
                rw [toZ_zat hk1] at hck
                have hck1 := (hx2.cell (lt_of_cell hck)).trans hck
                have hxi := WK2.out _ (List.getElem_mem hk1)
                have hB1 := HS2.out.len
                have hst := UStep.put HS2.out hxi (by omega)
                rw [List.append_assoc, ← List.take_succ_eq_append_getElem hk1] at hst
                have HST := Lib.hid hst
                obtain ⟨x, hxe⟩ : ∃ x, x = FR[k] := ⟨_, rfl⟩
                rw [← hxe] at hck1 hxi HST
                have hfr : wr.frozen? ⟨w.heap.size, x, none⟩ = false := hown2.frozenAt x
                obtain ⟨u, hu⟩ : ∃ u, wr.cell? ⟨w.heap.size, x, none⟩ = some u := ⟨_, (hown2.cellAt x (by omega)).trans (List.getElem?_eq_getElem (by simp; omega))⟩
                have hxF : ((x : Nat) : Int) < (F.length : Int) := by omega
                have HO := Lib.hid (own_setb hown2 (k := x) (by omega) true)
                clear hcell hck hxe hxi hown2 hst
                go_wp2
                go_roundw
                case rel => exact ⟨k + 1, _, by omega, by go_num, HO.out, hx2.setCell (p := ⟨w.heap.size, x, none⟩) (Nat.le_refl _) _, HST⟩
                case measure => simp [intOf]; omega
              · have h2 : ¬ (((k : Nat) : Int) < ((FR.length : Nat) : Int)) := by omega
                have hke : k = FR.length := by omega
                subst hke
                rw [List.take_length] at HS2
                have HN := Lib.hid (HU.out.next hlt (by rw [← HK.out.1, ← HK.out.2]; exact HS2.out))
                clear HS1 HS2 HU
                go_wp2
                go_roundw
                case rel => exact ⟨i, B2, by omega, rfl, hown2, hx2, HN⟩
                case measure => simp [intOf]
end
section
open Go.RowKit

theorem trues_at {n k : Nat} (h : k < n) : ((List.replicate n true).map Value.bool)[k]? = some (.bool true) := by simp [h]
theorem index_trues (B n : Nat) (v : Value) (w : World) (hv : w.ownsRow B 4 1 v n ((List.replicate n true).map Value.bool)) (hn : n ≤ 1000000) :
    Calls Tryz.prog 162 #[v, .bool false] w fun e w' => e = .returned (.int .i64 (-1)) ∧ RD w w' := by
  obtain ⟨a, cap, rfl, hc1, hc2⟩ := own_len hv
  go_enter Tryz.func162, Tryz.ntmps162
  go_wp2
  go_loopw [5, 8] (fun _ ii wr => ∃ k : Nat, k ≤ n ∧ ii = .int .i64 ((k : Nat) : Int) ∧ RD w wr) (fun _ ii _ => n - (intOf ii).toNat)
  case atStart => exact ⟨0, Nat.zero_le _, rfl, rd0 _⟩
  case round =>
    obtain ⟨k, hk, rfl, ⟨q, rfl⟩⟩ := hrel
    by_cases hlt : k < n
    · have h1 : ((k : Nat) : Int) < ((n : Nat) : Int) := by omega
      obtain ⟨g, cap', e, hg1, hg2, hg3⟩ := own_at hv (by omega)
      simp only [Value.slice.injEq, true_and] at e
      obtain ⟨rfl, rfl⟩ := e
      have hck : (w.drewN q).cell? ⟨g, k, none⟩ = some (.bool true) := (hg3 k (by omega)).trans (trues_at hlt)
      clear hg3 hv
      go_wp2
      go_roundw
      case rel => exact ⟨k + 1, by omega, by go_num, ⟨_, rfl⟩⟩
      case measure => simp [intOf]; omega
    · have h1 : ¬ (((k : Nat) : Int) < ((n : Nat) : Int)) := by omega
      go_wp2
      go_ret
      exact ⟨rfl, ⟨_, rfl⟩⟩
theorem contains_trues (B n : Nat) (v : Value) (w : World) (hv : w.ownsRow B 4 1 v n ((List.replicate n true).map Value.bool)) (hn : n ≤ 1000000) :
    Calls Tryz.prog 115 #[v, .bool false] w fun e w' => e = .returned (.bool false) ∧ RD w w' := by
  go_enter Tryz.func115, Tryz.ntmps115
  go_wp2_with (go_at_call 162; refine (index_trues B n v _ (by first | exact hv | exact own_keep hv (rd_ext ⟨_, rfl⟩)) hn).mono ?_; rintro e w2 ⟨rfl, q, rfl⟩)
  go_ret
  exact ⟨rfl, ⟨_, rfl⟩⟩

def orZ3 (x y z : Int) : Int := if x ≠ 0 then x else orZ y z
theorem three_cases {k : Nat} (h : k ≤ 3) : k = 0 ∨ k = 1 ∨ k = 2 ∨ k = 3 := by omega
theorem cmpOr3_any (b : Nat) (x y z : Int) (w : World) (h0 : w.cell? ⟨b, 0, none⟩ = some (.int .i64 x)) (h1 : w.cell? ⟨b, 1, none⟩ = some (.int .i64 y)) (h2 : w.cell? ⟨b, 2, none⟩ = some (.int .i64 z)) :
    Calls Tryz.prog 112 #[.slice (some ⟨b, 0, none⟩) 3 3] w fun e w' => e = .returned (.int .i64 (orZ3 x y z)) ∧ RD w w' := by
  go_enter Tryz.func112, Tryz.ntmps112
  go_wp2
  go_loopw [5, 8] (fun _ ii wr => ∃ k : Nat, k ≤ 3 ∧ ii = .int .i64 ((k : Nat) : Int) ∧ RD w wr ∧ Hid ((1 ≤ k → x = 0) ∧ (2 ≤ k → y = 0) ∧ (3 ≤ k → z = 0))) (fun _ ii _ => 3 - (intOf ii).toNat)
  case atStart => exact ⟨0, Nat.zero_le _, rfl, rd0 _, by simp [Hid]⟩
  case round =>
    obtain ⟨k, hk, rfl, ⟨n, rfl⟩, HE⟩ := hrel
    rcases three_cases hk with rfl | rfl | rfl | rfl
    · by_cases hx : x = 0
      · subst hx
        go_wp2
        go_roundw
        case rel => exact ⟨1, by omega, by go_num, ⟨_, rfl⟩, Lib.hid ⟨by simp, fun h => by omega, fun h => by omega⟩⟩
        case measure => simp [intOf]
      · have hx0 : (x == 0) = false := by simpa using hx
        have HX := Lib.hid hx
        clear hx
        go_wp2
        go_ret
        exact ⟨ret_int (by unfold orZ3; rw [if_pos HX.out]), ⟨_, rfl⟩⟩
    · have HX := Lib.hid (HE.out.1 (by omega))
      by_cases hy : y = 0
      · subst hy
        go_wp2
        go_roundw
        case rel => exact ⟨2, by omega, by go_num, ⟨_, rfl⟩, Lib.hid ⟨fun _ => HX.out, by simp, fun h => by omega⟩⟩
        case measure => simp [intOf]
      · have hy0 : (y == 0) = false := by simpa using hy
        have HY := Lib.hid hy
        clear hy
        go_wp2
        go_ret
        exact ⟨ret_int (by unfold orZ3 orZ; rw [if_neg (by simp [HX.out]), if_pos HY.out]), ⟨_, rfl⟩⟩
    · have HX := Lib.hid (And.intro (HE.out.1 (by omega)) (HE.out.2.1 (by omega)))
      by_cases hz : z = 0
      · subst hz
        go_wp2
        go_roundw
        case rel => exact ⟨3, by omega, by go_num, ⟨_, rfl⟩, Lib.hid ⟨fun _ => HX.out.1, fun _ => HX.out.2, by simp⟩⟩
        case measure => simp [intOf]
      · have hz0 : (z == 0) = false := by simpa using hz
        clear hz
        go_wp2
        go_ret
        exact ⟨ret_int (by unfold orZ3 orZ; rw [if_neg (by simp [HX.out.1]), if_neg (by simp [HX.out.2])]), ⟨_, rfl⟩⟩
    · have HX := Lib.hid (And.intro (HE.out.1 (by omega)) (And.intro (HE.out.2.1 (by omega)) (HE.out.2.2 (by omega))))
      go_wp2
      go_ret
      exact ⟨ret_int (by unfold orZ3 orZ; rw [if_neg (by simp [HX.out.1]), if_neg (by simp [HX.out.2.1]), HX.out.2.2]), ⟨_, rfl⟩⟩
end
end Go.Proofs.YteknjeohbcgpdaaGreatDoor
