/-
  Contracts of the reference's GoodBoard, l21Text, l21Free and l21Is.
-/
import Derived.Test.YteknjeohbcgpdaaGreatDoorY1
import Derived.Test.YteknjeohbcgpdaaGreatDoorY7
import Derived.Test.YteknjeohbcgpdaaGreatDoorY8
import Derived.Test.YteknjeohbcgpdaaGreatDoorY10
import Derived.Deep.DeepCutAuto
import Derived.Deep.CutBlock
set_option maxRecDepth 100000
namespace Go.Proofs.YteknjeohbcgpdaaGreatDoor
open Go.RowKit
open Cgt (Brd GB goodB rowOk)

def bdr (s : ByteArray) : List UInt8 := s.data.toList
def bd (ss : List ByteArray) : Brd := ss.map bdr
theorem bdr_len (s : ByteArray) : (bdr s).length = s.size := by simp [bdr]
theorem bdr_at {s : ByteArray} {k : Nat} (h : k < s.size) : (bdr s)[k]'(by rw [bdr_len]; exact h) = s[k] := by simp [bdr]; rfl
theorem bdr_getD {s : ByteArray} {k : Nat} (h : k < s.size) : (bdr s).getD k 0 = s[k] := by
  rw [List.getD_eq_getElem?_getD, List.getElem?_eq_getElem (by rw [bdr_len]; exact h), Option.getD_some, bdr_at h]
theorem bd_len (ss : List ByteArray) : (bd ss).length = ss.length := by simp [bd]
theorem bd_at {ss : List ByteArray} {i : Nat} (h : i < ss.length) : (bd ss)[i]'(by rw [bd_len]; exact h) = bdr ss[i] := by simp [bd]
theorem bd_getD {ss : List ByteArray} {i : Nat} (h : i < ss.length) : (bd ss).getD i [] = bdr ss[i] := by
  rw [List.getD_eq_getElem?_getD, List.getElem?_eq_getElem (by rw [bd_len]; exact h), Option.getD_some, bd_at h]
def lt8 (s : ByteArray) (k : Nat) : Bool := (bdr s).getD k 0 == 46 || (bdr s).getD k 0 == 35
theorem lt8_iff {s : ByteArray} {k : Nat} (h : k < s.size) : lt8 s k = true ↔ (s[k].toNat = 46 ∨ s[k].toNat = 35) := by
  unfold lt8
  rw [bdr_getD h, Bool.or_eq_true, beq_iff_eq, beq_iff_eq, ← UInt8.toNat_inj, ← UInt8.toNat_inj]; rfl
theorem rowOk_iff {w : Nat} {s : ByteArray} : rowOk w (bdr s) = true ↔ (1 ≤ s.size ∧ s.size ≤ 8) ∧ s.size = w ∧ ∀ k, k < s.size → lt8 s k = true := by
  unfold rowOk lt8
  simp only [Bool.and_eq_true, decide_eq_true_eq, List.all_eq_true, bdr_len]
  constructor
  · rintro ⟨⟨⟨h1, h2⟩, h3⟩, h4⟩
    refine ⟨⟨h1, h2⟩, h3, fun k hk => ?_⟩
    rw [List.getD_eq_getElem?_getD, List.getElem?_eq_getElem (by rw [bdr_len]; exact hk), Option.getD_some]
    exact h4 _ (List.getElem_mem _)
  · rintro ⟨⟨h1, h2⟩, h3, h4⟩
    refine ⟨⟨⟨h1, h2⟩, h3⟩, fun c hc => ?_⟩
    obtain ⟨k, hk, rfl⟩ := List.mem_iff_getElem.1 hc
    have := h4 k (by rw [← bdr_len]; exact hk)
    rw [List.getD_eq_getElem?_getD, List.getElem?_eq_getElem hk, Option.getD_some] at this
    exact this
theorem goodB_no {ss : List ByteArray} {i : Nat} (h : i < ss.length) (h0 : 0 < ss.length) (k : ¬ rowOk ss[0].size (bdr ss[i]) = true) : goodB (bd ss) = false := by
  rw [Bool.eq_false_iff]
  intro e
  unfold goodB at e
  simp only [Bool.and_eq_true, List.all_eq_true] at e
  have := e.2 (bdr ss[i]) (by rw [← bd_at h]; exact List.getElem_mem _)
  rw [bd_getD h0, bdr_len] at this
  exact k this
theorem goodB_yes {ss : List ByteArray} (h1 : 1 ≤ ss.length ∧ ss.length ≤ 8) (h : ∀ i (hi : i < ss.length), rowOk ss[0].size (bdr ss[i]) = true) : goodB (bd ss) = true := by
  unfold goodB
  simp only [Bool.and_eq_true, List.all_eq_true, bd_len, decide_eq_true_eq]
  refine ⟨h1, fun r hr => ?_⟩
  obtain ⟨i, hi, rfl⟩ := List.mem_iff_getElem.1 hr
  have hi' : i < ss.length := by rw [← bd_len]; exact hi
  rw [bd_at hi', bd_getD (by omega), bdr_len]
  exact h i hi'
theorem goodB_len {ss : List ByteArray} (h : ¬ (1 ≤ ss.length ∧ ss.length ≤ 8)) : goodB (bd ss) = false := by
  unfold goodB
  rw [bd_len]
  rcases Nat.lt_or_ge ss.length 1 with e | e
  · have : ¬ (1 ≤ ss.length) := by omega
    simp [this]
  · have : ¬ (ss.length ≤ 8) := by omega
    simp [this]

def rowsGB : List Row := [⟨0, [], 18, [1]⟩, ⟨1, [0], 19, [17]⟩, ⟨2, [], 20, [3]⟩, ⟨3, [1, 2], 21, [18, 19]⟩, ⟨4, [3], 22, [20]⟩, ⟨5, [4], 23, [21]⟩, ⟨6, [5], 24, [22]⟩, ⟨7, [6], 25, [23]⟩, ⟨8, [7, 6], 26, [24]⟩, ⟨9, [8], 27, [1, 25]⟩, ⟨10, [9, 8], 28, [26, 25]⟩, ⟨11, [8], 29, [3, 25]⟩, ⟨12, [10, 11, 8], 30, [27, 28, 25]⟩, ⟨13, [12, 8], 31, [29, 25]⟩, ⟨14, [13, 8], 32, [30, 25]⟩, ⟨15, [8], 33, [1, 25]⟩, ⟨16, [15, 8], 34, [32, 25]⟩, ⟨17, [16, 8], 35, [33, 25]⟩, ⟨18, [17, 8], 36, [34, 25]⟩, ⟨19, [18, 8], 37, [35, 25]⟩, ⟨20, [14, 19, 8], 38, [31, 36, 25]⟩, ⟨21, [8, 20], 39, [25, 37]⟩]

set_option maxHeartbeats 2000000 in
theorem specGoodBoard_any (v : Value) (ss : List ByteArray) (w : World) (h : Strs w v ss) (hl : ss.length ≤ 1048576) (hs : ∀ s, s ∈ ss → s.size ≤ 1048576) :
    Calls Tryz.prog 30 #[.agg #[v]] w fun e w' => e = .returned (.bool (goodB (bd ss))) ∧ Ext w w' := by
  obtain ⟨a, cap, rfl, hcap, hml⟩ := h.open
  have hxb : Ext w (w.alloc (.cells #[.slice a ss.length cap] 31)) := by go_grown
  have hbb := heap_alloc_new w (.cells #[.slice a ss.length cap] 31)
  by_cases h8 : 1 ≤ ss.length ∧ ss.length ≤ 8
  · have hin : inB ((ss.length : Nat) : Int) 1 8 = true := by simp [inB]; omega
    have h0 : 0 < ss.length := by omega
    have H8 := Lib.hid h8
    clear h8
    go_enter Tryz.func30, Tryz.ntmps30
    go_wp2_with (go_at_call 60; refine (l1In_any _ _ _ _).mono ?_; rintro e w1 ⟨he, n, rfl⟩; rw [hin] at he; subst he)
    have hx1 : Ext w ((w.alloc (.cells #[.slice a ss.length cap] 31)).drewN n) := ext_drewN hxb n
    have hb1 : ((w.alloc (.cells #[.slice a ss.length cap] 31)).drewN n).heap[w.heap.size]? = some (.cells #[.slice a ss.length cap] 31 (0, 0)) := hbb
    generalize (w.alloc (.cells #[.slice a ss.length cap] 31)).drewN n = W at *
    generalize w.heap.size = p at *
    clear hxb hbb hin
    go_loopw [2, 3, 4] (fun _ ii _ wr => ∃ i : Nat, ii = .int .i64 ((i : Nat) : Int) ∧ i ≤ ss.length ∧ Ext W wr ∧ Hid (∀ j (hj : j < ss.length), j < i → rowOk ss[0].size (bdr ss[j]) = true)) (fun _ ii _ _ => ss.length - (intOf ii).toNat)
    case atStart => exact ⟨0, rfl, Nat.zero_le _, Below.refl _ _, Lib.hid fun j _ h => absurd h (by omega)⟩
    case round =>
      obtain ⟨i, rfl, hi, hx, HP⟩ := hrel
      have hE := ext_trans hx1 hx
      have hbr : wr.heap[p]? = some (.cells #[.slice a ss.length cap] 31 (0, 0)) := (hx.block _ (blk_lt hb1)).trans hb1
      have c0 := cell_of_row wr p 0 _ _ _ hbr
      simp only [gE] at c0
      by_cases hlt : i < ss.length
      · have h1 : ((i : Nat) : Int) < ((ss.length : Nat) : Int) := by omega
        obtain ⟨b, off, rfl, hc⟩ := (h.ext hE).at hlt
        have ci := hc i hlt
        have cz := hc 0 h0
        rw [Nat.add_zero] at cz
        have hsi := hs _ (List.getElem_mem hlt)
        have hs0 := hs _ (List.getElem_mem h0)
        obtain ⟨si, esi⟩ : ∃ si : ByteArray, ss[i] = si := ⟨_, rfl⟩
        obtain ⟨s0, es0⟩ : ∃ s0 : ByteArray, ss[0] = s0 := ⟨_, rfl⟩
        rw [esi] at ci hsi
        rw [es0] at cz hs0 HP
        have ESI := Lib.hid esi
        have ES0 := Lib.hid es0
        clear esi es0
        have HC := Lib.hid hc
        have HX := Lib.hid hx
        have HE := Lib.hid hE
        clear hc hx hE
        by_cases h2 : 1 ≤ si.size ∧ si.size ≤ 8
        · have hin : inB ((si.size : Nat) : Int) 1 8 = true := by simp [inB]; omega
          have H2 := Lib.hid h2
          clear h2
          go_upto_region 6 with fail
          refine wp_region_L (fun W => W.cell? ⟨p, 0, none⟩ = some (.slice (some ⟨b, off, none⟩) ss.length cap) ∧ W.cell? ⟨b, off + i, none⟩ = some (.string si) ∧ W.cell? ⟨b, off, none⟩ = some (.string s0)) [21] rowsGB (by kernel_rfl) ⟨by kernel_rfl, by kernel_rfl, by kernel_rfl⟩ ⟨c0, ci, cz⟩ (fun hTab hHeld => ?_)
          ((refine tkB hTab (i := 0) hHeld ?_); (try simp only [nP]); (refine tkB hTab (i := 1) hHeld ?_); (try simp only [nP]); (refine tkB hTab (i := 2) hHeld ?_); (try simp only [nP]); (refine tkB hTab (i := 3) hHeld ?_); (try simp only [nP]); (refine tkB hTab (i := 4) hHeld ?_); (try simp only [nP]); (refine tkB hTab (i := 5) hHeld ?_); (try simp only [nP]))
          (refine stB hTab (i := 6) fun K hK => ?_; go_simp)
          refine (l1In_any _ _ _ _).mono ?_
          rintro e w1 ⟨he, n, rfl⟩
          rw [hin] at he
          subst he
          (refine hK.out _ _ (fun _ => ?_) ?_)
          · exact hHeld
          clear hK K
          (try simp only [nP])
          ((refine tkB hTab (i := 7) hHeld ?_); (try simp only [nP]); (refine tkB hTab (i := 8) hHeld ?_); (try simp only [nP]); (refine tkB hTab (i := 9) hHeld ?_); (try simp only [nP]); (refine tkB hTab (i := 10) hHeld ?_); (try simp only [nP]); (refine tkB hTab (i := 11) hHeld ?_); (try simp only [nP]); (refine tkB hTab (i := 12) hHeld ?_); (try simp only [nP]); (refine tkB hTab (i := 13) hHeld ?_); (try simp only [nP]); (refine tkB hTab (i := 14) hHeld ?_); (try simp only [nP]); (refine tkB hTab (i := 15) hHeld ?_); (try simp only [nP]); (refine tkB hTab (i := 16) hHeld ?_); (try simp only [nP]); (refine tkB hTab (i := 17) hHeld ?_); (try simp only [nP]); (refine tkB hTab (i := 18) hHeld ?_); (try simp only [nP]); (refine tkB hTab (i := 19) hHeld ?_); (try simp only [nP]); (refine tkB hTab (i := 20) hHeld ?_); (try simp only [nP]))
          refine tlB hTab [21] [_] ?_
          by_cases h3 : si.size = s0.size
          · have h3' : ¬ (((si.size : Nat) : Int) ≠ ((s0.size : Nat) : Int)) := by omega
            have hne : (((si.size : Nat) : Int) != ((s0.size : Nat) : Int)) = false := by simp; omega
            have H3 := Lib.hid h3
            clear h3
            go_wp2
            clear h3' hne ci cz hbr hHeld hTab c0 hin
            go_loopw [2, 4] (fun _ kk wr => ∃ k : Nat, kk = .int .i64 ((k : Nat) : Int) ∧ k ≤ si.size ∧ Ext W wr ∧ Hid (∀ j, j < k → lt8 si j = true)) (fun _ kk _ => si.size - (intOf kk).toNat)
            case atStart => exact ⟨0, rfl, Nat.zero_le _, ext_trans HX.out (by exact ⟨rfl, rfl, rfl, Nat.le_refl _, fun _ _ => rfl⟩), Lib.hid fun j h => absurd h (by omega)⟩
            case round =>
              obtain ⟨k, rfl, hk, hx2, HQ⟩ := hrel
              have hE := ext_trans hx1 hx2
              have hbr : wr.heap[p]? = some (.cells #[.slice (some ⟨b, off, none⟩) ss.length cap] 31 (0, 0)) := (hx2.block _ (blk_lt hb1)).trans hb1
              have c0 := cell_of_row wr p 0 _ _ _ hbr
              simp only [gE] at c0
              obtain ⟨b', off', eb, hc⟩ := (h.ext hE).at hlt
              simp only [Option.some.injEq, Addr.mk.injEq, and_true] at eb
              obtain ⟨rfl, rfl⟩ := eb
              have ci := hc i hlt
              rw [ESI.out] at ci
              have HX2 := Lib.hid hx2
              have HE2 := Lib.hid hE
              clear hc hx2 hE hbr
              have HLT := Lib.hid hlt
              by_cases hkl : k < si.size
              · have h4 : ((k : Nat) : Int) < ((si.size : Nat) : Int) := by omega
                have HI := Lib.hid (lt8_iff hkl)
                have HKL := Lib.hid hkl
                by_cases h46 : (si[k]'hkl).toNat = 46
                · have e1 : (((si[k]'hkl).toNat : Nat) : Int) = 46 := by omega
                  have HK := Lib.hid (HI.out.2 (.inl h46))
                  clear h46
                  go_wp2
                  go_roundw
                  case rel => exact ⟨k + 1, by go_num, by have := HKL.out; omega, HX2.out, Lib.hid fun j hj => by
                    by_cases e : j = k
                    · subst e; exact HK.out
                    · exact HQ.out j (by omega)⟩
                  case measure => have := HKL.out; simp [intOf]; omega
                · by_cases h35 : (si[k]'hkl).toNat = 35
                  · have e1 : (((si[k]'hkl).toNat : Nat) : Int) = 35 := by omega
                    have HK := Lib.hid (HI.out.2 (.inr h35))
                    clear h46 h35
                    go_wp2
                    go_roundw
                    case rel => exact ⟨k + 1, by go_num, by have := HKL.out; omega, HX2.out, Lib.hid fun j hj => by
                      by_cases e : j = k
                      · subst e; exact HK.out
                      · exact HQ.out j (by omega)⟩
                    case measure => have := HKL.out; simp [intOf]; omega
                  · have e1 : ((((si[k]'hkl).toNat : Nat) : Int) != 46) = true := by simp; omega
                    have e2 : ((((si[k]'hkl).toNat : Nat) : Int) != 35) = true := by simp; omega
                    have e3 : ¬ ((((si[k]'hkl).toNat : Nat) : Int) = 46) := by omega
                    have e4 : ¬ ((((si[k]'hkl).toNat : Nat) : Int) = 35) := by omega
                    have e5 : (((((si[k]'hkl).toNat : Nat) : Int) != 46) && ((((si[k]'hkl).toNat : Nat) : Int) != 35)) = true := by rw [e1, e2]; rfl
                    have HN : Hid (¬ (lt8 si k = true)) := Lib.hid fun h => by rcases HI.out.1 h with h | h; exact h46 h; exact h35 h
                    clear h46 h35
                    go_wp2
                    go_ret
                    exact ⟨ret_bool (goodB_no HLT.out h0 fun e => HN.out ((rowOk_iff.1 (by rw [ESI.out] at e; exact e)).2.2 k HKL.out)).symm, HE2.out⟩
              · have h4 : ¬ (((k : Nat) : Int) < ((si.size : Nat) : Int)) := by omega
                have HKL := Lib.hid hkl
                clear hkl
                go_wp2
                go_roundw
                case rel => exact ⟨i + 1, by go_num, by have := HLT.out; omega, HX2.out, Lib.hid fun j hj hji => by
                  by_cases e : j = i
                  · subst e; rw [ESI.out, ES0.out]; exact rowOk_iff.2 ⟨H2.out, H3.out, fun q hq => HQ.out q (by have := HKL.out; omega)⟩
                  · rw [ES0.out]; exact HP.out j hj (by omega)⟩
                case measure => have := HLT.out; simp [intOf]; omega
          · have h3' : ((si.size : Nat) : Int) ≠ ((s0.size : Nat) : Int) := by omega
            have hne : (((si.size : Nat) : Int) != ((s0.size : Nat) : Int)) = true := by simp; omega
            have H3 := Lib.hid h3
            clear h3
            go_wp2
            go_ret
            exact ⟨ret_bool (goodB_no hlt h0 fun e => H3.out (rowOk_iff.1 (by rw [ESI.out, ES0.out] at e; exact e)).2.1).symm, ext_trans HE.out (by exact ⟨rfl, rfl, rfl, Nat.le_refl _, fun _ _ => rfl⟩)⟩
        · have hin : inB ((si.size : Nat) : Int) 1 8 = false := by
            rw [Bool.eq_false_iff]; intro e; simp [inB] at e; omega
          have H2 := Lib.hid h2
          clear h2
          go_upto_region 6 with fail
          refine wp_region_L (fun W => W.cell? ⟨p, 0, none⟩ = some (.slice (some ⟨b, off, none⟩) ss.length cap) ∧ W.cell? ⟨b, off + i, none⟩ = some (.string si) ∧ W.cell? ⟨b, off, none⟩ = some (.string s0)) [21] rowsGB (by kernel_rfl) ⟨by kernel_rfl, by kernel_rfl, by kernel_rfl⟩ ⟨c0, ci, cz⟩ (fun hTab hHeld => ?_)
          ((refine tkB hTab (i := 0) hHeld ?_); (try simp only [nP]); (refine tkB hTab (i := 1) hHeld ?_); (try simp only [nP]); (refine tkB hTab (i := 2) hHeld ?_); (try simp only [nP]); (refine tkB hTab (i := 3) hHeld ?_); (try simp only [nP]); (refine tkB hTab (i := 4) hHeld ?_); (try simp only [nP]); (refine tkB hTab (i := 5) hHeld ?_); (try simp only [nP]))
          (refine stB hTab (i := 6) fun K hK => ?_; go_simp)
          refine (l1In_any _ _ _ _).mono ?_
          rintro e w1 ⟨he, n, rfl⟩
          rw [hin] at he
          subst he
          (refine hK.out _ _ (fun _ => ?_) ?_)
          · exact hHeld
          clear hK K
          (try simp only [nP])
          ((refine tkB hTab (i := 7) hHeld ?_); (try simp only [nP]); (refine tkB hTab (i := 8) hHeld ?_); (try simp only [nP]))
          ((refine wpAnyL_take hTab (i := 9) (oi := _) (v := undef) (by simp only [gE]; rfl) (by kernel_rfl) (by exact fun _ _ _ h => h) hHeld (Or.inr ⟨by rfl, rfl⟩) ?r29); (try simp only [nP]); (refine wpAnyL_take hTab (i := 10) (oi := _) (v := undef) (by simp only [gE]; rfl) (by kernel_rfl) (by exact fun _ _ _ h => h) hHeld (Or.inr ⟨by rfl, rfl⟩) ?r30); (try simp only [nP]); (refine wpAnyL_take hTab (i := 11) (oi := _) (v := undef) (by simp only [gE]; rfl) (by kernel_rfl) (by exact fun _ _ _ h => h) hHeld (Or.inr ⟨by rfl, rfl⟩) ?r31); (try simp only [nP]); (refine wpAnyL_take hTab (i := 12) (oi := _) (v := undef) (by simp only [gE]; rfl) (by kernel_rfl) (by exact fun _ _ _ h => h) hHeld (Or.inr ⟨by rfl, rfl⟩) ?r32); (try simp only [nP]); (refine wpAnyL_take hTab (i := 13) (oi := _) (v := undef) (by simp only [gE]; rfl) (by kernel_rfl) (by exact fun _ _ _ h => h) hHeld (Or.inr ⟨by rfl, rfl⟩) ?r33); (try simp only [nP]); (refine wpAnyL_take hTab (i := 14) (oi := _) (v := undef) (by simp only [gE]; rfl) (by kernel_rfl) (by exact fun _ _ _ h => h) hHeld (Or.inr ⟨by rfl, rfl⟩) ?r34); (try simp only [nP]); (refine wpAnyL_take hTab (i := 15) (oi := _) (v := undef) (by simp only [gE]; rfl) (by kernel_rfl) (by exact fun _ _ _ h => h) hHeld (Or.inr ⟨by rfl, rfl⟩) ?r35); (try simp only [nP]); (refine wpAnyL_take hTab (i := 16) (oi := _) (v := undef) (by simp only [gE]; rfl) (by kernel_rfl) (by exact fun _ _ _ h => h) hHeld (Or.inr ⟨by rfl, rfl⟩) ?r36); (try simp only [nP]); (refine wpAnyL_take hTab (i := 17) (oi := _) (v := undef) (by simp only [gE]; rfl) (by kernel_rfl) (by exact fun _ _ _ h => h) hHeld (Or.inr ⟨by rfl, rfl⟩) ?r37); (try simp only [nP]); (refine wpAnyL_take hTab (i := 18) (oi := _) (v := undef) (by simp only [gE]; rfl) (by kernel_rfl) (by exact fun _ _ _ h => h) hHeld (Or.inr ⟨by rfl, rfl⟩) ?r38); (try simp only [nP]); (refine wpAnyL_take hTab (i := 19) (oi := _) (v := undef) (by simp only [gE]; rfl) (by kernel_rfl) (by exact fun _ _ _ h => h) hHeld (Or.inr ⟨by rfl, rfl⟩) ?r39); (try simp only [nP]); (refine wpAnyL_take hTab (i := 20) (oi := _) (v := undef) (by simp only [gE]; rfl) (by kernel_rfl) (by exact fun _ _ _ h => h) hHeld (Or.inr ⟨by rfl, rfl⟩) ?r40); (try simp only [nP]))
          refine tlB hTab [21] [_] ?_
          go_wp2
          go_ret
          exact ⟨ret_bool (goodB_no hlt h0 fun e => H2.out (rowOk_iff.1 (by rw [ESI.out] at e; exact e)).1).symm, ext_trans HE.out (by exact ⟨rfl, rfl, rfl, Nat.le_refl _, fun _ _ => rfl⟩)⟩
      · have h1 : ¬ (((i : Nat) : Int) < ((ss.length : Nat) : Int)) := by omega
        have HLT := Lib.hid hlt
        clear hlt
        go_wp2
        go_ret
        exact ⟨ret_bool (goodB_yes H8.out fun j hj => HP.out j hj (by have := HLT.out; omega)).symm, hE⟩
  · have hin : inB ((ss.length : Nat) : Int) 1 8 = false := by
      rw [Bool.eq_false_iff]; intro e; simp [inB] at e; omega
    have H8 := Lib.hid h8
    clear h8
    go_enter Tryz.func30, Tryz.ntmps30
    go_wp2_with (go_at_call 60; refine (l1In_any _ _ _ _).mono ?_; rintro e w1 ⟨he, n, rfl⟩; rw [hin] at he; subst he)
    go_ret
    exact ⟨ret_bool (goodB_len H8.out).symm, ext_drewN hxb n⟩

end Go.Proofs.YteknjeohbcgpdaaGreatDoor
