/-
  Contracts of the program's GoodBoard, (Board).text and (Board).free. (2 texts.)
-/
import Derived.Test.YteknjeohbcgpdaaGreatDoorY13
import Derived.Test.YteknjeohbcgpdaaGreatDoorY14
import Derived.Test.YteknjeohbcgpdaaGreatDoorY15
set_option maxRecDepth 100000
namespace Go.Proofs.YteknjeohbcgpdaaGreatDoor
section
open Go.RowKit
open Cgt (Brd GB goodB rowOk txtB)

theorem join_txt : ∀ b : Brd, Lib.join b [47] = txtB b
  | [] => rfl
  | [r] => by simp [Lib.join, List.intercalate, txtB]
  | r :: s :: t => by
    have ih := join_txt (s :: t)
    rw [Cgt.txtB_cons, ← ih]
    simp [Lib.join, List.intercalate]
theorem indexByte_app {c : UInt8} : ∀ {a : List UInt8} (r : List UInt8), c ∉ a → Lib.indexByte (a ++ c :: r) c = (a.length : Int)
  | [], r, _ => by simp [Lib.indexByte]
  | b :: a, r, h => by
    have hb : (b == c) = false := by rw [beq_eq_false_iff_ne]; rintro rfl; exact h (List.mem_cons_self ..)
    have ih := indexByte_app (a := a) r (fun e => h (List.mem_cons_of_mem _ e))
    rw [List.cons_append, Lib.indexByte, hb, ih]
    have : ((a.length : Int) == -1) = false := by simp
    simp [this]
theorem splitK_none {c : UInt8} {a : List UInt8} (h : c ∉ a) : Lib.splitK [c] 0 (Lib.count a [c]) a = [a] := by
  rw [Lib.count_one, List.count_eq_zero.2 h]; rfl
theorem splitK_cons {c : UInt8} {a r : List UInt8} (h : c ∉ a) : Lib.splitK [c] 0 (Lib.count (a ++ c :: r) [c]) (a ++ c :: r) = a :: Lib.splitK [c] 0 (Lib.count r [c]) r := by
  have e : Lib.count (a ++ c :: r) [c] = Lib.count r [c] + 1 := by
    rw [Lib.count_one, Lib.count_one, List.count_append, List.count_eq_zero.2 h, List.count_cons_self]; omega
  rw [e, Lib.splitK, Lib.index_one, indexByte_app r h]
  have : ((a.length : Int) == -1) = false := by simp
  rw [this]
  simp
theorem splitK_txt : ∀ {b : Brd}, b ≠ [] → (∀ r, r ∈ b → (47 : UInt8) ∉ r) → Lib.splitK [47] 0 (Lib.count (txtB b) [47]) (txtB b) = b
  | [], h, _ => absurd rfl h
  | [r], _, h => splitK_none (h r (by simp))
  | r :: s :: t, _, h => by
    rw [Cgt.txtB_cons, splitK_cons (h r (by simp)), splitK_txt (by simp) fun x hx => h x (by simp only [List.mem_cons] at hx ⊢; exact .inr hx)]
theorem count_txt : ∀ {b : Brd}, b ≠ [] → (∀ r, r ∈ b → (47 : UInt8) ∉ r) → Lib.count (txtB b) [47] + 1 = b.length
  | [], h, _ => absurd rfl h
  | [r], _, h => by rw [Lib.count_one, txtB, List.count_eq_zero.2 (h r (by simp))]; rfl
  | r :: s :: t, _, h => by
    have ih := count_txt (b := s :: t) (by simp) fun x hx => h x (by simp only [List.mem_cons] at hx ⊢; exact .inr hx)
    rw [Lib.count_one] at ih ⊢
    rw [Cgt.txtB_cons, List.count_append, List.count_eq_zero.2 (h r (by simp)), List.count_cons_self, List.length_cons, ← ih]; omega

theorem split_board {b : Brd} {h w : Nat} {s : ByteArray} (g : GB b h w) (hs : bdr s = txtB b) :
    Lib.countB s ⟨#[47]⟩ + 1 = b.length ∧ bd (Lib.splitB ⟨#[47]⟩ 0 (Lib.countB s ⟨#[47]⟩) s) = b := by
  have hn : ∀ r, r ∈ b → (47 : UInt8) ∉ r := fun r hr k => g.no47 r hr 47 k rfl
  have hs' : s.data.toList = txtB b := hs
  have hc : Lib.countB s ⟨#[47]⟩ = Lib.count (txtB b) [47] := by unfold Lib.countB; rw [hs']
  refine ⟨by rw [hc, count_txt g.ne hn], ?_⟩
  have := Lib.splitB_data ⟨#[47]⟩ 0 (Lib.countB s ⟨#[47]⟩) s
  have e : bd (Lib.splitB ⟨#[47]⟩ 0 (Lib.countB s ⟨#[47]⟩) s) = (Lib.splitB ⟨#[47]⟩ 0 (Lib.countB s ⟨#[47]⟩) s).map (·.data.toList) := rfl
  rw [e, this, hs', hc]
  exact splitK_txt g.ne hn
theorem dw_all {p : UInt8 → Bool} : ∀ {L : List UInt8}, (∀ x, x ∈ L.dropWhile p → p x = true) → ∀ x, x ∈ L → p x = true
  | [], _, x, hx => by cases hx
  | a :: t, h, x, hx => by
    cases ha : p a with
    | true =>
      rw [List.dropWhile_cons_of_pos ha] at h
      rcases List.mem_cons.1 hx with rfl | hx
      · exact ha
      · exact dw_all h x hx
    | false =>
      rw [List.dropWhile_cons_of_neg (by simp [ha])] at h
      exact h x hx
theorem dw_nil {p : UInt8 → Bool} : ∀ {L : List UInt8}, (∀ x, x ∈ L → p x = true) → L.dropWhile p = []
  | [], _ => rfl
  | a :: t, h => by rw [List.dropWhile_cons_of_pos (h a (by simp))]; exact dw_nil fun x hx => h x (by simp [hx])
theorem trimS_nil (l cs : List UInt8) : Lib.trimS l cs = [] ↔ ∀ c, c ∈ l → cs.contains c = true := by
  unfold Lib.trimS Lib.trimLeftS Lib.trimRightS
  constructor
  · intro h
    have h1 : ∀ c, c ∈ (l.reverse.dropWhile (cs.contains ·)) → cs.contains c = true := fun c hc => by
      refine dw_all (L := (l.reverse.dropWhile (cs.contains ·)).reverse) (p := (cs.contains ·)) (fun x hx => by rw [h] at hx; cases hx) c (by simpa using hc)
    exact fun c hc => dw_all h1 c (by simpa using hc)
  · intro h
    rw [dw_nil (L := l.reverse) fun c hc => h c (by simpa using hc)]; rfl
def cellsOk (s : ByteArray) : Bool := (bdr s).all fun c => c == 46 || c == 35
theorem cells_trim (s : ByteArray) : ((Lib.trimS s.data.toList [46, 35]) == []) = cellsOk s := by
  unfold cellsOk
  rw [Bool.eq_iff_iff, beq_iff_eq, trimS_nil, List.all_eq_true]
  constructor <;> intro h c hc <;> have := h c hc <;> simpa using this
end
section
open Go.RowKit
open Cgt (Brd GB goodB rowOk txtB fr)

theorem info_set : (Tryz.prog.info? 164).map (fun i => (i.zero, i.size)) = some (some (.agg (Array.replicate 256 (.bool false))), 256) := by kernel_rfl
theorem rowOk_cells {w : Nat} {s : ByteArray} : rowOk w (bdr s) = (decide (1 ≤ s.size) && decide (s.size ≤ 8) && decide (s.size = w) && cellsOk s) := by
  unfold rowOk cellsOk; rw [bdr_len]

set_option maxHeartbeats 2000000 in
theorem pGoodBoard_any (v : Value) (ss : List ByteArray) (w : World) (h : Strs w v ss) (hl : ss.length ≤ 1048576) (hs : ∀ s, s ∈ ss → s.size ≤ 1048576) :
    Calls Tryz.prog 41 #[.agg #[v]] w fun e w' => e = .returned (.bool (goodB (bd ss))) ∧ Ext w w' := by
  obtain ⟨a, cap, rfl, hcap, hml⟩ := h.open
  have hxb : Ext w (w.alloc (.cells #[.slice a ss.length cap] 31)) := by go_grown
  have hbb := heap_alloc_new w (.cells #[.slice a ss.length cap] 31)
  by_cases h8 : 1 ≤ ss.length ∧ ss.length ≤ 8
  · have h0 : 0 < ss.length := by omega
    have hq1 : ¬ (((ss.length : Nat) : Int) < 1) := by omega
    have hq2 : ¬ ((8 : Int) < ((ss.length : Nat) : Int)) := by omega
    have H8 := Lib.hid h8
    clear h8
    go_enter Tryz.func41, Tryz.ntmps41
    go_upto_region 1 with fail
    generalize w.alloc (.cells #[.slice a ss.length cap] 31) = W at *
    generalize w.heap.size = p at *
    obtain ⟨b, off, rfl, hc⟩ := (h.ext hxb).at h0
    have cz := hc 0 h0
    rw [Nat.add_zero] at cz
    have hs0 := hs _ (List.getElem_mem h0)
    have c0 := cell_of_row W p 0 _ _ _ hbb
    simp only [gE] at c0
    obtain ⟨s0, es0⟩ : ∃ s0 : ByteArray, ss[0] = s0 := ⟨_, rfl⟩
    rw [es0] at cz hs0
    have ES0 := Lib.hid es0
    have HC := Lib.hid hc
    clear es0 hc
    by_cases hz : 1 ≤ s0.size ∧ s0.size ≤ 8
    · have hq3 : ¬ (((s0.size : Nat) : Int) < 1) := by omega
      have hq4 : ¬ ((8 : Int) < ((s0.size : Nat) : Int)) := by omega
      have HZ := Lib.hid hz
      clear hz
      go_wp2
      go_loopw [4, 34] (fun _ ii wr => ∃ i : Nat, ii = .int .i64 ((i : Nat) : Int) ∧ i ≤ ss.length ∧ Ext W wr ∧ Hid (∀ j (hj : j < ss.length), j < i → rowOk ss[0].size (bdr ss[j]) = true)) (fun _ ii _ => ss.length - (intOf ii).toNat)
      case atStart => exact ⟨0, rfl, Nat.zero_le _, Below.refl _ _, Lib.hid fun j _ h => absurd h (by omega)⟩
      case round =>
        obtain ⟨i, rfl, hi, hx, HP⟩ := hrel
        by_cases hlt : i < ss.length
        · have h1 : ((i : Nat) : Int) < ((ss.length : Nat) : Int) := by omega
          have ci := (hx.cell (lt_of_cell (HC.out i hlt))).trans (HC.out i hlt)
          have cz' := (hx.cell (lt_of_cell cz)).trans cz
          have cb' := (hx.cell (lt_of_cell c0)).trans c0
          have HLT := Lib.hid hlt
          have hsi := hs _ (List.getElem_mem HLT.out)
          obtain ⟨si, esi⟩ : ∃ si : ByteArray, ss[i]'HLT.out = si := ⟨_, rfl⟩
          rw [esi] at ci hsi
          have ESI := Lib.hid esi
          have HX := Lib.hid hx
          clear esi hx hlt
          have HROW := Lib.hid (rowOk_cells (w := s0.size) (s := si))
          by_cases h2 : si.size = s0.size
          · have h2' : ¬ (((si.size : Nat) : Int) ≠ ((s0.size : Nat) : Int)) := by omega
            have hne : (((si.size : Nat) : Int) != ((s0.size : Nat) : Int)) = false := by simp; omega
            have H2 := Lib.hid h2
            clear h2
            have hsz2 : (⟨#[46, 35]⟩ : ByteArray).size < 4294967281 := by decide
            have hsz1 : si.size ≤ 9223372036854775807 := by omega
            have ha : ∀ (j : Nat) b, (⟨#[46, 35]⟩ : ByteArray).data.toList[j]? = some b → b.toNat < 128 := by
              intro j b h
              have := List.mem_of_getElem? h
              simp at this
              rcases this with rfl | rfl <;> decide
            have htr := cells_trim si
            cases hok : cellsOk si with
            | true =>
              rw [hok] at htr
              have htr2 : (Lib.trimS si.data.toList [46, 35] != []) = false := by rw [bne, htr]; rfl
              have htr3 : Lib.trimS si.data.toList [46, 35] = [] := beq_iff_eq.1 htr
              have HOK := Lib.hid hok
              clear hok
              go_wp2_with (go_at_call 81; refine (Tryz.strings_Trim_laid si ⟨#[46, 35]⟩ _ info_set hsz1 hsz2 ha).mono ?_; rintro e w1 ⟨rfl, hx1⟩)
              go_roundw
              case rel => exact ⟨i + 1, by go_num, by have := HLT.out; omega, ext_trans HX.out (by exact hx1), Lib.hid fun j hj hji => by
                by_cases e : j = i
                · subst e; rw [ESI.out, ES0.out, HROW.out, HOK.out, decide_eq_true H2.out, H2.out, decide_eq_true HZ.out.1, decide_eq_true HZ.out.2]; rfl
                · exact HP.out j hj (by omega)⟩
              case measure => have := HLT.out; simp [intOf]; omega
            | false =>
              rw [hok] at htr
              have htr2 : (Lib.trimS si.data.toList [46, 35] != []) = true := by rw [bne, htr]; rfl
              have htr3 : ¬ (Lib.trimS si.data.toList [46, 35] = []) := beq_eq_false_iff_ne.1 htr
              have HOK := Lib.hid hok
              clear hok
              go_wp2_with (go_at_call 81; refine (Tryz.strings_Trim_laid si ⟨#[46, 35]⟩ _ info_set hsz1 hsz2 ha).mono ?_; rintro e w1 ⟨rfl, hx1⟩)
              go_ret
              exact ⟨ret_bool (goodB_no HLT.out h0 fun e => by rw [ESI.out, ES0.out, HROW.out, HOK.out, Bool.and_false] at e; cases e).symm, ext_trans hxb (ext_trans HX.out (by exact hx1))⟩
          · have hne : (((si.size : Nat) : Int) != ((s0.size : Nat) : Int)) = true := by simp; omega
            have h2' : ((si.size : Nat) : Int) ≠ ((s0.size : Nat) : Int) := by omega
            have H2 := Lib.hid h2
            clear h2
            go_wp2
            go_ret
            exact ⟨ret_bool (goodB_no HLT.out h0 fun e => by rw [ESI.out, ES0.out, HROW.out, decide_eq_false H2.out] at e; simp at e).symm, ext_trans hxb HX.out⟩
        · have h1 : ¬ (((i : Nat) : Int) < ((ss.length : Nat) : Int)) := by omega
          have HLT := Lib.hid hlt
          have HX := Lib.hid hx
          clear hlt hx
          go_wp2
          go_ret
          exact ⟨ret_bool (goodB_yes H8.out fun j hj => HP.out j hj (by have := HLT.out; omega)).symm, ext_trans hxb HX.out⟩
    · have HN : Hid (goodB (bd ss) = false) := Lib.hid (goodB_no h0 h0 fun e => by
        rw [ES0.out, rowOk_cells] at e
        simp only [Bool.and_eq_true, decide_eq_true_eq] at e
        exact hz ⟨e.1.1.1, e.1.1.2⟩)
      have hz' : s0.size < 1 ∨ 8 < s0.size := by omega
      clear hz
      rcases hz' with hz' | hz'
      · have hq3 : (((s0.size : Nat) : Int) < 1) := by omega
        go_wp2
        go_ret
        exact ⟨ret_bool HN.out.symm, hxb⟩
      · have hq3 : ¬ (((s0.size : Nat) : Int) < 1) := by omega
        have hq4 : ((8 : Int) < ((s0.size : Nat) : Int)) := by omega
        go_wp2
        go_ret
        exact ⟨ret_bool HN.out.symm, hxb⟩
  · have HN := Lib.hid (goodB_len h8)
    have h8' : ss.length < 1 ∨ 8 < ss.length := by omega
    clear h8
    rcases h8' with h8' | h8'
    · have hq3 : (((ss.length : Nat) : Int) < 1) := by omega
      go_enter Tryz.func41, Tryz.ntmps41
      go_wp2
      go_ret
      exact ⟨ret_bool HN.out.symm, hxb⟩
    · have hq3 : ¬ (((ss.length : Nat) : Int) < 1) := by omega
      have hq4 : ((8 : Int) < ((ss.length : Nat) : Int)) := by omega
      go_enter Tryz.func41, Tryz.ntmps41
      go_wp2
      go_ret
      exact ⟨ret_bool HN.out.symm, hxb⟩

set_option maxHeartbeats 1000000 in
theorem bText_any (v : Value) (ss : List ByteArray) (hh ww : Nat) (w : World) (h : Strs w v ss) (g : GB (bd ss) hh ww) :
    Calls Tryz.prog 43 #[.agg #[v]] w fun e w' => ∃ so, e = .returned (.string so) ∧ bdr so = txtB (bd ss) ∧ Ext w w' := by
  obtain ⟨a, cap, rfl, hcap, hml⟩ := h.open
  have hxb : Ext w (w.alloc (.cells #[.slice a ss.length cap] 31)) := by go_grown
  have hh8 := g.h1
  have hsl := gb_len g
  obtain ⟨b, off, rfl, hc⟩ := (h.ext hxb).at (show 0 < ss.length by omega)
  have hj : Lib.join (ss.map (·.data.toList)) (⟨#[47]⟩ : ByteArray).data.toList = txtB (bd ss) := join_txt (bd ss)
  have hcells : ∀ (j : Nat) x, ss[j]? = some x → (w.alloc (.cells #[.slice (some ⟨b, off, none⟩) ss.length cap] 31)).cell? ⟨b, off + j, none⟩ = some (.string x) := fun j x hx => by
    have hjl := (List.getElem?_eq_some_iff.1 hx).1
    rw [hc j hjl]
    rw [List.getElem?_eq_getElem hjl] at hx
    injection hx with hx
    rw [hx]
  have hbk := lt_of_cell (hc 0 (show 0 < ss.length by omega))
  have hlen : (Lib.join (ss.map (·.data.toList)) (⟨#[47]⟩ : ByteArray).data.toList).length ≤ 140737488355328 := by
    rw [hj]
    have := txtB_len (b := bd ss) fun r hr => by have := (g.row r hr).1; have := g.w1; omega
    have := g.hgt
    omega
  have HJ := Lib.hid hj
  have HH := Lib.hid hsl
  have hl8 : ss.length ≤ 8 := by omega
  clear hj hsl hc
  go_enter Tryz.func43, Tryz.ntmps43
  go_wp2_with (go_at_call 85; refine (Tryz.strings_Join b off cap ss ⟨#[47]⟩ _ hcells hbk (by omega) hcap hlen).mono ?_; rintro e w1 ⟨rfl, hx1⟩)
  go_ret
  exact ⟨_, rfl, HJ.out, ext_trans hxb hx1⟩

def isF (b : Brd) (r c : Int) : Bool := decide (0 ≤ r) && decide (0 ≤ c) && fr b r.toNat c.toNat
set_option maxHeartbeats 2000000 in
theorem free_any (v : Value) (ss : List ByteArray) (hh ww : Nat) (r c : Int) (w : World) (h : Strs w v ss) (g : GB (bd ss) hh ww) (hr : -100 ≤ r ∧ r ≤ 100) (hc : -100 ≤ c ∧ c ≤ 100) :
    Calls Tryz.prog 109 #[.agg #[v], .int .i64 r, .int .i64 c] w fun e w' => e = .returned (.bool (isF (bd ss) r c)) ∧ Ext w w' := by
  obtain ⟨a, cap, rfl, hcap, hml⟩ := h.open
  have hxb : Ext w (w.alloc (.cells #[.slice a ss.length cap] 31)) := by go_grown
  have hh8 := g.h1
  have hw8 := g.w1
  have hsl := gb_len g
  have h0l : 0 < ss.length := by omega
  obtain ⟨b, off, rfl, hcl⟩ := (h.ext hxb).at h0l
  have cz := hcl 0 h0l
  rw [Nat.add_zero] at cz
  have hs0 : (ss[0]'h0l).size = ww := gb_row g h0l
  obtain ⟨s0, hS0⟩ : ∃ s0, s0 = ss[0]'h0l := ⟨_, rfl⟩
  rw [← hS0] at cz hs0
  clear hS0
  have hno : (r < 0 ∨ (hh : Int) ≤ r ∨ c < 0 ∨ (ww : Int) ≤ c) → isF (bd ss) r c = false := fun hn => by
    rw [Bool.eq_false_iff]
    intro e
    unfold isF at e
    simp only [Bool.and_eq_true, decide_eq_true_eq] at e
    have := g.in_ e.2
    omega
  have HNO := Lib.hid hno
  have HSL := Lib.hid hsl
  clear hno
  by_cases h1 : r < 0
  · have q1 : ¬ (0 ≤ r) := by omega
    clear hsl
    go_enter Tryz.func109, Tryz.ntmps109
    go_wp2
    go_ret
    exact ⟨ret_bool (HNO.out (.inl h1)).symm, hxb⟩
  have q1 : 0 ≤ r := by omega
  by_cases h2 : (hh : Int) ≤ r
  · have q2 : ¬ (r < ((ss.length : Nat) : Int)) := by omega
    clear hsl
    go_enter Tryz.func109, Tryz.ntmps109
    go_wp2
    go_ret
    exact ⟨ret_bool (HNO.out (.inr (.inl h2))).symm, hxb⟩
  have q2 : r < ((ss.length : Nat) : Int) := by omega
  by_cases h3 : c < 0
  · have q3 : ¬ (0 ≤ c) := by omega
    clear hsl
    go_enter Tryz.func109, Tryz.ntmps109
    go_wp2
    go_ret
    exact ⟨ret_bool (HNO.out (.inr (.inr (.inl h3)))).symm, hxb⟩
  have q3 : 0 ≤ c := by omega
  by_cases h4 : (ww : Int) ≤ c
  · have q4 : ¬ (c < ((s0.size : Nat) : Int)) := by omega
    clear hsl hs0
    go_enter Tryz.func109, Tryz.ntmps109
    go_wp2
    go_ret
    exact ⟨ret_bool (HNO.out (.inr (.inr (.inr h4)))).symm, hxb⟩
  have q4 : c < ((s0.size : Nat) : Int) := by omega
  obtain ⟨i, rfl⟩ : ∃ i : Nat, r = ((i : Nat) : Int) := ⟨r.toNat, by omega⟩
  obtain ⟨k, rfl⟩ : ∃ k : Nat, c = ((k : Nat) : Int) := ⟨c.toNat, by omega⟩
  have hi : i < ss.length := by omega
  have ci := hcl i hi
  have hsi : (ss[i]'hi).size = ww := gb_row g hi
  have hkk : k < (ss[i]'hi).size := by omega
  have hF : isF (bd ss) ((i : Nat) : Int) ((k : Nat) : Int) = (((((ss[i]'hi)[k]'hkk).toNat : Nat) : Int) == 46) := by
    unfold isF fr
    rw [decide_eq_true q1, decide_eq_true q3, Int.toNat_natCast, Int.toNat_natCast, Cgt.at_row (by rw [bd_len]; exact hi), bd_at hi, bdr_getD (by omega)]
    rw [Bool.eq_iff_iff]
    simp only [Bool.true_and, beq_iff_eq]
    rw [← UInt8.toNat_inj]
    have : (46 : UInt8).toNat = 46 := rfl
    omega
  have HF := Lib.hid hF
  clear hF
  clear hsl hcl
  generalize hSI : ss[i]'hi = si at *
  clear hSI
  go_enter Tryz.func109, Tryz.ntmps109
  go_wp2
  go_ret
  exact ⟨ret_bool HF.out.symm, hxb⟩
end
end Go.Proofs.YteknjeohbcgpdaaGreatDoor
