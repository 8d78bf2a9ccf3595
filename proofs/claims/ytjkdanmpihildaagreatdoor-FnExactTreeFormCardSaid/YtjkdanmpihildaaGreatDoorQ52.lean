/-
  Contract of the program's solved at a tree's text.
  Contracts of the program's areMarks and GoodTree.
  Contract of the program's TreeForm.
-/
import Derived.Test.YtjkdanmpihildaaGreatDoorQ1
import Derived.Test.YtjkdanmpihildaaGreatDoorQ22
import Derived.Test.YtjkdanmpihildaaGreatDoorQ31
import Derived.Test.YtjkdanmpihildaaGreatDoorQ33
import Derived.Test.YtjkdanmpihildaaGreatDoorQ51
import Derived.Laws.EntriesVeiled
namespace Go.Proofs.YtjkdanmpihildaaGreatDoor
open Go.RowKit
open Cgt (Dag Nd vl Gm Canon Eqv IsForm topOf Same)

theorem gameOk : ∀ n, GameOk n := by
  intro n
  induction n with
  | zero => intro w0 pp h kb s m us sg sb w hn; omega
  | succ n ih => exact game_step ih
theorem game_any (w0 : World) (pp h kb : Nat) (s : PSt) (m : Nat) (us : List Int) (sg : List UInt8) (sb : ByteArray) (w : World) (hT : Told us sg sb) (K : KAt w0 w pp h kb s m) (hG : Glb w0) (h1 : s.D.length + 2 * kN us.length ≤ 900000) (h2 : m + kN us.length ≤ 900000) :
    Calls Tryz.prog 39 #[.agg #[.pointer (some ⟨pp, 0, none⟩), .map (some kb), .func (.func 21) #[] #[]], .string sb] w (GamePost w0 pp h kb s m us sg w) :=
  gameOk (us.length + 1) w0 pp h kb s m us sg sb w (by omega) hT K hG h1 h2

def SolvedPost (us : List Int) (sg : List UInt8) (w : World) (e : Ending) (w' : World) : Prop :=
  ∃ F vN Fr ok sl, e = .returned (.tuple #[.agg #[vN], .bool ok]) ∧ TreeVal F us sg ∧ ok = fitsN F ∧ Fr = (if ok then F else []) ∧ FO w' w.heap.size vN Fr.length sl (lsOf Fr) ∧ Ext w w'

def rowsSolved : List Row := [⟨0, [], 12, [6]⟩, ⟨1, [0], 13, [11]⟩, ⟨2, [], 14, [6]⟩, ⟨3, [], 15, [0]⟩, ⟨4, [2, 3], 16, [13, 14]⟩, ⟨5, [1, 4, 4], 17, [12, 15]⟩, ⟨6, [5], 18, [16]⟩, ⟨7, [5], 19, [16]⟩, ⟨8, [6, 5, 0, 1, 2, 3, 4, 5, 6, 7], 0, [4, 17]⟩, ⟨9, [7, 8, 0, 1, 2, 3, 4, 5, 6, 7, 8], 6, [18]⟩]

def pst0 : PSt := ⟨.slice none 0 0, .slice none 0 0, .slice none 0 0, [], fun _ => False, fun _ => none⟩

set_option maxHeartbeats 4000000 in
set_option maxRecDepth 100000 in
theorem solved_any (us : List Int) (sg : List UInt8) (sb : ByteArray) (w : World) (hT : Told us sg sb) (hG : Glb w) :
    Calls Tryz.prog 19 #[.string sb, .func (.func 21) #[] #[]] w (SolvedPost us sg w) := by
  have hb1 : (w.alloc (.cells #[.slice none 0 0] 28)).heap[w.heap.size]? = some (.cells #[.slice none 0 0] 28 (0, 0)) := heap_alloc_new _ _
  have hx1 : Ext w (w.alloc (.cells #[.slice none 0 0] 28)) := by go_grown
  have hmm := fun w : World => run_makeMap_plain (P := Tryz.prog) (w := w) 67
  go_enter Tryz.func19, Tryz.ntmps19
  go_upto_region 1 with fail
  generalize w.alloc (.cells #[.slice none 0 0] 28) = W1 at *
  generalize hf1 : w.heap.size = f1 at *
  have hf1W : f1 < W1.heap.size := blk_lt hb1
  go_upto_region 2 with (go_at_call 37; refine (newPool_any W1).mono ?_; rintro e w2 ⟨h, hh, rfl, hp2, hmaps, hz2, hx2⟩)
  subst hh
  have hx3 : Ext w2 (w2.alloc (.map #[] 0)) := ext_alloc (Below.refl _ _) _
  have hkbB : (w2.alloc (.map #[] 0)).heap[W1.heap.size + 6]? = some (.map #[] 0) := by rw [← hz2]; exact heap_alloc_new _ _
  have hz3 : (w2.alloc (.map #[] 0)).heap.size = W1.heap.size + 6 + 1 := by rw [World.size_alloc, hz2]
  have hpool := (PoolAt.empty hp2 hmaps).ext hx3
  have hE3 := ext_trans hx2 hx3
  generalize w2.alloc (.map #[] 0) = W3 at *
  have K3 : KAt W1 W3 (W1.heap.size + 1 + 1 + 1 + 1 + 1) W1.heap.size (W1.heap.size + 6) pst0 0 := by
    have hp : ∀ b, POwn (W1.heap.size + 1 + 1 + 1 + 1 + 1) W1.heap.size pst0 b → W1.heap.size ≤ b ∧ b ≤ W1.heap.size + 5 := by
      intro b hb
      rcases hb with h | h | h | h | h
      · omega
      · omega
      · simp [pst0, Value.ownBlock] at h
      · simp [pst0, Value.ownBlock] at h
      · simp [pst0, Value.ownBlock] at h
    exact ⟨hpool, fun x hx => absurd hx (by simp [pst0]), ⟨fun _ => none, MapIs.made _ _ hkbB, fun _ _ h => by cases h⟩, fun h => by have := (hp _ h).2; omega, fun h => h.elim, by omega, fun b hb => (hp b hb).1, hE3⟩
  have hx4 : Ext W3 (W3.alloc (.cells #[.pointer (some ⟨W1.heap.size + 1 + 1 + 1 + 1 + 1, 0, none⟩), .map (some (W1.heap.size + 6)), .func (.func 21) #[] #[]] 69)) := ext_alloc (Below.refl _ _) _
  have hb4 : (W3.alloc (.cells #[.pointer (some ⟨W1.heap.size + 1 + 1 + 1 + 1 + 1, 0, none⟩), .map (some (W1.heap.size + 6)), .func (.func 21) #[] #[]] 69)).heap[W1.heap.size + 6 + 1]? = some (.cells #[.pointer (some ⟨W1.heap.size + 1 + 1 + 1 + 1 + 1, 0, none⟩), .map (some (W1.heap.size + 6)), .func (.func 21) #[] #[]] 69 (0, 0)) := by rw [← hz3]; exact heap_alloc_new _ _
  have hK4 := K3.ext' hx4
  have hax := K3.aside (b := W1.heap.size + 6 + 1) (by omega) (blk_lt hb4)
  have hG1 := hG.ext hx1
  have hk8 := kN_8 hT.1.small
  generalize W3.alloc (.cells #[.pointer (some ⟨W1.heap.size + 1 + 1 + 1 + 1 + 1, 0, none⟩), .map (some (W1.heap.size + 6)), .func (.func 21) #[] #[]] 69) = W4 at *
  generalize W1.heap.size + 6 + 1 = px at *
  generalize W1.heap.size + 6 = kb at *
  obtain ⟨h, hh⟩ : ∃ h, h = W1.heap.size := ⟨_, rfl⟩
  rw [← hh] at hK4 hax hb4 hf1W ⊢
  generalize h + 1 + 1 + 1 + 1 + 1 = pp at *
  clear hp2 hmaps hz2 hz3 K3 hpool hkbB hx3 hx4 hE3 hx2 hmm
  have b0 := cell_of_row W4 px 0 _ _ _ hb4
  have b1 := cell_of_row W4 px 1 _ _ _ hb4
  have b2 := cell_of_row W4 px 2 _ _ _ hb4
  simp only [List.getElem?_toArray, List.getElem?_cons_succ, List.getElem?_cons_zero] at b0 b1 b2
  have hcall : ∀ W, Ext W4 W → Calls Tryz.prog 39 #[.agg #[.pointer (some ⟨pp, 0, none⟩), .map (some kb), .func (.func 21) #[] #[]], .string sb] W (GamePost W1 pp h kb pst0 0 us sg W) := fun W hW => game_any W1 pp h kb pst0 0 us sg sb W hT (hK4.ext' hW) hG1 (by simp [pst0]; omega) (by omega)
  refine wp_region_L (fun W => W.cell? ⟨px, 0, none⟩ = some (.pointer (some ⟨pp, 0, none⟩)) ∧ W.cell? ⟨px, 1, none⟩ = some (.map (some kb)) ∧ W.cell? ⟨px, 2, none⟩ = some (.func (.func 21) #[] #[])) [8, 9] rowsSolved (by kernel_rfl) ⟨by kernel_rfl, by kernel_rfl, by kernel_rfl⟩ ⟨b0, b1, b2⟩ (fun hTab hHeld => ?_)
  ((refine tkL hTab (i := 0) (v := ?v1) (by simp only [gE]; rfl) hHeld (Or.inl ⟨by rfl, ?hy1⟩) ?r1; case hy1 => (intro w' hSw; (try dsimp only at hSw); go_simp; (try with_reducible rfl))); (try simp only [Act.put, nE]); (refine tkL hTab (i := 1) (v := ?v2) (by simp only [gE]; rfl) hHeld (Or.inl ⟨by rfl, ?hy2⟩) ?r2; case hy2 => (intro w' hSw; (try dsimp only at hSw); go_simp; (try with_reducible rfl))); (try simp only [Act.put, nE]); (refine tkL hTab (i := 2) (v := ?v3) (by simp only [gE]; rfl) hHeld (Or.inl ⟨by rfl, ?hy3⟩) ?r3; case hy3 => (intro w' hSw; (try dsimp only at hSw); go_simp; (try with_reducible rfl))); (try simp only [Act.put, nE]); (refine tkL hTab (i := 3) (v := ?v4) (by simp only [gE]; rfl) hHeld (Or.inl ⟨by rfl, ?hy4⟩) ?r4; case hy4 => (intro w' hSw; (try dsimp only at hSw); go_simp; (try with_reducible rfl))); (try simp only [Act.put, nE]))
  (refine wpAnyL_step hTab (i := 4) (o := _) (by kernel_rfl) (by simp only [gE]; rfl) (fun K hK => ?_); go_simp)
  refine (hcall _ (rd_ext ⟨1, rfl⟩)).mono ?_
  rintro e5 w5 ⟨s5, m5, i, rfl, K5, G5, hi5, hc5, he5, -, -⟩
  have hxd : Ext W4 (W4.drewN 1) := rd_ext ⟨1, rfl⟩
  have hb5 := ((((hax.go (GGo.ext hxd)).1).go G5).2.trans (hax.go (GGo.ext hxd)).2).trans hb4
  have d0 := cell_of_row w5 px 0 _ _ _ hb5
  have d1 := cell_of_row w5 px 1 _ _ _ hb5
  have d2 := cell_of_row w5 px 2 _ _ _ hb5
  simp only [List.getElem?_toArray, List.getElem?_cons_succ, List.getElem?_cons_zero] at d0 d1 d2
  (refine hK.out _ _ (fun _ => ?_) ?_)
  · exact ⟨d0, d1, d2⟩
  clear hK K
  (try simp only [Act.put, nE])
  (refine wpAnyL_step hTab (i := 5) (o := _) (by kernel_rfl) (by simp only [gE]; rfl) (fun K hK => ?_); go_simp)
  refine (pform_any pp h s5 i w5 K5.pool hi5).mono ?_
  rintro e6 w6 ⟨F, vN, Fr, ok, sl, rfl, hF1, hF2, hok, hFr, hFO, hx6⟩
  obtain ⟨aN, cN, rfl⟩ := hFO.top
  have HOK := Lib.hid (And.intro hok hFr)
  clear hok hFr
  have hS6 : w6.cell? ⟨px, 0, none⟩ = some (.pointer (some ⟨pp, 0, none⟩)) ∧ w6.cell? ⟨px, 1, none⟩ = some (.map (some kb)) ∧ w6.cell? ⟨px, 2, none⟩ = some (.func (.func 21) #[] #[]) := ⟨(hx6.cell (lt_of_cell d0)).trans d0, (hx6.cell (lt_of_cell d1)).trans d1, (hx6.cell (lt_of_cell d2)).trans d2⟩
  (refine hK.out _ _ (fun _ => ?_) ?_)
  · exact hS6
  clear hK K
  (try simp only [Act.put, nE])
  clear hHeld
  have hHeld := hS6
  ((refine tkL hTab (i := 6) (v := ?v5) (by simp only [gE]; rfl) hHeld (Or.inl ⟨by rfl, ?hy5⟩) ?r5; case hy5 => (intro w' hSw; (try dsimp only at hSw); go_simp; (try with_reducible rfl))); (try simp only [Act.put, nE]); (refine tkL hTab (i := 7) (v := ?v6) (by simp only [gE]; rfl) hHeld (Or.inl ⟨by rfl, ?hy6⟩) ?r6; case hy6 => (intro w' hSw; (try dsimp only at hSw); go_simp; (try with_reducible rfl))); (try simp only [Act.put, nE]))
  refine wpAnyL_tail hTab [8, 9] [?o7_8, ?o7_9] _ _ _ _ (by simp) (by kernel_rfl) (by rfl) (by simp only [List.map_cons, List.map_nil, gE]; rfl) ?_
  have hE6 := ext_trans K5.ext hx6
  have hbf := (hE6.block f1 (by omega)).trans hb1
  have hsz5 := K5.ext.size
  have c0 := cell_of_row w6 f1 0 _ _ _ hbf
  have q0 := frozen_of_row w6 f1 0 _ _ hbf
  have HW := Lib.hid (heap_setCell_same w6 f1 0 _ _ (.slice aN Fr.length cN) hbf)
  have HEr := Lib.hid ((ext_trans hx1 hE6).setCell (p := ⟨f1, 0, none⟩) (by show w.heap.size ≤ f1; omega) (.slice aN Fr.length cN))
  have HFO := Lib.hid ((hFO.keepG (keep_set (p := ⟨f1, 0, none⟩) (v := .slice aN Fr.length cN)) (fun b hb => by subst hb; omega)).lower (show f1 ≤ w5.heap.size by omega))
  have HV := Lib.hid (show TreeVal F us sg from ⟨hF1, _, hF2, hc5, he5⟩)
  clear hTab hHeld d0 d1 d2 b0 b1 b2 hS6 hFO hF1 hF2 hc5 he5 hcall hb5 hax K5 G5 hK4
  go_wp2
  (try simp only [Exit.inBlock, Exit.then])
  refine bodyPost_ret (results_row_tmp rfl _ _ f1 28 #[.slice aN Fr.length cN] (0, 0) _ rfl HW.out Tryz.underlying28 rfl (by kernel_rfl) rfl) rfl ?_
  exact ⟨F, _, Fr, ok, sl, rfl, HV.out, HOK.out.1, HOK.out.2, by rw [hf1]; exact HFO.out, HEr.out⟩

end Go.Proofs.YtjkdanmpihildaaGreatDoor

namespace Go.Proofs.YtjkdanmpihildaaGreatDoor
open Go.RowKit

theorem dw_all {p : UInt8 → Bool} : ∀ {L : List UInt8}, (∀ x, x ∈ L.dropWhile p → p x = true) → ∀ x, x ∈ L → p x = true
  | [], _, x, hx => by cases hx
  | a :: t, h, x, hx => by
    cases ha : p a with
    | true =>
      rw [List.dropWhile_cons_of_pos ha] at h
      rcases List.mem_cons.1 hx with rfl | hx
      · exact ha
      · exact dw_all h x hx
    | false =>
      rw [List.dropWhile_cons_of_neg (by simp [ha])] at h
      exact h x hx
theorem dw_nil {p : UInt8 → Bool} : ∀ {L : List UInt8}, (∀ x, x ∈ L → p x = true) → L.dropWhile p = []
  | [], _ => rfl
  | a :: t, h => by rw [List.dropWhile_cons_of_pos (h a (by simp))]; exact dw_nil fun x hx => h x (by simp [hx])
theorem trimS_nil (l cs : List UInt8) : Lib.trimS l cs = [] ↔ ∀ c, c ∈ l → cs.contains c = true := by
  unfold Lib.trimS Lib.trimLeftS Lib.trimRightS
  constructor
  · intro h
    have h1 : ∀ c, c ∈ (l.reverse.dropWhile (cs.contains ·)) → cs.contains c = true := fun c hc => by
      refine dw_all (L := (l.reverse.dropWhile (cs.contains ·)).reverse) (p := (cs.contains ·)) (fun x hx => by rw [h] at hx; cases hx) c (by simpa using hc)
    exact fun c hc => dw_all h1 c (by simpa using hc)
  · intro h
    rw [dw_nil (L := l.reverse) fun c hc => h c (by simpa using hc)]; rfl

def marksB (s : ByteArray) : Bool := decide (∀ i (h : i < s.size), isSign s[i] = true)
theorem info_set : (Tryz.prog.info? 116).map (fun i => (i.zero, i.size)) = some (some (.agg (Array.replicate 256 (.bool false))), 256) := by kernel_rfl
theorem marks_trim (s : ByteArray) : ((Lib.trimS s.data.toList [76, 82]) == []) = marksB s := by
  unfold marksB
  rw [Bool.eq_iff_iff, beq_iff_eq, decide_eq_true_iff, trimS_nil]
  constructor
  · intro h i hi
    have hm : s[i] ∈ s.data.toList := by rw [Array.mem_toList_iff]; exact Array.getElem_mem (xs := s.data) hi
    have := h _ hm
    simp at this
    unfold isSign
    rcases this with h | h <;> rw [h] <;> rfl
  · intro h c hc
    obtain ⟨i, hi, rfl⟩ := List.mem_iff_getElem.1 hc
    have := h i (by simpa using hi)
    have e : s.data.toList[i] = s[i]'(by simpa using hi) := by simp; rfl
    rw [e]
    unfold isSign at this
    simp at this ⊢
    exact this

set_option maxHeartbeats 2000000 in
theorem areMarks_any (s : ByteArray) (w : World) (hs : s.size ≤ 2000000) : Calls Tryz.prog 36 #[.string s] w fun e w' => e = .returned (.bool (marksB s)) ∧ Ext w w' := by
  have hm := marks_trim s
  have ha : ∀ (j : Nat) b, (⟨#[76, 82]⟩ : ByteArray).data.toList[j]? = some b → b.toNat < 128 := by
    intro j b h
    have := List.mem_of_getElem? h
    simp at this
    rcases this with rfl | rfl <;> decide
  have hsz2 : (⟨#[76, 82]⟩ : ByteArray).size < 4294967281 := by decide
  have hsz1 : s.size ≤ 9223372036854775807 := by omega
  go_enter Tryz.func36, Tryz.ntmps36
  go_wp2_with (go_at_call 55; refine (Tryz.strings_Trim_laid s ⟨#[76, 82]⟩ _ info_set hsz1 hsz2 ha).mono ?_; rintro e w1 ⟨rfl, hx1⟩)
  go_ret
  refine ⟨ret_bool ?_, hx1⟩
  rw [← hm]

set_option maxHeartbeats 2000000 in
theorem pGood_any (v : Value) (us : List Int) (s : ByteArray) (w : World) (hv : Ints w v us) (hs : s.size ≤ 2000000) : Calls Tryz.prog 18 #[.agg #[v, .string s]] w fun e w' => e = .returned (.bool (goodT us s)) ∧ Ext w w' := by
  obtain ⟨a, cap, rfl, hcap, hml, hcells⟩ := hv
  have hxb : Ext w (w.alloc (.cells #[.slice a us.length cap, .string s] 31)) := by go_grown
  have hbb := heap_alloc_new w (.cells #[.slice a us.length cap, .string s] 31)
  by_cases h8 : (8 : Int) < ((us.length : Nat) : Int)
  · have HL := Lib.hid h8
    go_enter Tryz.func18, Tryz.ntmps18
    go_wp2
    go_ret
    refine ⟨ret_bool ?_, hxb⟩
    have h8 := HL.out
    by_cases hl : us.length = s.size
    · have : ¬ (((s.size : Nat) : Int) ≤ 8) := by omega
      simp [goodT, signsB, this]
    · simp [goodT, hl]
  by_cases hlen : us.length = s.size
  · rw [hlen] at hxb hcap hml hcells hbb h8 ⊢
    have HLEN := Lib.hid hlen
    clear hlen
    have hdl : decide (us.length = s.size) = true := decide_eq_true HLEN.out
    have hds : decide (((s.size : Nat) : Int) ≤ 8) = true := decide_eq_true (by omega)
    have hsb : signsB s 8 = marksB s := by unfold signsB marksB; rw [hds, Bool.and_true]
    cases hsg : marksB s with
    | false =>
      go_enter Tryz.func18, Tryz.ntmps18
      go_wp2_with (go_at_call 36; refine (areMarks_any s _ hs).mono ?_; rintro e w1 ⟨he, hx1⟩; rw [hsg] at he; subst he)
      go_ret
      exact ⟨ret_bool (by simp [goodT, hsb, hsg]), ext_trans hxb hx1⟩
    | true =>
      go_enter Tryz.func18, Tryz.ntmps18
      go_wp2_with (go_at_call 36; refine (areMarks_any s _ hs).mono ?_; rintro e w1 ⟨he, hx1⟩; rw [hsg] at he; subst he; have hx2 := ext_trans hxb hx1; have c0 := cell_of_row w1 w.heap.size 0 _ _ _ ((hx1.block _ (blk_lt hbb)).trans hbb))
      generalize w.alloc (.cells #[.slice a s.size cap, .string s] 31) = W at *
      clear hx1 hbb hxb
      go_loopw [3, 4, 27] (fun _ _ ii wr => ∃ k, k ≤ s.size ∧ ii = .int .i64 ((k : Nat) : Int) ∧ wr = w1 ∧ Hid (∀ i, i < k → inB (zat us i) (-1) ((i : Int) - 1) = true)) (fun _ _ ii _ => s.size - (intOf ii).toNat)
      case atStart => exact ⟨0, Nat.zero_le _, rfl, rfl, fun i h => absurd h (by omega)⟩
      case round =>
        obtain ⟨k, hk, rfl, rfl, HP⟩ := hrel
        by_cases hlt : k < s.size
        · have h1 : ((k : Nat) : Int) < ((s.size : Nat) : Int) := by omega
          obtain ⟨b, off, rfl, hcell⟩ := hcells (by omega)
          have hck := hcell k hlt
          have hck1 := (hx2.cell (lt_of_cell hck)).trans hck
          by_cases ha : zat us k < -1
          · have HI : inB (zat us k) (-1) ((k : Int) - 1) = false := by unfold inB; rw [decide_eq_false (show ¬ (-1 ≤ zat us k) by omega)]; rfl
            have HI := Lib.hid HI
            go_wp2
            go_ret
            refine ⟨ret_bool ?_, hx2⟩
            have hd : decide (∀ i, i < us.length → inB (zat us i) (-1) ((i : Int) - 1) = true) = false := decide_eq_false (fun h => by have := h k (by rw [HLEN.out]; exact hlt); rw [HI.out] at this; cases this)
            simp [goodT, hd]
          · by_cases hb : (k : Int) ≤ zat us k
            · have HI : inB (zat us k) (-1) ((k : Int) - 1) = false := by unfold inB; rw [decide_eq_false (show ¬ (zat us k ≤ (k : Int) - 1) by omega), Bool.and_false]
              have HI := Lib.hid HI
              go_wp2
              go_ret
              refine ⟨ret_bool ?_, hx2⟩
              have hd : decide (∀ i, i < us.length → inB (zat us i) (-1) ((i : Int) - 1) = true) = false := decide_eq_false (fun h => by have := h k (by rw [HLEN.out]; exact hlt); rw [HI.out] at this; cases this)
              simp [goodT, hd]
            · have HI : inB (zat us k) (-1) ((k : Int) - 1) = true := by unfold inB; simp; omega
              have HI := Lib.hid HI
              go_wp2
              go_roundw
              case rel => exact ⟨k + 1, by omega, by go_num, by first | rfl | trivial, fun i hik => by
                by_cases e : i = k
                · subst e; exact HI.out
                · exact HP.out i (by omega)⟩
              case measure => simp [intOf]; omega
        · have h1 : ¬ (((k : Nat) : Int) < ((s.size : Nat) : Int)) := by omega
          go_wp2
          go_ret
          refine ⟨ret_bool ?_, hx2⟩
          have hd : decide (∀ i, i < us.length → inB (zat us i) (-1) ((i : Int) - 1) = true) = true := decide_eq_true (fun i hi => HP.out i (by rw [HLEN.out] at hi; omega))
          rw [goodT, hdl, hsb, hsg, hd]; rfl
  · have hne : (((us.length : Nat) : Int) != ((s.size : Nat) : Int)) = true := by simp; omega
    have hne' : ¬ (((us.length : Nat) : Int) = ((s.size : Nat) : Int)) := by omega
    have HL := Lib.hid hlen
    clear hlen
    go_enter Tryz.func18, Tryz.ntmps18
    go_wp2
    go_ret
    exact ⟨ret_bool (by simp [goodT, HL.out]), hxb⟩

end Go.Proofs.YtjkdanmpihildaaGreatDoor

namespace Go.Proofs.YtjkdanmpihildaaGreatDoor
open Go.RowKit
open Cgt (Dag Nd vl Gm Canon Eqv IsForm topOf Same)

set_option maxHeartbeats 4000000 in
set_option maxRecDepth 100000 in
theorem implTree_any (v : Value) (us : List Int) (sb : ByteArray) (w : World) (hv : Ints w v us) (hs : sb.size ≤ 1048576) (hG : Glb w) :
    Calls Tryz.prog 7 #[.agg #[v, .string sb]] w (ImplPost us sb w) := by
  obtain ⟨a, cap, rfl, hcap, hml, hcells⟩ := id hv
  have hb1 : (((w.alloc (.cells #[.slice a us.length cap, .string sb] 31)).alloc (.cells #[.slice none 0 0] 28))).heap[w.heap.size]? = some (.cells #[.slice a us.length cap, .string sb] 31 (0, 0)) := by
    rw [Below.heap_alloc _ _ _ (by simp)]; exact heap_alloc_new _ _
  have hb2 : (((w.alloc (.cells #[.slice a us.length cap, .string sb] 31)).alloc (.cells #[.slice none 0 0] 28))).heap[w.heap.size + 1]? = some (.cells #[.slice none 0 0] 28 (0, 0)) := by
    have h := heap_alloc_new (w.alloc (.cells #[.slice a us.length cap, .string sb] 31)) (.cells #[.slice none 0 0] 28); rw [World.size_alloc] at h; exact h
  have hx2 : Ext w ((w.alloc (.cells #[.slice a us.length cap, .string sb] 31)).alloc (.cells #[.slice none 0 0] 28)) := by go_grown
  cases hg : goodT us sb with
  | false =>
    go_enter Tryz.func7, Tryz.ntmps7
    go_upto_region 1 with fail
    generalize (w.alloc (.cells #[.slice a us.length cap, .string sb] 31)).alloc (.cells #[.slice none 0 0] 28) = W at *
    have c0 := cell_of_row W w.heap.size 0 _ _ _ hb1
    have c1 := cell_of_row W w.heap.size 1 _ _ _ hb1
    go_wp2_with (go_at_call 18; refine (pGood_any _ us sb _ (hv.ext hx2) (by omega)).mono ?_; rintro e w1 ⟨he, hx1⟩; rw [hg] at he; subst he; have hr1 : w1.heap[w.heap.size + 1]? = some (.cells #[.slice none 0 0] 28 (0, 0)) := (hx1.block _ (blk_lt hb2)).trans hb2; have d0 := cell_of_row w1 (w.heap.size + 1) 0 _ _ _ hr1; have f0 := frozen_of_row w1 (w.heap.size + 1) 0 _ _ hr1)
    have HH := Lib.hid (heap_setCell_same w1 (w.heap.size + 1) 0 _ _ (.slice none 0 0) hr1)
    (try simp only [Exit.inBlock, Exit.then])
    refine bodyPost_ret (results_row_tmp rfl _ _ (w.heap.size + 1) 28 #[.slice none 0 0] (0, 0) _ rfl HH.out Tryz.underlying28 rfl (by kernel_rfl) rfl) rfl ?_
    exact ⟨_, [], false, fun _ => undef, rfl, .inr ⟨hg, rfl, rfl⟩, FO.none _ _ _ _, (ext_trans hx2 hx1).setCell (p := ⟨w.heap.size + 1, 0, none⟩) (by show w.heap.size ≤ w.heap.size + 1; omega) _⟩
  | true =>
    have hGT := goodT_iff.1 hg
    go_enter Tryz.func7, Tryz.ntmps7
    go_upto_region 1 with fail
    generalize (w.alloc (.cells #[.slice a us.length cap, .string sb] 31)).alloc (.cells #[.slice none 0 0] 28) = W at *
    have c0 := cell_of_row W w.heap.size 0 _ _ _ hb1
    have c1 := cell_of_row W w.heap.size 1 _ _ _ hb1
    go_upto_region 3 with (go_at_call 18; refine (pGood_any _ us sb _ (hv.ext hx2) (by omega)).mono ?_; rintro e w1 ⟨he, hx1⟩; rw [hg] at he; subst he)
    have hE1 := ext_trans hx2 hx1
    have hq1 : w1.heap[w.heap.size]? = some (.cells #[.slice a us.length cap, .string sb] 31 (0, 0)) := (hx1.block _ (blk_lt hb1)).trans hb1
    have d0 := cell_of_row w1 w.heap.size 0 _ _ _ hq1
    have d1 := cell_of_row w1 w.heap.size 1 _ _ _ hq1
    have hzf : w.heap.size + 1 < W.heap.size := blk_lt hb2
    go_wp2_with (first
      | (go_at_call 19; refine (solved_any us sb.data.toList so w2 ⟨hGT, hso⟩ (hG.ext (ext_trans hE1 hx3))).mono ?_; rintro e w3 ⟨F, vN, Fr, ok, sl, rfl, hTV, hok, hFr, hFO, hx4⟩
         obtain ⟨aN, cN, rfl⟩ := hFO.top
         have HV := Lib.hid (And.intro hTV (And.intro hok hFr))
         have hr3 : w3.heap[w.heap.size + 1]? = some (.cells #[.slice none 0 0] 28 (0, 0)) := ((ext_trans (ext_trans hx1 hx3) hx4).block _ hzf).trans hb2
         have q0 := cell_of_row w3 (w.heap.size + 1) 0 _ _ _ hr3
         have q1 := frozen_of_row w3 (w.heap.size + 1) 0 _ _ hr3
         have HFO := Lib.hid hFO
         clear hTV hok hFr hFO)
      | (go_at_call 20; refine (text_any _ us sb _ (hv.ext hE1) hGT (hG.ext hE1).1).mono ?_; rintro e w2 ⟨so, rfl, hso, hx3⟩))
    have HW := Lib.hid (heap_setCell_same w3 (w.heap.size + 1) 0 _ _ (.slice aN Fr.length cN) hr3)
    have hz2 : w.heap.size + 1 < w2.heap.size := Nat.lt_of_lt_of_le hzf (ext_trans hx1 hx3).size
    (try simp only [Exit.inBlock, Exit.then])
    refine bodyPost_ret (results_row_tmp rfl _ _ (w.heap.size + 1) 28 #[.slice aN Fr.length cN] (0, 0) _ rfl HW.out Tryz.underlying28 rfl (by kernel_rfl) rfl) rfl ?_
    exact ⟨_, Fr, ok, sl, rfl, .inl ⟨hg, F, HV.out⟩, (HFO.out.keepG (keep_set (p := ⟨w.heap.size + 1, 0, none⟩)) (fun b hb => by subst hb; exact hz2)).lower (show w.heap.size ≤ w2.heap.size by omega), (ext_trans (ext_trans hE1 hx3) hx4).setCell (p := ⟨w.heap.size + 1, 0, none⟩) (by show w.heap.size ≤ w.heap.size + 1; omega) _⟩

end Go.Proofs.YtjkdanmpihildaaGreatDoor
