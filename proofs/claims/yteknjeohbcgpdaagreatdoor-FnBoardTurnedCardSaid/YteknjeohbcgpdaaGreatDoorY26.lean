/-
  Contract of the program's boardMoves. (2 texts.)
-/
import Derived.Test.YteknjeohbcgpdaaGreatDoorY16
import Derived.Test.YteknjeohbcgpdaaGreatDoorY23
import Derived.Test.YteknjeohbcgpdaaGreatDoorY24
import Derived.Test.YteknjeohbcgpdaaGreatDoorY25
import Derived.Lib.OthersKept
import Derived.WalkSmall
set_option maxRecDepth 100000
namespace Go.Proofs.YteknjeohbcgpdaaGreatDoor
section
open Go.RowKit
open Cgt (Brd GB txtB fr plc setc nxr nxc can mRow mAll)

theorem isF_nat (b : Brd) (r c : Nat) : isF b ((r : Nat) : Int) ((c : Nat) : Int) = fr b r c := by unfold isF; simp
theorem isF_r1 (b : Brd) (r c : Nat) : isF b (((r : Nat) : Int) + 1) ((c : Nat) : Int) = fr b (r + 1) c := by
  have := isF_nat b (r + 1) c; rw [← this]; congr 1
theorem isF_c1 (b : Brd) (r c : Nat) : isF b ((r : Nat) : Int) (((c : Nat) : Int) + 1) = fr b r (c + 1) := by
  have := isF_nat b r (c + 1); rw [← this]; congr 1
theorem ascii_row {b : Brd} {hh ww : Nat} (g : GB b hh ww) {r : List UInt8} (hr : r ∈ b) {c : UInt8} (hc : c ∈ r) : c.toNat < 128 := by
  rcases (g.row r hr).2 c hc with e | e <;> rw [e] <;> decide

structure PmM (w wr : World) (kI : Nat) (bx ov : Value) (xs : List Value) (bs : List Brd) : Prop where
  b0 : wr.heap[w.heap.size]? = some (.cells #[bx] 31 (0, 0))
  own : wr.ownsRow (w.heap.size + 1) 31 1 ov bs.length xs
  it : ∃ S : Nat → Prop, Items BrdR S 1 xs bs wr ∧ ∀ b, S b → w.heap.size + 1 ≤ b ∧ ov.ownBlock ≠ some b ∧ b ≠ kI
  nk : ov.ownBlock ≠ some kI
  ext : Ext w wr
section
variable {w wr w2 : World} {kI : Nat} {bx ov : Value} {xs : List Value} {bs : List Brd}
theorem PmM.ext' (m : PmM w wr kI bx ov xs bs) (hx : Ext wr w2) : PmM w w2 kI bx ov xs bs := by
  obtain ⟨S, h1, h2⟩ := m.it
  exact ⟨(hx.block _ (blk_lt m.b0)).trans m.b0, own_keep m.own hx, ⟨S, h1.ext hx, h2⟩, m.nk, ext_trans m.ext hx⟩
theorem PmM.step (m : PmM w wr kI bx ov xs bs) (hk : w.heap.size < kI) (s : ByteArray) (p : Nat) : PmM w (wr.iterAt kI s p) kI bx ov xs bs := by
  have h : Keep (fun b => b = kI) wr (wr.iterAt kI s p) := ⟨rfl, rfl, rfl, by rw [Lib.iterAt_size]; exact Nat.le_refl _, fun k _ hn => Lib.iterAt_other wr kI k s p hn⟩
  obtain ⟨S, h1, h2⟩ := m.it
  exact ⟨(h.block _ (blk_lt m.b0) (by omega)).trans m.b0, own_keepG m.own h (fun b hb e => m.nk (by rw [← e]; exact hb)), ⟨S, h1.keep h (fun b hb e => (h2 b hb).2.2 e), h2⟩, m.nk, Lib.below_iterAt m.ext (Nat.le_of_lt hk) s p⟩

theorem PmM.start (m : PmM w wr kI bx ov xs bs) (s : ByteArray) : PmM w (wr.iter s 0) wr.heap.size bx ov xs bs := by
  have hx : Ext wr (wr.iter s 0) := ext_alloc (Below.refl _ _) _
  obtain ⟨S, h1, h2⟩ := (m.ext' hx).it
  obtain ⟨S0, h3, h4⟩ := m.it
  refine ⟨(m.ext' hx).b0, (m.ext' hx).own, ⟨S0, h3.ext hx, fun b hb => ⟨(h4 b hb).1, (h4 b hb).2.1, fun e => by have := h3.2.1 b hb; omega⟩⟩, fun e => by have := (m.own.lt _ e).2; omega, (m.ext' hx).ext⟩
theorem PmM.stop (m : PmM w wr kI bx ov xs bs) : PmM w wr w.heap.size bx ov xs bs := by
  obtain ⟨S, h1, h2⟩ := m.it
  exact ⟨m.b0, m.own, ⟨S, h1, fun b hb => ⟨(h2 b hb).1, (h2 b hb).2.1, fun e => by have := (h2 b hb).1; omega⟩⟩, fun e => by have := (m.own.lt _ e).1; omega, m.ext⟩
theorem PmM.push {w4 w5 : World} {v' v5 : Value} {ss' : List ByteArray} {y : Brd} {X : Obj} (m : PmM w wr kI bx ov xs bs) (hk : kI < wr.heap.size) (hx : Ext wr w4)
    (hr : w4.ownsRow wr.heap.size 9 1 v' ss'.length (ss'.map Value.string)) (hy : bd ss' = y) (h8 : ss'.length ≤ 8)
    (ho : w5.ownsRow (w.heap.size + 1) 31 1 v5 (bs.length + 1) (xs ++ [v'])) (hg : (w4.alloc X).grownBy w5 ov.ownBlock) (hl : Lies (w4.alloc X) ov v5) : PmM w w5 kI bx v5 (xs ++ [v']) (bs ++ [y]) := by
  have hz : (w4.alloc X).heap.size = w4.heap.size + 1 := World.size_alloc _ _
  have z4 := hx.size
  have zg := hg.size
  have z0 := m.ext.size
  have zb := blk_lt m.b0
  obtain ⟨S, h1, h2⟩ := m.it
  obtain ⟨a, c, rfl, -, -⟩ := own_len hr
  have hkp : Keep (fun b => ov.ownBlock = some b) wr w5 := ⟨hg.os.trans hx.os, hg.tape.trans hx.tape, hg.output.trans hx.output, by omega, fun b hb hn => by
      rw [hg.block b (by omega) (fun e => hn e.symm), Below.heap_alloc _ _ _ (by omega), hx.block b hb]⟩
  have hn : Sup (fun b => wr.heap.size ≤ b ∧ b < w4.heap.size) (fun W => BrdR W [.slice a (List.length ss') c] y) w4 := ⟨fun b hb => hb.2, fun W hW => ⟨a, c, ss', rfl, by
    have : Strs w4 (.slice a ss'.length c) ss' := Strs.of_own hr (by omega)
    exact Vals.keep this fun b _ hb => hW b ⟨(hr.lt b hb).1, (hr.lt b hb).2⟩, hy⟩⟩
  have hk4 : Keep (fun b => ov.ownBlock = some b) w4 w5 := ⟨hg.os, hg.tape, hg.output, by omega, fun b hb hn => by rw [hg.block b (by omega) (fun e => hn e.symm), Below.heap_alloc _ _ _ hb]⟩
  have hn5 := hn.keep hk4 (fun b hb e => by have := (m.own.lt b e).2; omega)
  have hT : ∀ b, S b ∨ (wr.heap.size ≤ b ∧ b < w4.heap.size) → b < w5.heap.size := fun b hb => hb.elim (fun k => by have := h1.2.1 b k; omega) (fun k => by omega)
  have hov : ∀ b, b < w4.heap.size → v5.ownBlock = some b → ov.ownBlock = some b := fun b hb e => by
    rcases hl with k | ⟨q, k, k2⟩
    · rw [← k]; exact e
    · rw [k] at e; injection e with e; omega
  refine ⟨(hkp.block _ (blk_lt m.b0) (fun e => by have := (m.own.lt _ e).1; omega)).trans m.b0, by rw [List.length_append]; exact ho, ⟨fun b => S b ∨ (wr.heap.size ≤ b ∧ b < w4.heap.size), ?_, fun b hb => ?_⟩, fun e => m.nk (hov _ (by omega) e), ext_keepF m.ext hkp fun b e => by have := (m.own.lt b e).1; omega⟩
  · exact ((h1.keep hkp (fun b hb e => (h2 b hb).2.1 e)).mono (fun b hb => .inl hb) hT).snoc rfl (hn5.mono (fun b hb => .inr hb) hT (fun _ h => h))
  · rcases hb with hb | hb
    · exact ⟨(h2 b hb).1, fun e => (h2 b hb).2.1 (hov b (by have := h1.2.1 b hb; omega) e), (h2 b hb).2.2⟩
    · exact ⟨by omega, fun e => by have := (m.own.lt b (hov b hb.2 e)).2; omega, by omega⟩
end

theorem it_lt {w : World} {k : Nat} {s : ByteArray} {p : Nat} (h : w.heap[k]? = some (.stringIter s p)) : k < w.heap.size := (Array.getElem?_eq_some_iff.1 h).1
theorem it_push {w wr w4 w5 : World} {kI : Nat} {bx ov : Value} {xs : List Value} {bs : List Brd} {s : ByteArray} {p : Nat} {X : Obj} (m : PmM w wr kI bx ov xs bs) (h : wr.heap[kI]? = some (.stringIter s p)) (hx : Ext wr w4) (hg : (w4.alloc X).grownBy w5 ov.ownBlock) : w5.heap[kI]? = some (.stringIter s p) := by
  have h1 := it_lt h
  have h2 := hx.size
  rw [hg.block _ (by rw [World.size_alloc]; omega) (fun e => m.nk e.symm), Below.heap_alloc _ _ _ (by omega), hx.block _ h1]; exact h

theorem isF_t {lf : Bool} (h : lf = true) {b : Brd} {r c : Nat} : isF b (((r : Nat) : Int) + 1) ((c : Nat) : Int) = fr b (nxr lf r) (nxc lf c) := by subst h; exact isF_r1 b r c
theorem isF_f {lf : Bool} (h : lf = false) {b : Brd} {r c : Nat} : isF b ((r : Nat) : Int) (((c : Nat) : Int) + 1) = fr b (nxr lf r) (nxc lf c) := by subst h; exact isF_c1 b r c
theorem placed_to {lf left : Bool} (hl : lf = left) (v : Value) (ss : List ByteArray) (hh ww r c : Nat) (w : World) (h : Strs w v ss) (g : GB (bd ss) hh ww) (hc : can lf (fr (bd ss)) r c = true) :
    Calls Tryz.prog 150 #[.agg #[v], .int .i64 ((r : Nat) : Int), .int .i64 ((c : Nat) : Int), .bool left] w fun e w' => ∃ v' ss', e = .returned (.agg #[v']) ∧ w'.ownsRow w.heap.size 9 1 v' ss'.length (ss'.map Value.string) ∧ bd ss' = plc lf (bd ss) r c ∧ Ext w w' := by
  subst hl; exact placed_any v ss hh ww r c lf w h g hc

set_option maxHeartbeats 4000000 in
theorem moves_to (v : Value) (ss : List ByteArray) (hh ww : Nat) (left lf : Bool) (hlf : lf = left) (w : World) (h : Strs w v ss) (g : GB (bd ss) hh ww) :
    Calls Tryz.prog 87 #[.agg #[v], .bool left] w (MovesP lf (bd ss) hh ww w) := by
  have HLF := Lib.hid hlf
  clear hlf
  obtain ⟨i0, hi0, hz0', hz1', hz2'⟩ := info_parts info_form1
  obtain ⟨a, cap, rfl, hcap, hml⟩ := h.open
  have hh8 := g.h1
  have hw8 := g.w1
  have hlen : ss.length = hh := gb_len g
  have HG := Lib.hid g
  have HSZ : Hid (∀ s, s ∈ ss → s.size = ww) := Lib.hid fun s hs => by
    obtain ⟨i, hi, rfl⟩ := List.mem_iff_getElem.1 hs
    exact gb_row g hi
  have HLEN := Lib.hid hlen
  have HLEN8 : Hid (ss.length ≤ 8) := Lib.hid (by omega)
  have hfr : ∀ W, Ext w W → ∀ r c : Int, (-100 ≤ r ∧ r ≤ 100) → (-100 ≤ c ∧ c ≤ 100) → Calls Tryz.prog 109 #[.agg #[.slice a ss.length cap], .int .i64 r, .int .i64 c] W fun e w' => e = .returned (.bool (isF (bd ss) r c)) ∧ Ext W w' := fun W hW r c hr hc => free_any _ ss hh ww r c W (h.ext hW) g hr hc
  have HASC : Hid (∀ i (hi : i < ss.length) k (hk : k < (ss[i]).size), ((ss[i])[k]).toNat < 128) := Lib.hid fun i hi k hk => by
    refine ascii_row g (r := bdr ss[i]) (List.mem_map.2 ⟨ss[i], List.getElem_mem hi, rfl⟩) ?_
    exact Array.getElem_mem_toList ..
  have hM0 : PmM w (((w.alloc (.cells #[.slice a ss.length cap] 31)).alloc (.cells #[] 31))) w.heap.size (.slice a ss.length cap) (.slice (some ⟨w.heap.size + 1, 0, none⟩) 0 0) [] [] := by
    have hr0 := World.ownsRow_made (w.alloc (.cells #[.slice a ss.length cap] 31)) (base := w.heap.size + 1) (e := 31) (size := 1) #[] 0 (by rw [World.size_alloc]; omega) (by decide) (by simp)
    rw [World.size_alloc] at hr0
    refine ⟨?_, hr0, ⟨fun _ => False, Items.nil fun b hb => hb.elim, fun b hb => hb.elim⟩, by simp [Value.ownBlock], by go_grown⟩
    rw [Below.heap_alloc _ _ _ (by simp)]; exact heap_alloc_new _ _
  clear hlen g
  go_enter Tryz.func87, Tryz.ntmps87
  go_upto_region 2 with fail
  generalize ((w.alloc (.cells #[.slice a ss.length cap] 31)).alloc (.cells #[] 31)) = We at *
  have c0 := cell_of_row We w.heap.size 0 _ _ _ hM0.b0
  simp only [gE] at c0
  go_wp2
  go_loopw [5, 6, 7, 12] (fun ov _ _ ii wr => ∃ (i : Nat) (xs : List Value) (bs : List Brd), ii = .int .i64 ((i : Nat) : Int) ∧ i ≤ ss.length ∧ PmM w wr w.heap.size (.slice a ss.length cap) ov xs bs ∧ Hid (bs = mAll lf (bd ss) ww i)) (fun _ _ _ ii _ => ss.length - (intOf ii).toNat)
  case atStart => exact ⟨0, [], [], rfl, Nat.zero_le _, hM0, Lib.hid rfl⟩
  case round =>
    clear hM0 c0
    obtain ⟨i, xs, bs, rfl, hi, hM, HBS⟩ := hrel
    by_cases hlt : i < ss.length
    · have hil : ((i : Nat) : Int) < ((ss.length : Nat) : Int) := by omega
      have HLT := Lib.hid hlt
      obtain ⟨b, off, rfl, hcl⟩ := (h.ext hM.ext).at hlt
      have ci := hcl i hlt
      have cb := cell_of_row wr w.heap.size 0 _ _ _ hM.b0
      simp only [gE] at cb
      have hsi := HSZ.out _ (List.getElem_mem HLT.out)
      obtain ⟨si, esi⟩ : ∃ si : ByteArray, ss[i]'(HLT.out) = si := ⟨_, rfl⟩
      have hasc : ∀ k (hk : k < si.size), (si[k]).toNat < 128 := by subst esi; exact HASC.out i HLT.out
      rw [esi] at ci hsi
      have HM := Lib.hid hM
      have HSI := Lib.hid hsi
      have hss8 : si.size ≤ 8 := by omega
      have HAS := Lib.hid hasc
      clear hM hlt hcl esi hsi hasc
      go_upto_region 6 with fail
      cases left
      all_goals
        have hst := HM.out.start si
        have hit := World.iter_heap wr si 0
        have hkI : w.heap.size < wr.heap.size := blk_lt HM.out.b0
        clear HM cb ci
        generalize wr.iter si 0 = W0 at *
        generalize wr.heap.size = kI at *
        go_loopw [5, 7] (fun ov _ w3 => ∃ (k : Nat) (xs : List Value) (bs : List Brd), k ≤ si.size ∧ PmM w w3 kI (.slice (some ⟨b, off, none⟩) ss.length cap) ov xs bs ∧ w3.heap[kI]? = some (.stringIter si k) ∧ Hid (bs = mAll lf (bd ss) ww i ++ mRow lf (bd ss) i k)) (fun _ _ w3 => si.size - w3.iterPos kI)
        case atStart => exact ⟨0, xs, bs, Nat.zero_le _, hst, hit, Lib.hid (by rw [HBS.out]; simp [mRow])⟩
        case round =>
          clear hst hit HBS
          obtain ⟨k, xs, bs, hk, hM, hit, HBS⟩ := hrel
          have HPOS := Lib.hid (iterPos_of hit)
          by_cases hkl : k < si.size
          · have HKL := Lib.hid hkl
            obtain ⟨rn, hnx⟩ : ∃ rn : Int, ∀ ty, (Instr.next (.pointer (some ⟨kI, 0, none⟩)) true ty).run Tryz.prog wr = .ok (.tuple #[.bool true, .int .i64 ((k : Nat) : Int), .int .i32 rn]) (wr.iterAt kI si (k + 1)) := ⟨_, fun ty => Lib.run_next_ascii_at (P := Tryz.prog) wr kI si k ty hit hkl (HAS.out k hkl)⟩
            have hMs := hM.step hkI si (k + 1)
            have hit2 := Lib.iterAt_heap wr kI si k (k + 1) hit
            clear hM hit
            go_upto_region 8 with fail
            clear hnx hkl
            generalize wr.iterAt kI si (k + 1) = W1 at *
            have cb := cell_of_row W1 w.heap.size 0 _ _ _ hMs.b0
            simp only [gE] at cb
            have hE1 := hMs.ext
            have hi8 := HLEN8.out
            have HIT := Lib.hid hit2
            have HMS := Lib.hid hMs
            clear hMs hit2
            cases hf0 : fr (bd ss) i k with
            | false =>
              have HN := Lib.hid (mRow_no (left := lf) (b := bd ss) (r := i) (k := k) (by unfold can; rw [hf0]; rfl))
              go_wp2_with (go_at_call 109; refine (hfr _ hE1 _ _ (by omega) (by omega)).mono ?_; rintro e w2 ⟨he, hx2⟩; rw [isF_nat, hf0] at he; subst he)
              go_roundw
              case rel => exact ⟨k + 1, xs, bs, HKL.out, HMS.out.ext' hx2, (hx2.block _ (it_lt HIT.out)).trans HIT.out, Lib.hid (by rw [HBS.out, HN.out])⟩
              case measure => have := iterPos_of ((hx2.block _ (it_lt HIT.out)).trans HIT.out); have := HPOS.out; have := HKL.out; omega
            | true =>
              cases hf1 : fr (bd ss) (nxr lf i) (nxc lf k) with
              | false =>
                have HN := Lib.hid (mRow_no (left := lf) (b := bd ss) (r := i) (k := k) (by unfold can; rw [hf0, Bool.true_and]; exact hf1))
                go_wp2_with (first
                  | (go_at_call 109; refine (hfr _ (ext_trans hE1 hx2) _ _ (by omega) (by omega)).mono ?_; rintro e w2b ⟨he, hx3⟩; (first | rw [isF_t HLF.out, hf1] at he | rw [isF_f HLF.out, hf1] at he); subst he)
                  | (go_at_call 109; refine (hfr _ hE1 _ _ (by omega) (by omega)).mono ?_; rintro e w2 ⟨he, hx2⟩; rw [isF_nat, hf0] at he; subst he; have cb2 := (hx2.cell (lt_of_cell cb)).trans cb))
                go_roundw
                case rel => exact ⟨k + 1, xs, bs, HKL.out, HMS.out.ext' (ext_trans hx2 hx3), ((ext_trans hx2 hx3).block _ (it_lt HIT.out)).trans HIT.out, Lib.hid (by rw [HBS.out, HN.out])⟩
                case measure => have := iterPos_of (((ext_trans hx2 hx3).block _ (it_lt HIT.out)).trans HIT.out); have := HPOS.out; have := HKL.out; omega
              | true =>
                have hcan : can lf (fr (bd ss)) i k = true := by unfold can; rw [hf0, Bool.true_and]; exact hf1
                have HN := Lib.hid (mRow_yes (left := lf) (b := bd ss) (r := i) (k := k) hcan)
                go_upto_region 9 with (first
                  | (go_at_call 109; refine (hfr _ (ext_trans hE1 hx2) _ _ (by omega) (by omega)).mono ?_; rintro e w2b ⟨he, hx3⟩; (first | rw [isF_t HLF.out, hf1] at he | rw [isF_f HLF.out, hf1] at he); subst he)
                  | (go_at_call 109; refine (hfr _ hE1 _ _ (by omega) (by omega)).mono ?_; rintro e w2 ⟨he, hx2⟩; rw [isF_nat, hf0] at he; subst he; have cb2 := (hx2.cell (lt_of_cell cb)).trans cb))
                have hM3 := HMS.out.ext' (ext_trans hx2 hx3)
                have hit3 := ((ext_trans hx2 hx3).block _ (it_lt HIT.out)).trans HIT.out
                have hkl3 := it_lt hit3
                have cb3 := cell_of_row w2b w.heap.size 0 _ _ _ hM3.b0
                simp only [gE] at cb3
                have hpl := placed_to HLF.out (.slice (some ⟨b, off, none⟩) ss.length cap) ss hh ww i k w2b (h.ext hM3.ext) HG.out hcan
                obtain ⟨ao, co, rfl, -, -⟩ := own_len hM3.own
                have ho3 := hM3.own
                have hz3 := hM3.ext.size
                have hbl : bs.length ≤ 100 := by
                  rw [HBS.out, List.length_append]
                  have l1 := Cgt.mAll_len lf (bd ss) ww i
                  have l2 := Cgt.mRow_len lf (bd ss) i k
                  have l3 := Nat.mul_le_mul (show i ≤ 8 by omega) hw8.2
                  omega
                have HM3 := Lib.hid (And.intro hM3 (And.intro hit3 hkl3))
                clear hM3 hit3 hkl3 hx2 hx3 cb cb2 hE1 hf0 hf1 hcan
                generalize hW2 : w2b = W2 at *
                clear hW2
                go_wp2_with (first
                  | (at_builtin; refine app_list rfl (.tmp 49) (.tmp 55) 57 rfl (w.heap.size + 1) 31 i0 (.agg #[.slice none 0 0]) 1 24 Tryz.underlying57 hi0 hz0' hz1' hz2' rfl (by decide) (.slice ao bs.length co) bs.length xs rfl (ho4.alloc _) _ 1 _ [.slice ab sb.length cb4] rfl rfl (.inr ⟨_, rfl, one_src (new_cell _ _ _)⟩) one_slice (by unfold maxLen; omega) (by omega) (by rw [World.size_alloc]; omega) ?_; intro v6 w6 ho6 hg6 hl6)
                  | (go_at_call 150; refine hpl.mono ?_; rintro e w4 ⟨v4, sb, rfl, ho4r, hb4, hx4⟩; obtain ⟨ab, cb4, rfl, -, -⟩ := own_len ho4r; have ho4 := own_keep ho3 hx4; have hz4 := hx4.size))
                go_roundw
                case rel => exact ⟨k + 1, _, _, HKL.out, HM3.out.1.push HM3.out.2.2 hx4 ho4r rfl (by have := congrArg List.length hb4; rw [bd_len, plc_len, bd_len] at this; omega) ho6 hg6 hl6, it_push HM3.out.1 HM3.out.2.1 hx4 hg6, Lib.hid (by rw [HBS.out, HN.out, List.append_assoc, hb4])⟩
                case measure => have := iterPos_of (it_push HM3.out.1 HM3.out.2.1 hx4 hg6); have := HPOS.out; have := HKL.out; omega
          · have hkw : k = ww := by have := HSI.out; omega
            have hnx := fun ty => Lib.run_next_end_at (P := Tryz.prog) wr kI si k ty hit hkl
            have HBS2 : Hid (bs = mAll lf (bd ss) ww (i + 1)) := Lib.hid (by rw [HBS.out, Cgt.mAll_succ, hkw])
            have HMX := Lib.hid hM.stop
            clear hM HBS hkw
            go_wp2
            go_roundw
            case rel => exact ⟨i + 1, xs, bs, by go_num, HLT.out, HMX.out, HBS2⟩
            case measure => have := HLT.out; simp [intOf]; omega
    · have h1 : ¬ (((i : Nat) : Int) < ((ss.length : Nat) : Int)) := by omega
      have hie : i = hh := by have := HLEN.out; omega
      have HR : Hid (Rows BrdR 1 (fun b => w.heap.size ≤ b ∧ b < wr.heap.size) wr u5 (mAll lf (bd ss) ww hh)) := Lib.hid (by
        obtain ⟨S, s1, s2⟩ := hM.it
        rw [HBS.out, hie] at s1
        exact Rows.of_own hM.own (by rw [HBS.out, hie]) s1 (fun b hb => ⟨by have := (s2 b hb).1; omega, s1.2.1 b hb⟩) (fun b hb => ⟨by have := (hM.own.lt b hb).1; omega, (hM.own.lt b hb).2⟩) (fun b hb => hb.2))
      have HE := Lib.hid hM.ext
      clear hM hie
      go_wp2
      go_ret
      exact ⟨_, rfl, HR.out, HE.out⟩
theorem moves_any (v : Value) (ss : List ByteArray) (hh ww : Nat) (left : Bool) (w : World) (h : Strs w v ss) (g : GB (bd ss) hh ww) :
    Calls Tryz.prog 87 #[.agg #[v], .bool left] w (MovesP left (bd ss) hh ww w) := moves_to v ss hh ww left left rfl w h g
end
section
open Go.RowKit
open Cgt (Brd GB txtB fr plc setc nxr nxc can mRow mAll)

structure BmM (w w3 wr : World) (ov : Value) (out : List ByteArray) : Prop where
  keep : Keep (fun b => b = w.heap.size) w3 wr
  own : wr.ownsRow w.heap.size 9 1 ov out.length (out.map Value.string)
  sep : ∀ b, ov.ownBlock = some b → b = w.heap.size ∨ w3.heap.size ≤ b
theorem BmM.ext' {w w3 wr w2 : World} {ov : Value} {out : List ByteArray} (m : BmM w w3 wr ov out) (hx : Ext wr w2) : BmM w w3 w2 ov out :=
  ⟨m.keep.trans (keep_ext (F := fun b => b = w.heap.size) hx) (fun _ _ h => h), own_keep m.own hx, m.sep⟩
theorem BmM.ext {w w3 wr : World} {ov : Value} {out : List ByteArray} (m : BmM w w3 wr ov out) (h : Ext w w3) : Ext w wr := ext_keepF h m.keep fun x e => by omega
theorem BmM.push {w w3 wr w4 w5 : World} {ov v5 : Value} {out : List ByteArray} {X : Obj} {s : ByteArray} (m : BmM w w3 wr ov out) (hx : Ext wr w4)
    (ho : w5.ownsRow w.heap.size 9 1 v5 (out.length + 1) (out.map Value.string ++ [.string s])) (hg : (w4.alloc X).grownBy w5 ov.ownBlock) (hl : Lies (w4.alloc X) ov v5) : BmM w w3 w5 v5 (out ++ [s]) := by
  have hz : (w4.alloc X).heap.size = w4.heap.size + 1 := World.size_alloc _ _
  have z1 := m.keep.size
  have z4 := hx.size
  have zg := hg.size
  refine ⟨?_, by rw [List.map_append, List.length_append]; exact ho, fun b hb => ?_⟩
  · have hk : Keep (fun b => ov.ownBlock = some b) wr w5 := ⟨hg.os.trans hx.os, hg.tape.trans hx.tape, hg.output.trans hx.output, by omega, fun b hb hn => by
      rw [hg.block b (by omega) (fun e => hn e.symm), Below.heap_alloc _ _ _ (by omega), hx.block b hb]⟩
    exact m.keep.trans hk fun b hb e => by rcases m.sep b e with k | k; exact k; omega
  · rcases hl with e | ⟨q, e, k⟩
    · exact m.sep b (by rw [← e]; exact hb)
    · rw [e] at hb; injection hb with hb; exact .inr (by omega)
theorem mAll_gb {b : Brd} {hh ww : Nat} (g : GB b hh ww) {left : Bool} {y : Brd} (hy : y ∈ mAll left b ww hh) : GB y hh ww := by
  obtain ⟨r, c, _, rfl⟩ := (Cgt.mem_mAll g).1 hy
  exact g.plc left r c
theorem strs_row (w : World) (xs : List ByteArray) (h : xs.length ≤ 1152921504606846976) {n : Nat} (hn : n = xs.length) : Strs (w.alloc (.cells (xs.map Value.string).toArray 9)) (.slice (some ⟨w.heap.size, 0, none⟩) n n) xs := by
  subst hn
  refine ⟨_, xs.length, by rw [List.length_map], by simp, by simpa using h, fun h0 => ⟨w.heap.size, 0, rfl, fun i hi => ?_⟩⟩
  rw [Nat.zero_add, cell_of_row _ w.heap.size i _ _ (0, 0) (heap_alloc_new w _)]
  simp at hi ⊢

def BMovesPost (b : Brd) (hh ww : Nat) (left : Bool) (w : World) (e : Ending) (w' : World) : Prop :=
  ∃ (v : Value) (ss : List ByteArray), e = .returned v ∧ w'.ownsRow w.heap.size 9 1 v ss.length (ss.map Value.string) ∧ ss.map bdr = (mAll left b ww hh).map txtB ∧ Ext w w'

set_option maxHeartbeats 4000000 in
theorem bMoves_any (sb : ByteArray) (b : Brd) (hh ww : Nat) (left : Bool) (m : Int) (w : World) (g : GB b hh ww) (hb : bdr sb = txtB b) (hm : w.cell? ⟨0, 0, none⟩ = some (.int .i64 m)) :
    Calls Tryz.prog 45 #[.string sb, .bool left] w (BMovesPost b hh ww left w) := by
  obtain ⟨i0, hi0, hz0, hz1, hz2⟩ := info_parts info_stringP
  obtain ⟨hcnt, hspl⟩ := split_board g hb
  have hh8 := g.h1
  have hw8 := g.w1
  have hbl : b.length = hh := g.hgt
  have hsz : sb.size < 4294967281 := by
    have := txtB_len (b := b) fun r hr => by have := (g.row r hr).1; have := g.w1; omega
    rw [← hb, bdr_len] at this; omega
  have hm0 := lt_of_cell hm
  obtain ⟨parts, hparts⟩ : ∃ parts, parts = Lib.splitB ⟨#[47]⟩ 0 (Lib.countB sb ⟨#[47]⟩) sb := ⟨_, rfl⟩
  rw [← hparts] at hspl
  have hpl : Lib.countB sb ⟨#[47]⟩ + 1 = parts.length := by rw [hcnt, ← hspl, bd_len]
  have hr0 := World.ownsRow_made w (base := w.heap.size) (e := 9) (size := 1) #[] 0 (Nat.le_refl _) (by decide) (by simp)
  have hx1 : Ext w (w.alloc (.cells #[] 9)) := by go_grown
  have hz1w : (w.alloc (.cells #[] 9)).heap.size = w.heap.size + 1 := World.size_alloc _ _
  have hm1 := (hx1.cell (lt_of_cell hm)).trans hm
  have hst := strs_row (w.alloc (.cells #[] 9)) parts (by rw [← hpl, hcnt]; omega) hpl
  have hx2 : Ext (w.alloc (.cells #[] 9)) ((w.alloc (.cells #[] 9)).alloc (.cells (parts.map Value.string).toArray 9)) := by go_grown
  have hsplit := Tryz.strings_Split sb ⟨#[47]⟩ m (w.alloc (.cells #[] 9)) hsz hm1 (by decide)
  rw [← hparts, hz1w] at hsplit
  rw [hz1w] at hst
  have hmv := moves_any _ parts hh ww left _ hst (by rw [hspl]; exact g)
  rw [hspl] at hmv
  obtain ⟨Ts, hTs⟩ : ∃ Ts, Ts = mAll left b ww hh := ⟨_, rfl⟩
  unfold MovesP at hmv
  rw [← hTs] at hmv
  have HTS := Lib.hid hTs
  have HG := Lib.hid g
  have HTL : Hid (Ts.length ≤ 64) := Lib.hid (by
    rw [hTs]
    have hTL := Cgt.mAll_len left b ww hh
    have hTL2 := Nat.mul_le_mul hh8.2 hw8.2
    omega)
  generalize Lib.countB sb ⟨#[47]⟩ + 1 = nc at *
  clear hcnt hspl hparts hst hm hm1 hbl g hpl hsz hTs
  go_enter Tryz.func45, Tryz.ntmps45
  go_upto_region 2 with fail
  go_upto_region 3 with (first
    | (go_at_call 87; refine hmv.mono ?_; rintro e w3 ⟨vT, rfl, hRT, hx3⟩; obtain ⟨xsT, aT, cT, rfl, -, -, -⟩ := id hRT)
    | (go_at_call 72; refine hsplit.mono ?_; rintro e w2 ⟨rfl, rfl⟩))
  have hM0 : BmM w w3 w3 (.slice (some ⟨w.heap.size, 0, none⟩) 0 0) [] := ⟨keep_ext (Below.refl _ _), own_keep hr0 (ext_trans hx2 hx3), fun b hb => by simp [Value.ownBlock] at hb; exact .inl hb.symm⟩
  have HE3 := Lib.hid (ext_trans hx1 (ext_trans hx2 hx3))
  obtain ⟨SP, hSP1, hRT⟩ : ∃ SP : Nat → Prop, (∀ b, SP b → w.heap.size < b ∧ b < w3.heap.size) ∧ Rows BrdR 1 SP w3 (.slice aT Ts.length cT) Ts := ⟨_, fun b hb => ⟨by have := hb.1; have := hx2.size; omega, hb.2⟩, hRT⟩
  have HRT := Lib.hid hRT
  clear hr0 hx1 hx2 hx3 hRT hmv hsplit hz1w
  go_loopw [5, 15] (fun ov ii wr => ∃ (k : Nat) (out : List ByteArray), ii = .int .i64 ((k : Nat) : Int) ∧ k ≤ Ts.length ∧ BmM w w3 wr ov out ∧ Hid (out.map bdr = (Ts.take k).map txtB)) (fun _ ii _ => Ts.length - (intOf ii).toNat)
  case atStart => exact ⟨0, [], rfl, Nat.zero_le _, hM0, Lib.hid rfl⟩
  case round =>
    clear hM0
    obtain ⟨k, out, rfl, hk, hM, HOUT⟩ := hrel
    by_cases hlt : k < Ts.length
    · have hil : ((k : Nat) : Int) < ((Ts.length : Nat) : Int) := by omega
      have HLT := Lib.hid hlt
      have hk64 : k < 64 := by have := HTL.out; omega
      have hRw := HRT.out.keep hM.keep (fun b hb e => by have := (hSP1 b hb).1; omega)
      obtain ⟨bC, capC, aU, cU, sk, he, -, cl, hbd, hIU⟩ := hRw.brd HLT.out
      simp only [Value.slice.injEq] at he
      obtain ⟨rfl, -, rfl⟩ := he
      have hgk : GB (bd sk) hh ww := by
        refine mAll_gb HG.out (left := left) ?_
        rw [hbd, ← HTS.out]; exact List.getElem_mem HLT.out
      have hS := hIU.out
      have hol : out.length = k := by have := congrArg List.length HOUT.out; simp at this; omega
      have hol2 : out.length ≤ 64 := by have := HTL.out; omega
      have HBD := Lib.hid hbd
      have HM := Lib.hid hM
      obtain ⟨ao, co, rfl, -, -⟩ := own_len hM.own
      have ho := hM.own
      have hzw := hM.keep.size
      have hzw3 := HE3.out.size
      clear hRw hIU hbd hM hlt hol
      go_upto_region 5 with fail
      have hx4 : Ext wr (wr.alloc (.cells #[.slice aU sk.length cU] 31)) := by go_grown
      have hb4 := heap_alloc_new wr (.cells #[.slice aU sk.length cU] 31)
      have ho4 := own_keep ho hx4
      have hS4 := Strs.ext hS hx4
      generalize wr.alloc (.cells #[.slice aU sk.length cU] 31) = W4 at *
      generalize wr.heap.size = p4 at *
      have cb4 := cell_of_row W4 p4 0 _ _ _ hb4
      simp only [gE] at cb4
      have hz4 : w.heap.size ≤ W4.heap.size := by have := blk_lt hb4; omega
      clear ho hb4 hS cl
      go_wp2_with (first
        | (at_builtin; refine app_list rfl (.tmp 19) (.tmp 22) 22 rfl w.heap.size 9 i0 (.string ⟨#[]⟩) 1 16 Tryz.underlying22 hi0 hz0 hz1 hz2 rfl (by decide) (.slice ao out.length co) out.length (out.map Value.string) rfl (ho5.alloc _) _ 1 _ [.string so] rfl rfl (.inr ⟨_, rfl, one_src (new_cell _ _ _)⟩) (by intro u hu; simp at hu; subst hu; rfl) (by unfold maxLen; omega) (by omega) (by rw [World.size_alloc]; omega) ?_; intro v6 w6 ho6 hg6 hl6)
        | (go_at_call 43; refine (bText_any _ sk hh ww _ hS4 hgk).mono ?_; rintro e w5 ⟨so, rfl, hso, hx5⟩; have ho5 := own_keep ho4 hx5; have hz5 := hx5.size))
      go_roundw
      case rel => exact ⟨k + 1, out ++ [so], by go_num, HLT.out, HM.out.push (ext_trans hx4 hx5) ho6 hg6 hl6, Lib.hid (by rw [List.map_append, HOUT.out, List.take_succ_eq_append_getElem HLT.out, List.map_append, ← HBD.out]; simp [hso])⟩
      case measure => have := HLT.out; simp [intOf]; omega
    · have hil : ¬ (((k : Nat) : Int) < ((Ts.length : Nat) : Int)) := by omega
      have hke : k = Ts.length := by omega
      have HR : Hid (out.map bdr = (mAll left b ww hh).map txtB) := Lib.hid (by rw [HOUT.out, hke, List.take_length, HTS.out])
      have HO := Lib.hid hM.own
      have HE := Lib.hid (hM.ext HE3.out)
      clear hM hke
      go_wp2
      go_ret
      exact ⟨_, out, rfl, HO.out, HR.out, HE.out⟩
end
end Go.Proofs.YteknjeohbcgpdaaGreatDoor
