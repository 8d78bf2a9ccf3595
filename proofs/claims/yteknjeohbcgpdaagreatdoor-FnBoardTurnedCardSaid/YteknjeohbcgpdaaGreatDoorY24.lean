/-
  Contract of the program's (Board).placed.
-/
import Derived.Test.YteknjeohbcgpdaaGreatDoorY14
import Derived.Test.YteknjeohbcgpdaaGreatDoorY23
set_option maxRecDepth 100000
namespace Go.Proofs.YteknjeohbcgpdaaGreatDoor
open Go.RowKit
open Cgt (Brd GB txtB fr plc setc nxr nxc can)

theorem plc_row {b : Brd} (left : Bool) (r c : Nat) {i : Nat} (hi : i < b.length) :
    (plc left b r c)[i]? = some (if i = r then (if left then (b[i]).set c 35 else ((b[i]).set c 35).set (c + 1) 35) else if left = true ∧ i = r + 1 then (b[i]).set c 35 else b[i]) := by
  unfold plc setc
  rw [List.getElem?_set]
  cases left with
  | true =>
    simp only [nxr, nxc, if_true, List.length_set]
    by_cases h1 : r + 1 = i
    · subst h1
      rw [if_pos rfl, if_pos hi, if_neg (by omega), if_pos (by simp)]
      simp only [List.getD_eq_getElem?_getD, List.getElem?_set, if_neg (show ¬ r = r + 1 by omega), List.getElem?_eq_getElem hi, Option.getD_some]
    · rw [if_neg h1, List.getElem?_set]
      by_cases h2 : r = i
      · subst h2
        rw [if_pos rfl, if_pos hi, if_pos rfl]
        simp only [List.getD_eq_getElem?_getD, List.getElem?_eq_getElem hi, Option.getD_some]
      · rw [if_neg h2, if_neg (fun e => h2 e.symm), if_neg (fun e => h1 e.2.symm), List.getElem?_eq_getElem hi]
  | false =>
    simp only [nxr, nxc, Bool.false_eq_true, if_false, false_and, List.length_set]
    by_cases h2 : r = i
    · subst h2
      rw [if_pos rfl, if_pos hi, if_pos rfl]
      simp only [List.getD_eq_getElem?_getD, List.getElem?_set, if_true, List.getElem?_eq_getElem hi, Option.getD_some, if_pos hi]
    · rw [if_neg h2, if_neg (fun e => h2 e.symm), List.getElem?_set, if_neg h2, List.getElem?_eq_getElem hi]
theorem plc_len (left : Bool) (b : Brd) (r c : Nat) : (plc left b r c).length = b.length := by unfold plc setc; simp
theorem bd_snoc (out : List ByteArray) (s : ByteArray) : bd (out ++ [s]) = bd out ++ [bdr s] := by unfold bd; rw [List.map_append]; rfl
theorem bdr_mk (l : List UInt8) : bdr ⟨l.toArray⟩ = l := by unfold bdr; simp

theorem plc_next {out : List ByteArray} {b : Brd} {i : Nat} {l : List UInt8} (h : bd out = b.take i) (hl : b[i]? = some l) : bd (out ++ [⟨l.toArray⟩]) = b.take (i + 1) := by
  have hi := (List.getElem?_eq_some_iff.1 hl).1
  rw [bd_snoc, bdr_mk, h, List.take_succ_eq_append_getElem hi, (List.getElem?_eq_some_iff.1 hl).2]

structure PlM (w wr : World) (bx ov : Value) (out : List ByteArray) : Prop where
  b0 : wr.heap[w.heap.size]? = some (.cells #[bx] 31 (0, 0))
  b1 : wr.heap[w.heap.size + 1]? = some (.cells #[.slice none 0 0] 31 (0, 0))
  b2 : wr.heap[w.heap.size + 2]? = some (.cells #[ov] 31 (0, 0))
  own : wr.ownsRow w.heap.size 9 1 ov out.length (out.map Value.string)
  sep : ∀ b, ov.ownBlock = some b → w.heap.size + 3 ≤ b
  ext : Ext w wr
theorem PlM.ext' {w wr w2 : World} {bx ov : Value} {out : List ByteArray} (m : PlM w wr bx ov out) (hx : Ext wr w2) : PlM w w2 bx ov out :=
  ⟨(hx.block _ (blk_lt m.b0)).trans m.b0, (hx.block _ (blk_lt m.b1)).trans m.b1, (hx.block _ (blk_lt m.b2)).trans m.b2, own_keep m.own hx, m.sep, ext_trans m.ext hx⟩
theorem PlM.put {w wr w4 w5 : World} {bx ov v5 : Value} {out : List ByteArray} {X : Obj} {s : ByteArray} (m : PlM w wr bx ov out) (hx : Ext wr w4)
    (ho : w5.ownsRow w.heap.size 9 1 v5 (out.length + 1) (out.map Value.string ++ [.string s])) (hg : (w4.alloc X).grownBy w5 ov.ownBlock) (hl : Lies (w4.alloc X) ov v5) : PlM w (w5.setCell ⟨w.heap.size + 2, 0, none⟩ v5) bx v5 (out ++ [s]) := by
  have hz : (w4.alloc X).heap.size = w4.heap.size + 1 := World.size_alloc _ _
  have z4 := hx.size
  have zg := hg.size
  have h2 := blk_lt m.b2
  have hk : Keep (fun b => ov.ownBlock = some b) wr w5 := ⟨hg.os.trans hx.os, hg.tape.trans hx.tape, hg.output.trans hx.output, by omega, fun b hb hn => by
      rw [hg.block b (by omega) (fun e => hn e.symm), Below.heap_alloc _ _ _ (by omega), hx.block b hb]⟩
  have hsep : ∀ b, v5.ownBlock = some b → w.heap.size + 3 ≤ b := fun b hb => by
    rcases hl with e | ⟨q, e, k⟩
    · exact m.sep b (by rw [← e]; exact hb)
    · rw [e] at hb; injection hb with hb; omega
  have hb : ∀ b v, b < w.heap.size + 3 → wr.heap[b]? = some (.cells #[v] 31 (0, 0)) → w5.heap[b]? = some (.cells #[v] 31 (0, 0)) := fun b v hb h =>
    (hk.block b (blk_lt h) (fun e => by have := m.sep b e; omega)).trans h
  refine ⟨?_, ?_, heap_setCell_same _ _ _ _ _ _ (hb _ _ (by omega) m.b2), ?_, hsep, ?_⟩
  · rw [heap_setCell_other _ _ _ _ (by show w.heap.size ≠ w.heap.size + 2; omega)]; exact hb _ _ (by omega) m.b0
  · rw [heap_setCell_other _ _ _ _ (by show w.heap.size + 1 ≠ w.heap.size + 2; omega)]; exact hb _ _ (by omega) m.b1
  · rw [List.map_append, List.length_append]
    exact own_keepG ho (keep_set (p := ⟨w.heap.size + 2, 0, none⟩)) (fun b hb e => by have := hsep b hb; have : b = w.heap.size + 2 := e; omega)
  · exact (ext_keepF m.ext hk fun b e => by have := m.sep b e; omega).setCell (p := ⟨w.heap.size + 2, 0, none⟩) (by show w.heap.size ≤ w.heap.size + 2; omega) _

theorem info_stringP : (Tryz.prog.info? 9).map (fun i => (i.zero, i.size, i.bytes)) = some (some (.string ⟨#[]⟩), 1, 16) := by kernel_rfl

theorem pl_box {w wr w5 : World} {bx ov : Value} {out : List ByteArray} {X : Obj} (m : PlM w wr bx ov out) (hg : (wr.alloc X).grownBy w5 ov.ownBlock) : w5.heap[w.heap.size + 2]? = some (.cells #[ov] 31 (0, 0)) := by
  have h := blk_lt m.b2
  rw [hg.block _ (by rw [World.size_alloc]; omega) (fun e => by have := m.sep _ e.symm; omega), Below.heap_alloc _ _ _ h]; exact m.b2

set_option maxHeartbeats 2000000 in
theorem placed_any (v : Value) (ss : List ByteArray) (hh ww r c : Nat) (left : Bool) (w : World) (h : Strs w v ss) (g : GB (bd ss) hh ww) (hc : can left (fr (bd ss)) r c = true) :
    Calls Tryz.prog 150 #[.agg #[v], .int .i64 ((r : Nat) : Int), .int .i64 ((c : Nat) : Int), .bool left] w fun e w' => ∃ v' ss', e = .returned (.agg #[v']) ∧ w'.ownsRow w.heap.size 9 1 v' ss'.length (ss'.map Value.string) ∧ bd ss' = plc left (bd ss) r c ∧ Ext w w' := by
  obtain ⟨i0, hi0, hz0, hz1, hz2⟩ := info_parts info_stringP
  obtain ⟨a, cap, rfl, hcap, hml⟩ := h.open
  have hcan := (Cgt.can_iff.1 hc)
  have hrc := g.in_ hcan.1
  have hrc2 := g.in_ hcan.2
  have hh8 := g.h1
  have hw8 := g.w1
  have hlen : ss.length = hh := gb_len g
  have HG := Lib.hid g
  have HLEN := Lib.hid hlen
  have hsz : ∀ s, s ∈ ss → s.size = ww := fun s hs => by
    obtain ⟨i, hi, rfl⟩ := List.mem_iff_getElem.1 hs
    exact gb_row g hi
  have HI8 : Hid (ss.length ≤ 8) := Lib.hid (by omega)
  clear hc hcan hlen g
  have hxb : Ext w (((w.alloc (.cells #[.slice a ss.length cap] 31)).alloc (.cells #[.slice none 0 0] 31)).alloc (.cells #[.slice none 0 0] 31)) := by go_grown
  have hM0 : PlM w (((w.alloc (.cells #[.slice a ss.length cap] 31)).alloc (.cells #[.slice none 0 0] 31)).alloc (.cells #[.slice none 0 0] 31)) (.slice a ss.length cap) (.slice none 0 0) [] := by
    refine ⟨?_, ?_, ?_, ⟨by simp, .inl ⟨rfl, rfl⟩⟩, fun b hb => by simp [Value.ownBlock] at hb, hxb⟩
    · rw [Below.heap_alloc _ _ _ (by simp; omega), Below.heap_alloc _ _ _ (by simp)]; exact heap_alloc_new _ _
    · rw [Below.heap_alloc _ _ _ (by simp)]
      have h := heap_alloc_new (w.alloc (.cells #[.slice a ss.length cap] 31)) (.cells #[.slice none 0 0] 31); rw [World.size_alloc] at h; exact h
    · have h := heap_alloc_new ((w.alloc (.cells #[.slice a ss.length cap] 31)).alloc (.cells #[.slice none 0 0] 31)) (.cells #[.slice none 0 0] 31); rw [World.size_alloc, World.size_alloc] at h; exact h
  go_enter Tryz.func150, Tryz.ntmps150
  go_upto_region 2 with fail
  generalize (((w.alloc (.cells #[.slice a ss.length cap] 31)).alloc (.cells #[.slice none 0 0] 31)).alloc (.cells #[.slice none 0 0] 31)) = We at *
  have c0 := cell_of_row We w.heap.size 0 _ _ _ hM0.b0
  simp only [gE] at c0
  rw [show w.heap.size + 1 + 1 = w.heap.size + 2 from rfl]
  go_wp2
  go_loopw [10, 11, 12, 17] (fun _ _ _ ii wr => ∃ (i : Nat) (ov : Value) (out : List ByteArray), ii = .int .i64 ((i : Nat) : Int) ∧ i ≤ ss.length ∧ PlM w wr (.slice a ss.length cap) ov out ∧ Hid (bd out = (plc left (bd ss) r c).take i)) (fun _ _ _ ii _ => ss.length - (intOf ii).toNat)
  case atStart => exact ⟨0, _, [], rfl, Nat.zero_le _, hM0, Lib.hid rfl⟩
  case round =>
    clear hM0 c0 hxb
    obtain ⟨i, ov, out, rfl, hi, hM, HOUT⟩ := hrel
    by_cases hlt : i < ss.length
    · have hil : ((i : Nat) : Int) < ((ss.length : Nat) : Int) := by omega
      obtain ⟨b, off, rfl, hcl⟩ := (h.ext hM.ext).at hlt
      have ci := hcl i hlt
      have hsi := hsz _ (List.getElem_mem hlt)
      have HLT := Lib.hid hlt
      obtain ⟨si, esi⟩ : ∃ si : ByteArray, ss[i]'(HLT.out) = si := ⟨_, rfl⟩
      rw [esi] at ci hsi
      have ESI := Lib.hid esi
      have HM := Lib.hid hM
      have HSI := Lib.hid hsi
      have hcs : c < si.size := by omega
      have hss : si.size ≤ 8 := by omega
      have hcv := Lib.run_convert_string_bytes (P := Tryz.prog) wr 9 38 5 si Tryz.underlying9 Tryz.underlying38 Tryz.underlying5
      have hX := ext_bytes (Below.refl _ _ : Ext wr wr) si
      have hB := ByR.new wr si
      have hbl : (si.data.toList).length = si.size := bdr_len si
      have hi8 := HI8.out
      clear hM hlt esi hcl hsi
      go_upto_region 6 with fail
      have ebd : si.data.toList = bdr si := rfl
      rw [ebd] at hB hbl
      clear hcv ebd
      by_cases hir : i = r
      case' pos =>
        have HIR := Lib.hid hir
        have hq : (((i : Nat) : Int) == ((r : Nat) : Int)) = true := by simp [hir]
        have hq1 : ((i : Nat) : Int) = ((r : Nat) : Int) := by omega
        clear hir
        have fz := hB.frozen (k := c) (by omega)
        have cz := hB.cell (k := c) (by omega)
        generalize (bdr si)[c]'(by omega) = u0 at cz
        have hB1 := hB.set (k := c) (by omega) 35 35 rfl
        have hX1 := hX.setCell (p := ⟨wr.heap.size, c, none⟩) (Nat.le_refl _) (.int .u8 35)
        cases left
        case' true =>
          have hq2 : (((i : Nat) : Int) == ((r : Nat) : Int) + 1) = false := by have := HIR.out; simp; omega
          clear hB hX hq1
          have hB := hB1
          have hX := hX1
          clear hB1 hX1
          have HQ : ∃ l Wq, Wq = _ ∧ ByR Wq wr.heap.size l ∧ Ext wr Wq ∧ si.size = l.length ∧ (plc true (bd ss) r c)[i]? = some l := ⟨_, _, rfl, hB, hX, by (try simp only [List.length_set]); omega, by rw [plc_row true r c (by rw [bd_len]; exact HLT.out), bd_at HLT.out, ESI.out, if_pos HIR.out, if_pos rfl]⟩
          go_upto_region 12 with fail
        case' false =>
          have hc1 : c + 1 < si.size := by have e2 := hrc2.2; have e3 := HSI.out; have e4 : nxc false c = c + 1 := rfl; omega
          clear hB hX hq1
          have fz1 := hB1.frozen (k := c + 1) (by rw [List.length_set]; omega)
          have cz1 := hB1.cell (k := c + 1) (by rw [List.length_set]; omega)
          generalize ((bdr si).set c 35)[c + 1]'(by rw [List.length_set]; omega) = u1 at cz1
          have hB := hB1.set (k := c + 1) (by rw [List.length_set]; omega) 35 35 rfl
          have hX := hX1.setCell (p := ⟨wr.heap.size, c + 1, none⟩) (Nat.le_refl _) (.int .u8 35)
          clear hB1 hX1
          have HQ : ∃ l Wq, Wq = _ ∧ ByR Wq wr.heap.size l ∧ Ext wr Wq ∧ si.size = l.length ∧ (plc false (bd ss) r c)[i]? = some l := ⟨_, _, rfl, hB, hX, by (try simp only [List.length_set]); omega, by rw [plc_row false r c (by rw [bd_len]; exact HLT.out), bd_at HLT.out, ESI.out, if_pos HIR.out, if_neg (by simp)]⟩
          go_upto_region 12 with fail
      case' neg =>
        have HIR := Lib.hid hir
        have hq : (((i : Nat) : Int) == ((r : Nat) : Int)) = false := by simp; omega
        have hq1 : ¬ (((i : Nat) : Int) = ((r : Nat) : Int)) := by omega
        cases left
        case' true =>
          by_cases hir1 : i = r + 1
          case' pos =>
            have HIN := Lib.hid hir1
            have hq2 : (((i : Nat) : Int) == ((r : Nat) : Int) + 1) = true := by simp; omega
            have hq3 : ((i : Nat) : Int) = ((r : Nat) : Int) + 1 := by omega
            have fz := hB.frozen (k := c) (by omega)
            have cz := hB.cell (k := c) (by omega)
            generalize (bdr si)[c]'(by omega) = u0 at cz
            have hB1 := hB.set (k := c) (by omega) 35 35 rfl
            have hX1 := hX.setCell (p := ⟨wr.heap.size, c, none⟩) (Nat.le_refl _) (.int .u8 35)
            clear hB hX hir hir1 hq1 hq3
            have hB := hB1
            have hX := hX1
            clear hB1 hX1
            have HQ : ∃ l Wq, Wq = _ ∧ ByR Wq wr.heap.size l ∧ Ext wr Wq ∧ si.size = l.length ∧ (plc true (bd ss) r c)[i]? = some l := ⟨_, _, rfl, hB, hX, by (try simp only [List.length_set]); omega, by rw [plc_row true r c (by rw [bd_len]; exact HLT.out), bd_at HLT.out, ESI.out, if_neg HIR.out, if_pos ⟨rfl, HIN.out⟩]⟩
            go_upto_region 12 with fail
          case' neg =>
            have HIN : Hid (¬ i = r + 1) := Lib.hid hir1
            have hq2 : (((i : Nat) : Int) == ((r : Nat) : Int) + 1) = false := by simp; omega
            have hq3 : ¬ ((i : Nat) : Int) = ((r : Nat) : Int) + 1 := by omega
            clear hir hir1 hq1 hq3
            have HQ : ∃ l Wq, Wq = _ ∧ ByR Wq wr.heap.size l ∧ Ext wr Wq ∧ si.size = l.length ∧ (plc true (bd ss) r c)[i]? = some l := ⟨_, _, rfl, hB, hX, by (try simp only [List.length_set]); omega, by rw [plc_row true r c (by rw [bd_len]; exact HLT.out), bd_at HLT.out, ESI.out, if_neg HIR.out, if_neg (fun e => HIN.out e.2)]⟩
            go_upto_region 12 with fail
        case' false =>
          clear hir hq1
          have HQ : ∃ l Wq, Wq = _ ∧ ByR Wq wr.heap.size l ∧ Ext wr Wq ∧ si.size = l.length ∧ (plc false (bd ss) r c)[i]? = some l := ⟨_, _, rfl, hB, hX, by (try simp only [List.length_set]); omega, by rw [plc_row false r c (by rw [bd_len]; exact HLT.out), bd_at HLT.out, ESI.out, if_neg HIR.out, if_neg (by simp)]⟩
          go_upto_region 12 with fail
      all_goals
        obtain ⟨l, Wq, hWq, hB, hX, hlz, hrow⟩ := HQ
        rw [← hWq]
        have HROW := Lib.hid hrow
        have hbk := hB.back (n := si.size) (cap := grownCap wr si.size 0 5) hlz
        have hMx := HM.out.ext' hX
        obtain ⟨ao, co, rfl, -, -⟩ := own_len hMx.own
        have ho := hMx.own
        have hr2 := cell_of_row _ _ 0 _ _ _ hMx.b2
        have hzx := hMx.ext.size
        have hb2z := blk_lt hMx.b2
        have hol : out.length ≤ 8 := by have := HOUT.out; have e := congrArg List.length this; rw [bd_len, List.length_take] at e; have := HI8.out; omega
        have HMX := Lib.hid hMx
        have HX := Lib.hid hX
        clear hB hMx hX hWq hrow hlz
        go_wp2_with (at_builtin; refine app_list rfl (.tmp 47) (.tmp 50) 22 rfl w.heap.size 9 i0 (.string ⟨#[]⟩) 1 16 Tryz.underlying22 hi0 hz0 hz1 hz2 rfl (by decide) (.slice ao out.length co) out.length (out.map Value.string) rfl (ho.alloc _) _ 1 _ [.string ⟨l.toArray⟩] rfl rfl (.inr ⟨_, rfl, one_src (new_cell _ _ _)⟩) (by intro u hu; simp at hu; subst hu; rfl) (by unfold maxLen; omega) (by omega) (by rw [World.size_alloc]; omega) ?_; intro v5 w5 ho5 hg5 hl5; obtain ⟨a5, c5, rfl, -⟩ := own_len ho5; have hb5 := pl_box HMX.out hg5; have g5 := cell_of_row _ _ 0 _ _ _ hb5; have f5 := frozen_of_row _ _ 0 _ _ hb5)
        go_roundw
        case rel => exact ⟨i + 1, .slice a5 (out.length + 1) c5, out ++ [⟨l.toArray⟩], by go_num, HLT.out, HM.out.put HX.out ho5 hg5 hl5, Lib.hid (plc_next HOUT.out HROW.out)⟩
        case measure => have := HLT.out; simp [intOf]; omega
    · have h1 : ¬ (((i : Nat) : Int) < ((ss.length : Nat) : Int)) := by omega
      have hie : i = ss.length := by omega
      obtain ⟨ao, co, rfl, -, -⟩ := own_len hM.own
      have hr1 := cell_of_row wr (w.heap.size + 1) 0 _ _ _ hM.b1
      have fr1 := frozen_of_row wr (w.heap.size + 1) 0 _ _ hM.b1
      have hr2 := cell_of_row wr (w.heap.size + 2) 0 _ _ _ hM.b2
      simp only [gE] at hr1 hr2
      have HH := Lib.hid (heap_setCell_same wr (w.heap.size + 1) 0 _ _ (.slice ao out.length co) hM.b1)
      have HBD : Hid (bd out = plc left (bd ss) r c) := Lib.hid (by rw [HOUT.out, hie]; exact List.take_of_length_le (by rw [plc_len, bd_len]; exact Nat.le_refl _))
      have HO : Hid ((wr.setCell ⟨w.heap.size + 1, 0, none⟩ (.slice ao out.length co)).ownsRow w.heap.size 9 1 (.slice ao out.length co) out.length (out.map Value.string)) := Lib.hid (own_keepG hM.own (keep_set (p := ⟨w.heap.size + 1, 0, none⟩)) (fun b hb e => by have := hM.sep b hb; have : b = w.heap.size + 1 := e; omega))
      have HE := Lib.hid (hM.ext.setCell (p := ⟨w.heap.size + 1, 0, none⟩) (by show w.heap.size ≤ w.heap.size + 1; omega) (.slice ao out.length co))
      clear hM hie
      go_wp2
      (try simp only [Exit.inBlock, Exit.then])
      refine bodyPost_ret (results_cell_row rfl _ _ (w.heap.size + 1) 31 #[.slice ao out.length co] (0, 0) _ rfl HH.out Tryz.underlying31 rfl (by kernel_rfl)) rfl ?_
      exact ⟨_, rfl, out, HO.out, HBD.out, HE.out⟩

end Go.Proofs.YteknjeohbcgpdaaGreatDoor
