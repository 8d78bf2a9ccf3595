/-
  Contract of the program's (Board).trimmed.
-/
import Derived.Test.YteknjeohbcgpdaaGreatDoorY25
import Derived.Test.YteknjeohbcgpdaaGreatDoorY27
set_option maxRecDepth 100000
namespace Go.Proofs.YteknjeohbcgpdaaGreatDoor
open Go.RowKit
open Cgt (Brd GB goodB fr)

def TrimOf (b b' : Brd) : Prop := (∃ t bo f o, IsBox (fr b) t bo f o ∧ b' = cutB b t bo f o) ∨ ((∀ r c, fr b r c = false) ∧ b' = Cgt.brd1)
def TrimPostP (b : Brd) (w : World) (e : Ending) (w' : World) : Prop :=
  ∃ v' ss', e = .returned (.agg #[v']) ∧ TrimOf b (bd ss') ∧ w'.ownsRow w.heap.size 9 1 v' ss'.length (ss'.map Value.string) ∧ Ext w w'
theorem min_if (a b : Int) : min a b = if a < b then a else b := by split <;> omega
def rowsTrm17 : List Row := [⟨0, [], 61, [9]⟩, ⟨1, [0], 62, [60]⟩, ⟨2, [], 63, [11]⟩, ⟨3, [], 64, [5]⟩, ⟨4, [], 65, [6]⟩, ⟨5, [4], 66, [64]⟩, ⟨6, [2, 3, 5], 67, [62, 63, 65]⟩, ⟨7, [6], 68, [66]⟩, ⟨8, [1, 7], 69, [61, 67]⟩, ⟨9, [0, 1, 2, 3, 4, 5, 6, 7, 8], 70, [9]⟩, ⟨10, [9, 8, 8, 0, 1, 2, 3, 4, 5, 6, 7, 8], 0, [69, 68]⟩]

set_option maxHeartbeats 4000000 in
theorem trimmed_any (v : Value) (ss : List ByteArray) (hh ww : Nat) (w : World) (h : Strs w v ss) (g : GB (bd ss) hh ww) :
    Calls Tryz.prog 66 #[.agg #[v]] w (TrimPostP (bd ss) w) := by
  obtain ⟨i0, hi0, hz0, hz1, hz2⟩ := info_parts info_stringP
  obtain ⟨a, cap, rfl, hcap, hml⟩ := h.open
  have hb1 : ((w.alloc (.cells #[.slice a ss.length cap] 31)).alloc (.cells #[.slice none 0 0] 31)).heap[w.heap.size]? = some (.cells #[.slice a ss.length cap] 31 (0, 0)) := by
    rw [Below.heap_alloc _ _ _ (by simp)]; exact heap_alloc_new _ _
  have hb2 : ((w.alloc (.cells #[.slice a ss.length cap] 31)).alloc (.cells #[.slice none 0 0] 31)).heap[w.heap.size + 1]? = some (.cells #[.slice none 0 0] 31 (0, 0)) := by
    have h := heap_alloc_new (w.alloc (.cells #[.slice a ss.length cap] 31)) (.cells #[.slice none 0 0] 31); rw [World.size_alloc] at h; exact h
  have hx2 : Ext w ((w.alloc (.cells #[.slice a ss.length cap] 31)).alloc (.cells #[.slice none 0 0] 31)) := by go_grown
  have hh8 := g.h1
  have hw8 := g.w1
  have hlen : ss.length = hh := gb_len g
  have HG := Lib.hid g
  have HLEN := Lib.hid hlen
  have HL8 : Hid (ss.length ≤ 8) := Lib.hid (by omega)
  have HSZ : Hid (∀ s, s ∈ ss → s.size = ww) := Lib.hid fun s hs => by
    obtain ⟨i, hi, rfl⟩ := List.mem_iff_getElem.1 hs
    exact gb_row g hi
  have HASC : Hid (∀ i (hi : i < ss.length) k (hk : k < (ss[i]).size), ((ss[i])[k]).toNat < 128) := Lib.hid fun i hi k hk => by
    refine ascii_row g (r := bdr ss[i]) (List.mem_map.2 ⟨ss[i], List.getElem_mem hi, rfl⟩) ?_
    exact Array.getElem_mem_toList ..
  have hfr : ∀ W, Ext w W → ∀ r c : Int, (-100 ≤ r ∧ r ≤ 100) → (-100 ≤ c ∧ c ≤ 100) → Calls Tryz.prog 109 #[.agg #[.slice a ss.length cap], .int .i64 r, .int .i64 c] W fun e w' => e = .returned (.bool (isF (bd ss) r c)) ∧ Ext W w' := fun W hW r c hr hc => free_any _ ss hh ww r c W (h.ext hW) g hr hc
  clear hlen g
  go_enter Tryz.func66, Tryz.ntmps66
  go_upto_region 1 with fail
  generalize (w.alloc (.cells #[.slice a ss.length cap] 31)).alloc (.cells #[.slice none 0 0] 31) = We at *
  have c0 := cell_of_row We w.heap.size 0 _ _ _ hb1
  simp only [gE] at c0
  go_wp2
  have HB1 := Lib.hid hb1
  have HB2 := Lib.hid hb2
  have HX2 := Lib.hid hx2
  clear c0 hb1 hb2 hx2
  go_loopw [3, 4, 5, 6, 7, 8, 15] (fun tv bv fv ov _ _ ii wr => ∃ (i : Nat) (t b f o : Int), ii = .int .i64 ((i : Nat) : Int) ∧ i ≤ ss.length ∧ tv = .int .i64 t ∧ bv = .int .i64 b ∧ fv = .int .i64 f ∧ ov = .int .i64 o ∧ Ext We wr ∧ Hid (BoxSt (fr (bd ss)) 8 8 (fun r _ => r < i) t b f o)) (fun _ _ _ _ _ _ ii _ => ss.length - (intOf ii).toNat)
  case atStart => exact ⟨0, _, _, _, _, rfl, Nat.zero_le _, rfl, rfl, rfl, rfl, Below.refl _ _, Lib.hid ⟨fun r c d => absurd d (by omega), .inl ⟨rfl, rfl, rfl, rfl, fun r c d => absurd d (by omega)⟩⟩⟩
  case round =>
    obtain ⟨i, t, bo, f, o, rfl, hi, rfl, rfl, rfl, rfl, hx, HBX⟩ := hrel
    by_cases hlt : i < ss.length
    · have hil : ((i : Nat) : Int) < ((ss.length : Nat) : Int) := by omega
      have HLT := Lib.hid hlt
      obtain ⟨b, off, rfl, hcl⟩ := (h.ext (ext_trans HX2.out hx)).at hlt
      have ci := hcl i hlt
      have cb := cell_of_row wr w.heap.size 0 _ _ _ ((hx.block _ (blk_lt HB1.out)).trans HB1.out)
      simp only [gE] at cb
      have hsi := HSZ.out _ (List.getElem_mem HLT.out)
      obtain ⟨si, esi⟩ : ∃ si : ByteArray, ss[i]'(HLT.out) = si := ⟨_, rfl⟩
      have HAS : Hid (∀ k (hk : k < si.size), (si[k]).toNat < 128) := Lib.hid (by subst esi; exact HASC.out i HLT.out)
      rw [esi] at ci hsi
      have HSI := Lib.hid hsi
      have hss8 : si.size ≤ 8 := by omega
      have HX := Lib.hid hx
      have hkI : We.heap.size ≤ wr.heap.size := hx.size
      clear hlt hcl esi hsi hx
      go_upto_region 6 with fail
      have hxi : Ext We (wr.iter si 0) := ext_trans HX.out (ext_alloc (Below.refl _ _) _)
      have hit := World.iter_heap wr si 0
      clear cb ci HX
      generalize wr.iter si 0 = W0 at *
      generalize wr.heap.size = kI at *
      go_loopw [3, 4, 5, 6, 8] (fun tv bv fv ov _ w3 => ∃ (k : Nat) (t b f o : Int), k ≤ si.size ∧ tv = .int .i64 t ∧ bv = .int .i64 b ∧ fv = .int .i64 f ∧ ov = .int .i64 o ∧ Ext We w3 ∧ w3.heap[kI]? = some (.stringIter si k) ∧ Hid (BoxSt (fr (bd ss)) 8 8 (fun r c => r < i ∨ (r = i ∧ c < k)) t b f o)) (fun _ _ _ _ _ w3 => si.size - w3.iterPos kI)
      case atStart => exact ⟨0, t, bo, f, o, Nat.zero_le _, rfl, rfl, rfl, rfl, hxi, hit, Lib.hid (HBX.out.skip fun r c d _ => by omega)⟩
      case round =>
        clear hxi hit HBX
        obtain ⟨k, t, bo, f, o, hk, rfl, rfl, rfl, rfl, hx, hit, HBX⟩ := hrel
        have HPOS := Lib.hid (iterPos_of hit)
        by_cases hkl : k < si.size
        · have HKL := Lib.hid hkl
          obtain ⟨rn, hnx⟩ : ∃ rn : Int, ∀ ty, (Instr.next (.pointer (some ⟨kI, 0, none⟩)) true ty).run Tryz.prog wr = .ok (.tuple #[.bool true, .int .i64 ((k : Nat) : Int), .int .i32 rn]) (wr.iterAt kI si (k + 1)) := ⟨_, fun ty => Lib.run_next_ascii_at (P := Tryz.prog) wr kI si k ty hit hkl (HAS.out k hkl)⟩
          have hx2 := Lib.below_iterAt hx hkI si (k + 1)
          have hit2 := Lib.iterAt_heap wr kI si k (k + 1) hit
          clear hx hit
          go_upto_region 8 with fail
          clear hnx hkl
          generalize wr.iterAt kI si (k + 1) = W1 at *
          have cb := cell_of_row W1 w.heap.size 0 _ _ _ ((hx2.block _ (blk_lt HB1.out)).trans HB1.out)
          simp only [gE] at cb
          have hE1 := ext_trans HX2.out hx2
          have hi8 := HL8.out
          have HIT := Lib.hid hit2
          have HX := Lib.hid hx2
          clear hit2 hx2
          cases hf0 : fr (bd ss) i k with
          | false =>
            have HN := Lib.hid (HBX.out.skip (D' := fun r c => r < i ∨ (r = i ∧ c < k + 1)) fun r c d s => by
              by_cases e : r = i ∧ c = k
              · obtain ⟨rfl, rfl⟩ := e; rw [hf0] at s; cases s
              · omega)
            go_wp2_with (go_at_call 109; refine (hfr _ hE1 _ _ (by omega) (by omega)).mono ?_; rintro e w2 ⟨he, hx2⟩; rw [isF_nat, hf0] at he; subst he)
            go_roundw
            case rel => exact ⟨k + 1, t, bo, f, o, HKL.out, rfl, rfl, rfl, rfl, ext_trans HX.out hx2, (hx2.block _ (it_lt HIT.out)).trans HIT.out, HN⟩
            case measure => have := iterPos_of ((hx2.block _ (it_lt HIT.out)).trans HIT.out); have := HPOS.out; have := HKL.out; omega
          | true =>
            have hn := HBX.out.take (D' := fun r c => r < i ∨ (r = i ∧ c < k + 1)) (show i < 8 by have := HLT.out; omega) (show k < 8 by have := HKL.out; omega) hf0 fun r c d => by omega
            rw [← min_if, ← min_if] at hn
            have HN := Lib.hid hn
            clear hn
            go_upto_region 9 with (go_at_call 109; refine (hfr _ hE1 _ _ (by omega) (by omega)).mono ?_; rintro e w2 ⟨he, hx2⟩; rw [isF_nat, hf0] at he; subst he)
            clear cb hE1 hf0
            go_wp2
            exact ⟨⟨k + 1, _, _, _, _, HKL.out, rfl, rfl, rfl, rfl, ext_trans HX.out hx2, (hx2.block _ (it_lt HIT.out)).trans HIT.out, HN⟩, by have := iterPos_of ((hx2.block _ (it_lt HIT.out)).trans HIT.out); have := HPOS.out; have := HKL.out; omega⟩
        · have hnx := fun ty => Lib.run_next_end_at (P := Tryz.prog) wr kI si k ty hit hkl
          have HBX2 : Hid (BoxSt (fr (bd ss)) 8 8 (fun r _ => r < i + 1) t bo f o) := Lib.hid (HBX.out.skip fun r c d s => by
            have := (HG.out.in_ s).2
            have := HSI.out
            by_cases e : r = i
            · exact .inr ⟨e, by omega⟩
            · exact .inl (by omega))
          clear HBX hkl
          go_wp2
          go_roundw
          case rel => exact ⟨i + 1, t, bo, f, o, by go_num, HLT.out, rfl, rfl, rfl, rfl, hx, HBX2⟩
          case measure => have := HLT.out; simp [intOf]; omega
    · have hil : ¬ (((i : Nat) : Int) < ((ss.length : Nat) : Int)) := by omega
      have hbx := HBX.out.skip (D' := fun _ _ => True) fun r c _ s => by have := (HG.out.in_ s).1; have := HLEN.out; omega
      have cb := cell_of_row wr w.heap.size 0 _ _ _ ((hx.block _ (blk_lt HB1.out)).trans HB1.out)
      have hr1 := (hx.block _ (blk_lt HB2.out)).trans HB2.out
      simp only [gE] at cb
      have HX := Lib.hid hx
      clear HBX hlt
      by_cases hF : ∃ r c, fr (bd ss) r c = true
      · obtain ⟨tn, bn, fn, on, rfl, rfl, rfl, rfl, hbox⟩ := BoxSt.box hbx hF
        obtain ⟨hgb, hb1, hb2, hb3, hb4⟩ := cutB_gb HG.out hbox
        have h0 : 0 < ss.length := by have := HLEN.out; omega
        obtain ⟨b, off, rfl, hcl⟩ := (h.ext (ext_trans HX2.out hx)).at h0
        have hneg : ¬ (((bn : Nat) : Int) < 0) := by omega
        have hq0 : (0 : Int) ≤ ((tn : Nat) : Int) := by omega
        have hq1 : ((tn : Nat) : Int) ≤ ((bn : Nat) : Int) + 1 := by omega
        have hq2 : ((bn : Nat) : Int) + 1 ≤ ((cap : Nat) : Int) := by have := HLEN.out; omega
        have HBOX := Lib.hid (And.intro hbox hcl)
        have HLL := Lib.hid HLEN.out
        have hM0 : BoM w (wr.alloc (.cells #[.slice none 0 0] 31)) wr.heap.size (.slice (some ⟨b, off, none⟩) ss.length cap) (.slice none 0 0) [] := by
          have h1 := (hx.block _ (blk_lt HB1.out)).trans HB1.out
          exact ⟨by rw [Below.heap_alloc _ _ _ (blk_lt h1)]; exact h1, by rw [Below.heap_alloc _ _ _ (blk_lt hr1)]; exact hr1, heap_alloc_new _ _, ⟨by simp, .inl ⟨rfl, rfl⟩⟩, blk_lt hr1, ext_trans (ext_trans HX2.out hx) (ext_alloc (Below.refl _ _) _)⟩
        clear hbx hF hbox hgb hcl hx HLEN hr1
        go_upto_region 14 with fail
        generalize wr.alloc (.cells #[.slice none 0 0] 31) = Wq at *
        generalize wr.heap.size = po at *
        clear cb
        have cb := cell_of_row Wq w.heap.size 0 _ _ _ hM0.b0
        simp only [gE] at cb
        go_upto_region 15 with fail
        obtain ⟨nn, hnn⟩ : ∃ nn, nn = bn + 1 - tn := ⟨_, rfl⟩
        rw [← hnn]
        have hn1 : 1 ≤ nn ∧ nn ≤ 8 ∧ tn + nn = bn + 1 ∧ tn + nn ≤ ss.length := by have := HLL.out; omega
        have HN1 := Lib.hid (And.intro hn1 hnn)
        have hn8 : nn ≤ 8 := hn1.2.1
        clear cb hnn hn1 hneg hq0 hq1 hq2
        go_loopw [11, 56] (fun _ ii wr => ∃ (q : Nat) (ov : Value) (out : List ByteArray), ii = .int .i64 ((q : Nat) : Int) ∧ q ≤ nn ∧ BoM w wr po (.slice (some ⟨b, off, none⟩) ss.length cap) ov out ∧ Hid (out.length = q ∧ bd out = (((bd ss).drop tn).take q).map fun r => (r.drop fn).take (on + 1 - fn))) (fun _ ii _ => nn - (intOf ii).toNat)
        case atStart => exact ⟨0, _, [], by go_num, Nat.zero_le _, hM0, Lib.hid ⟨rfl, rfl⟩⟩
        case round =>
          clear hM0
          obtain ⟨q, ov, out, rfl, hq, hM, HOUT⟩ := hrel
          by_cases hqn : q < nn
          · have hqi : ((q : Nat) : Int) < ((nn : Nat) : Int) := by omega
            have hql : tn + q < ss.length := by have := HN1.out.1; omega
            obtain ⟨b', off', e', hcl⟩ := (h.ext hM.ext).at h0
            simp only [Option.some.injEq, Addr.mk.injEq, and_true] at e'
            obtain ⟨rfl, rfl⟩ := e'
            have ci := hcl (tn + q) hql
            rw [← Nat.add_assoc] at ci
            have hsi := HSZ.out _ (List.getElem_mem hql)
            have HQL := Lib.hid (And.intro hql hqn)
            obtain ⟨si, esi⟩ : ∃ si : ByteArray, si = ss[tn + q]'(HQL.out.1) := ⟨_, rfl⟩
            rw [← esi] at ci hsi
            have hs1 : ((fn : Nat) : Int) ≤ ((on : Nat) : Int) + 1 := by omega
            have hs2 : ((on : Nat) : Int) + 1 ≤ ((si.size : Nat) : Int) := by omega
            have hs0 : (0 : Int) ≤ ((fn : Nat) : Int) := by omega
            have hs3 : (0 : Int) ≤ ((on : Nat) : Int) + 1 := by omega
            have hwi : IntKind.i64.wrap (((on : Nat) : Int) + 1) = ((on : Nat) : Int) + 1 := (Go.IntWalk.i64_left _).trans (by unfold wrap64; omega)
            have htn : (((on : Nat) : Int) + 1).toNat = on + 1 := by omega
            have ESI := Lib.hid esi
            obtain ⟨ao, co, rfl, hco1, hco2⟩ := own_len hM.own
            have k0 := cell_of_row wr po 0 _ _ _ hM.b2
            simp only [gE] at k0
            have hq8 : out.length ≤ 8 := by have := HOUT.out.1; omega
            have ho4 := hM.own
            have hz4 := blk_lt hM.b2
            have HM := Lib.hid hM
            clear hM hcl esi hsi hql hqn
            go_upto_region 17 with fail
            refine wp_region_L (fun V => V.cell? ⟨po, 0, none⟩ = some (.slice ao out.length co)) [8, 9, 10] rowsTrm17 (by kernel_rfl) ⟨by kernel_rfl, by kernel_rfl, by kernel_rfl⟩ k0 (fun hTab hHeld => ?_)
            ((refine tkB hTab (i := 0) hHeld ?_); (try simp only [nP]); (refine tkB hTab (i := 1) hHeld ?_); (try simp only [nP]); (refine tkB hTab (i := 2) hHeld ?_); (try simp only [nP]); (refine tkB hTab (i := 3) hHeld ?_); (try simp only [nP]); (refine tkB hTab (i := 4) hHeld ?_); (try simp only [nP]); (refine tkB hTab (i := 5) hHeld ?_); (try simp only [nP]); (refine tkB hTab (i := 6) hHeld ?_); (try simp only [nP]))
            (refine stB hTab (i := 7) fun K hK => ?_; go_simp)
            (refine hK.out _ _ (fun _ => ?_) ?_)
            · exact alloc_cell k0 _
            clear hK K
            (try simp only [nP])
            refine tlB hTab [8, 9, 10] [_, _, _] ?_
            clear hTab hHeld
            go_wp2_with (at_builtin; refine app_list rfl (.tmp 61) (.tmp 67) 22 rfl (po + 1) 9 i0 (.string ⟨#[]⟩) 1 16 Tryz.underlying22 hi0 hz0 hz1 hz2 rfl (by decide) (.slice ao out.length co) out.length (out.map Value.string) rfl (own_drewN (ho4.alloc _) 1) _ 1 _ [.string (si.extract fn (on + 1))] rfl rfl (.inr ⟨_, rfl, one_src (new_cell _ _ _)⟩) (by intro u hu; simp at hu; subst hu; rfl) (by unfold maxLen; omega) (by omega) (by show _ ≤ (World.alloc _ _).heap.size; rw [World.size_alloc]; omega) ?_; intro v5 w5 ho5 hg5 hl5; obtain ⟨a5, c5, rfl, -⟩ := own_len ho5; obtain ⟨hM5, g5, f5⟩ := HM.out.put ho5 ((grown_drewN _ 1 _).trans hg5); have HM5 := Lib.hid hM5; clear hM5)
            go_roundw
            case rel =>
              refine ⟨q + 1, _, out ++ [si.extract fn (on + 1)], by go_num, HQL.out.2, HM5.out, Lib.hid ⟨by simp [HOUT.out.1], ?_⟩⟩
              have hb : tn + q < (bd ss).length := by rw [bd_len]; exact HQL.out.1
              rw [cutB_take hb, ← HOUT.out.2, bd_snoc, bdr_extract, ESI.out]
              simp [bd]
            case measure => have := HQL.out.2; simp [intOf]; omega
          · have hqi : ¬ (((q : Nat) : Int) < ((nn : Nat) : Int)) := by omega
            have hqe : q = nn := by omega
            obtain ⟨ao, co, rfl, hco1, hco2⟩ := own_len hM.own
            have k0 := cell_of_row wr po 0 _ _ _ hM.b2
            have k1 := cell_of_row wr (w.heap.size + 1) 0 _ _ _ hM.b1
            have k2 := frozen_of_row wr (w.heap.size + 1) 0 _ _ hM.b1
            simp only [gE] at k0 k1
            have HM := Lib.hid hM
            have hr1 := hM.b1
            have HQE := Lib.hid hqe
            clear hM hqe
            go_wp2
            have HH := Lib.hid (heap_setCell_same wr (w.heap.size + 1) 0 _ _ (.slice ao out.length co) hr1)
            (try simp only [Exit.inBlock, Exit.then])
            refine bodyPost_ret (results_cell_row rfl _ _ (w.heap.size + 1) 31 #[.slice ao out.length co] (0, 0) _ rfl HH.out Tryz.underlying31 rfl (by kernel_rfl)) rfl ?_
            have hpz := HM.out.pz
            refine ⟨_, out, rfl, .inl ⟨tn, bn, fn, on, HBOX.out.1, ?_⟩, own_lowerB (own_keepG HM.out.own (keep_set (p := ⟨w.heap.size + 1, 0, none⟩)) (fun b hb e => by have := (HM.out.own.lt b hb).1; have e' : b = w.heap.size + 1 := e; omega)) (by omega), HM.out.ext.setCell (p := ⟨w.heap.size + 1, 0, none⟩) (by show w.heap.size ≤ w.heap.size + 1; omega) _⟩
            rw [HOUT.out.2, HQE.out, HN1.out.2]; rfl
      · have hno : bo = -1 := by
          rcases hbx.2 with ⟨_, e, _⟩ | ⟨r1, c1, _, _, _, _, _, _, s1, _⟩
          · exact e
          · exact absurd ⟨r1, c1, s1⟩ hF
        subst hno
        clear hbx
        have hr2 : (wr.alloc (.cells #[.string ⟨#[35]⟩] 9)).heap[w.heap.size + 1]? = some (.cells #[.slice none 0 0] 31 (0, 0)) := by rw [Below.heap_alloc _ _ _ (blk_lt hr1)]; exact hr1
        have k1 := cell_of_row (wr.alloc (.cells #[.string ⟨#[35]⟩] 9)) (w.heap.size + 1) 0 _ _ _ hr2
        have k2 := frozen_of_row (wr.alloc (.cells #[.string ⟨#[35]⟩] 9)) (w.heap.size + 1) 0 _ _ hr2
        have hlt := blk_lt hr1
        have HW : Hid ((wr.alloc (.cells #[.string ⟨#[35]⟩] 9)).ownsRow w.heap.size 9 1 (.slice (some ⟨wr.heap.size, 0, none⟩) 1 1) [(⟨#[35]⟩ : ByteArray)].length ([(⟨#[35]⟩ : ByteArray)].map Value.string)) :=
          Lib.hid ⟨by simp, .inr ⟨wr.heap.size, 1, #[.string ⟨#[35]⟩], rfl, by omega, heap_alloc_new wr _, Nat.le_refl _, by decide, rfl, by simp⟩⟩
        have HE := Lib.hid (ext_trans (ext_trans HX2.out hx) (ext_alloc (Below.refl _ _) (.cells #[.string ⟨#[35]⟩] 9)))
        have HLT := Lib.hid hlt
        clear hlt
        go_wp2
        have HH := Lib.hid (heap_setCell_same (wr.alloc (.cells #[.string ⟨#[35]⟩] 9)) (w.heap.size + 1) 0 _ _ (.slice (some ⟨wr.heap.size, 0, none⟩) 1 1) hr2)
        (try simp only [Exit.inBlock, Exit.then])
        refine bodyPost_ret (results_cell_row rfl _ _ (w.heap.size + 1) 31 #[.slice (some ⟨wr.heap.size, 0, none⟩) 1 1] (0, 0) _ rfl HH.out Tryz.underlying31 rfl (by kernel_rfl)) rfl ?_
        refine ⟨_, [⟨#[35]⟩], rfl, .inr ⟨fun r c => ?_, by decide⟩, own_keepG HW.out (keep_set (p := ⟨w.heap.size + 1, 0, none⟩)) (fun b hb e => ?_), HE.out.setCell (p := ⟨w.heap.size + 1, 0, none⟩) (by show w.heap.size ≤ w.heap.size + 1; omega) _⟩
        · cases e : fr (bd ss) r c with
          | false => rfl
          | true => exact absurd ⟨r, c, e⟩ hF
        · have e' : b = w.heap.size + 1 := e
          have hb' : wr.heap.size = b := by simpa [Value.ownBlock] using hb
          have := HLT.out; omega

def TrimBPost (b : Brd) (w : World) (e : Ending) (w' : World) : Prop :=
  ∃ (v' : Value) (ss' : List ByteArray) (ok : Bool), e = .returned (.tuple #[.agg #[v'], .bool ok]) ∧ ok = goodB b ∧ (ok = true → TrimOf b (bd ss')) ∧ w'.ownsRow w.heap.size 9 1 v' ss'.length (ss'.map Value.string) ∧ Ext w w'
set_option maxHeartbeats 1000000 in
theorem trim_any (v : Value) (ss : List ByteArray) (w : World) (hv : Strs w v ss) (hl : ss.length ≤ 1048576) (hs : ∀ s, s ∈ ss → s.size ≤ 1048576) : Calls Tryz.prog 29 #[.agg #[v]] w (TrimBPost (bd ss) w) := by
  obtain ⟨a, cap, rfl, hcap, hml⟩ := hv.open
  have hb1 : ((w.alloc (.cells #[.slice a ss.length cap] 31)).alloc (.cells #[.slice none 0 0] 31)).heap[w.heap.size]? = some (.cells #[.slice a ss.length cap] 31 (0, 0)) := by
    rw [Below.heap_alloc _ _ _ (by simp)]; exact heap_alloc_new _ _
  have hb2 : ((w.alloc (.cells #[.slice a ss.length cap] 31)).alloc (.cells #[.slice none 0 0] 31)).heap[w.heap.size + 1]? = some (.cells #[.slice none 0 0] 31 (0, 0)) := by
    have h := heap_alloc_new (w.alloc (.cells #[.slice a ss.length cap] 31)) (.cells #[.slice none 0 0] 31); rw [World.size_alloc] at h; exact h
  have hx2 : Ext w ((w.alloc (.cells #[.slice a ss.length cap] 31)).alloc (.cells #[.slice none 0 0] 31)) := by go_grown
  have HV := Lib.hid hv
  have HS := Lib.hid (And.intro hl hs)
  clear hl hs hv
  go_enter Tryz.func29, Tryz.ntmps29
  go_upto_region 1 with fail
  generalize (w.alloc (.cells #[.slice a ss.length cap] 31)).alloc (.cells #[.slice none 0 0] 31) = W at *
  have c0 := cell_of_row W w.heap.size 0 _ _ _ hb1
  simp only [gE] at c0
  cases hg : goodB (bd ss) with
  | false =>
    go_upto_region 2 with (go_at_call 41; refine (pGoodBoard_any _ ss _ (HV.out.ext hx2) HS.out.1 HS.out.2).mono ?_; rintro e w1 ⟨he, hx1⟩; rw [hg] at he; subst he)
    have hr1 : w1.heap[w.heap.size + 1]? = some (.cells #[.slice none 0 0] 31 (0, 0)) := (hx1.block _ (blk_lt hb2)).trans hb2
    have d0 := cell_of_row w1 (w.heap.size + 1) 0 _ _ _ hr1
    have f0 := frozen_of_row w1 (w.heap.size + 1) 0 _ _ hr1
    have HE := Lib.hid (ext_trans hx2 hx1)
    clear c0
    go_wp2
    have HH := Lib.hid (heap_setCell_same w1 (w.heap.size + 1) 0 _ _ (.slice none 0 0) hr1)
    (try simp only [Exit.inBlock, Exit.then])
    refine bodyPost_ret (results_row_tmp rfl _ _ (w.heap.size + 1) 31 #[.slice none 0 0] (0, 0) _ rfl HH.out Tryz.underlying31 rfl (by kernel_rfl) rfl) rfl ?_
    exact ⟨_, [], false, rfl, hg.symm, (fun h => by cases h), ⟨by simp, .inl ⟨rfl, rfl⟩⟩, HE.out.setCell (p := ⟨w.heap.size + 1, 0, none⟩) (by show w.heap.size ≤ w.heap.size + 1; omega) _⟩
  | true =>
    obtain ⟨hh, ww, g⟩ := Cgt.goodB_iff.1 hg
    go_upto_region 3 with (go_at_call 41; refine (pGoodBoard_any _ ss _ (HV.out.ext hx2) HS.out.1 HS.out.2).mono ?_; rintro e w1 ⟨he, hx1⟩; rw [hg] at he; subst he)
    have d0 := cell_of_row w1 w.heap.size 0 _ _ _ ((hx1.block _ (blk_lt hb1)).trans hb1)
    simp only [gE] at d0
    have hr1 := (hx1.block _ (blk_lt hb2)).trans hb2
    have hE1 := ext_trans hx2 hx1
    have HG := Lib.hid (And.intro hg g)
    clear c0 hb1 hb2 hx1 hx2 hg g
    go_upto_region 99 with (go_at_call 66; refine (trimmed_any _ ss hh ww _ (HV.out.ext hE1) HG.out.2).mono ?_; rintro e w2 ⟨v2, s2, rfl, hT, ho2, hx3⟩; obtain ⟨a2, c2, rfl, -, -⟩ := own_len ho2; have hr2 := (hx3.block _ (blk_lt hr1)).trans hr1; have k1 := cell_of_row _ (w.heap.size + 1) 0 _ _ _ hr2; have k2 := frozen_of_row _ (w.heap.size + 1) 0 _ _ hr2)
    have HH := Lib.hid (heap_setCell_same w2 (w.heap.size + 1) 0 _ _ (.slice a2 s2.length c2) hr2)
    (try simp only [Exit.inBlock, Exit.then])
    refine bodyPost_ret (results_row_tmp rfl _ _ (w.heap.size + 1) 31 #[.slice a2 s2.length c2] (0, 0) _ rfl HH.out Tryz.underlying31 rfl (by kernel_rfl) rfl) rfl ?_
    have hz := blk_lt hr1
    exact ⟨_, s2, true, rfl, HG.out.1.symm, fun _ => hT, own_lowerB (own_keepG ho2 (keep_set (p := ⟨w.heap.size + 1, 0, none⟩)) (fun b hb e => by have := (ho2.lt b hb).1; have e' : b = w.heap.size + 1 := e; omega)) (by omega), (ext_trans hE1 hx3).setCell (p := ⟨w.heap.size + 1, 0, none⟩) (by show w.heap.size ≤ w.heap.size + 1; omega) _⟩

end Go.Proofs.YteknjeohbcgpdaaGreatDoor
