/-
  Contract of the reference's book of trees: value.
-/
import Derived.Test.YtjkdanmpihildaaGreatDoorQ28
import Derived.Lib.SlicesS
namespace Go.Proofs.YtjkdanmpihildaaGreatDoor
open Go.RowKit
open Cgt (Dag Nd vl Same Gm Canon Eqv Ge)

theorem info_string : (Tryz.prog.info? 9).map (fun i => (i.zero, i.size, i.bytes)) = some (some (.string ⟨#[]⟩), 1, 16) := by kernel_rfl
theorem info_form : (Tryz.prog.info? 28).map (fun i => (i.zero, i.size, i.bytes)) = some (some (.agg #[.slice none 0 0]), 1, 24) := by kernel_rfl

def ValPost (us : List Int) (s : List UInt8) (px : Nat) (vt vf : Value) (S : Nat → Prop) (L : List (ByteArray × Dag)) (w : World) (e : Ending) (w' : World) : Prop :=
  ∃ vN F vt' vf' S' L', e = .returned (.agg #[vN]) ∧ Sup S' (fun W => Nodes W 0 vN F) w' ∧ TreeVal F us s ∧ F.length ≤ kN us.length ∧ TB w' px vt' vf' S' L' ∧ TG w w' px vt vf S vt' vf' S' ∧ L'.length ≤ L.length + kN us.length

theorem Nodes.slice {w : World} {base : Nat} {v : Value} {F : Dag} (h : Nodes w base v F) : ∃ a c, v = .slice a F.length c := by
  obtain ⟨a, c, h, _⟩ := h; exact ⟨a, c, h⟩
theorem take_at0 {xs : List Value} {i : Nat} {v : Value} (h : (xs.drop (i * 1)).take 1 = [v]) : xs[i]? = some v := by
  have k := take_at h (j := 0) (by omega)
  rw [Nat.mul_one] at k; exact k

def ValOk (m : Nat) : Prop := ∀ (us : List Int) (sb : ByteArray) (vu : Value) (px : Nat) (vt vf : Value) (S : Nat → Prop) (L : List (ByteArray × Dag)) (w : World), us.length ≤ m → GT us sb.data.toList → Sup (Free w px vt vf) (fun W => Ints W vu us) w → TB w px vt vf S L → L.length + kN us.length ≤ 1000000 →
  Calls Tryz.prog 15 #[.pointer (some ⟨px, 0, none⟩), .agg #[vu, .string sb]] w (ValPost us sb.data.toList px vt vf S L w)

set_option maxHeartbeats 4000000 in
set_option maxRecDepth 100000 in
theorem value_step (m : Nat) (ih : ∀ k, k < m → ValOk k) : ValOk m := by
  intro us sb vu px vt vf S L w hm g hv hB hroom
  obtain ⟨i0, hi0, hz0', hz1, hz2⟩ := info_parts info_form
  obtain ⟨i1, hi1, hy0, hy1, hy2⟩ := info_parts info_string
  obtain ⟨au, capu, rfl, hlc, hcap, -⟩ := hv.out
  have hn8 := g.small
  go_enter Tryz.func15, Tryz.ntmps15
  go_wp2
  have hxe : Ext w ((w.alloc (.cells #[.slice au us.length capu, .string sb] 31)).alloc (.cells #[.slice none 0 0] 28)) := by go_grown
  have hbx : ((w.alloc (.cells #[.slice au us.length capu, .string sb] 31)).alloc (.cells #[.slice none 0 0] 28)).heap[w.heap.size]? = some (.cells #[.slice au us.length capu, .string sb] 31 (0, 0)) := by
    rw [Below.heap_alloc _ _ _ (by simp)]; exact heap_alloc_new _ _
  have hrs : ((w.alloc (.cells #[.slice au us.length capu, .string sb] 31)).alloc (.cells #[.slice none 0 0] 28)).heap[w.heap.size + 1]? = some (.cells #[.slice none 0 0] 28 (0, 0)) := by
    have h := heap_alloc_new (w.alloc (.cells #[.slice au us.length capu, .string sb] 31)) (.cells #[.slice none 0 0] 28); rw [World.size_alloc] at h; exact h
  have hzW : ((w.alloc (.cells #[.slice au us.length capu, .string sb] 31)).alloc (.cells #[.slice none 0 0] 28)).heap.size = w.heap.size + 2 := by simp
  generalize (w.alloc (.cells #[.slice au us.length capu, .string sb] 31)).alloc (.cells #[.slice none 0 0] 28) = W0 at *
  have HZW := Lib.hid hzW
  clear hzW
  have hB0 := hB.ext hxe
  have hv0 := hv.ext hxe
  have cb0 := cell_of_row W0 w.heap.size 0 _ _ _ hbx
  have hso : sb.size ≤ 8 := by have := g.len; simp at this; have : sb.size = sb.data.size := rfl; omega
  go_loop [5, 6] (fun tx ii => ∃ k tb, k ≤ us.length ∧ ii = .int .i64 ((k : Nat) : Int) ∧ tx = .string tb ∧ Hid (tb.data.toList = sb.data.toList ++ txt 46 (us.take k)) ∧ tb.size ≤ 8 + 3 * k) (fun _ ii => us.length - (intOf ii).toNat)
  case atStart => exact ⟨0, sb, Nat.zero_le _, rfl, rfl, by simp [Hid, txt], by omega⟩
  case round =>
    obtain ⟨k, tb, hk, rfl, rfl, HT, hts⟩ := hrel
    by_cases hlt : k < us.length
    · have h1 : ((k : Nat) : Int) < (us.length : Int) := by omega
      obtain ⟨a', c', he, -, -, hcell⟩ := hv0.out
      simp only [Value.slice.injEq] at he
      obtain ⟨rfl, -, rfl⟩ := he
      obtain ⟨b, off, rfl, hcell2⟩ := hcell (by omega)
      have cu := hcell2 k hlt
      have hu := g.up k hlt
      have hns : (numB (zat us k)).size ≤ 2 := by
        have : (numB (zat us k)).size = (numS (zat us k)).length := by simp [numB, ByteArray.size]
        rw [this, numS]; split <;> simp
      have HT2 : Hid ((tb ++ ⟨#[46]⟩ ++ numB (zat us k)).data.toList = sb.data.toList ++ txt 46 (us.take (k + 1))) := by
        have e1 : ({ data := #[46] } : ByteArray).data.toList = [46] := rfl
        unfold Hid
        rw [take_zat hlt, txt_snoc, ByteArray.data_append, Array.toList_append, ByteArray.data_append, Array.toList_append, HT.out, numB_list, e1]
        simp
      clear hcell hcell2
      go_wp2_with (go_at_call 31; refine (l1Num_any _ (by omega) (by omega) _).mono ?_; rintro e w1 ⟨rfl, rfl⟩)
      go_round
      case rel => exact ⟨k + 1, _, by omega, by go_num, rfl, HT2, by have e46 : ({ data := #[46] } : ByteArray).size = 1 := rfl; rw [ByteArray.size_append, ByteArray.size_append, e46]; omega⟩
      case measure => simp [intOf]; omega
    · have h1 : ¬ (((k : Nat) : Int) < (us.length : Int)) := by omega
      have hke : k = us.length := by omega
      have HT3 : Hid (tb.data.toList = sb.data.toList ++ txt 46 us) := by have := HT.out; rw [hke, List.take_of_length_le (Nat.le_refl _)] at this; exact this
      clear HT hke
      have HTS := Lib.hid hts
      clear hts
      go_wp2
      have hcx := cell_of_row W0 px 0 _ _ _ hB0.cells
      have hcy := cell_of_row W0 px 1 _ _ _ hB0.cells
      obtain ⟨aT, cT, rfl, hcT, hcT2⟩ := own_len hB0.texts
      obtain ⟨xsF, hoF, hiF⟩ := hB.forms
      have hoF := own_keep hoF hxe
      obtain ⟨aF, cF, rfl, hcF, hcF2⟩ := own_len hoF
      go_loop [7] (fun ii => ∃ q, q ≤ L.length ∧ ii = .int .i64 ((q : Nat) : Int) ∧ Hid (∀ j (h : j < L.length), j < q → (L[j]).1 ≠ tb)) (fun ii => L.length - (intOf ii).toNat)
      case atStart => exact ⟨0, Nat.zero_le _, rfl, fun j _ h => absurd h (by omega)⟩
      case round =>
        obtain ⟨q, hq, rfl, HN⟩ := hrel
        by_cases hlt2 : q < L.length
        · have h2 : ((q : Nat) : Int) < (L.length : Int) := by omega
          obtain ⟨gT, cT', he, -, -, hcellT⟩ := own_at hB0.texts (by omega)
          simp only [Value.slice.injEq] at he
          obtain ⟨rfl, -, rfl⟩ := he
          have ct := hcellT q (by omega)
          rw [List.getElem?_map, List.getElem?_eq_getElem hlt2, Option.map_some] at ct
          clear hcellT
          by_cases heq : (L[q]).1 = tb
          · have heqb : ((L[q]).1.toList == tb.toList) = true := (Lib.bytes_beq_iff _ _).2 heq
            obtain ⟨us', s', g', hx1, hV', hl'⟩ := hB0.law _ (List.getElem_mem hlt2)
            have hun : us' = us ∧ s' = sb.data.toList := text_inj (c := 46) (by decide) g' g (by rw [← hx1, heq, HT3.out])
            obtain ⟨rfl, rfl⟩ := hun
            have hlF : (L.map (·.2)).length = L.length := by simp
            obtain ⟨gF, cF', he, -, -, hcellF⟩ := own_at hoF (by omega)
            simp only [Value.slice.injEq] at he
            obtain ⟨rfl, -, rfl⟩ := he
            obtain ⟨aN, cN, e1, hN1⟩ := hiF.2.out q (by simpa using hlt2)
            have cf := hcellF q (by omega)
            rw [take_at0 e1] at cf
            simp only [List.getElem_map] at cf hN1
            have hsupN : Sup S (fun W => Nodes W 0 (.slice aN (L[q]).2.length cN) (L[q]).2) w := ⟨hiF.2.1, fun w2 h2 => by
              obtain ⟨aN', cN', e1', hN1'⟩ := hiF.2.2 w2 h2 q (by simpa using hlt2)
              rw [e1] at e1'
              simp only [List.getElem_map, List.cons.injEq, Value.slice.injEq, true_and, and_true] at e1' hN1'
              obtain ⟨rfl, rfl⟩ := e1'
              exact hN1'⟩
            have cr0 := cell_of_row W0 (w.heap.size + 1) 0 _ _ _ hrs
            have fr0 := frozen_of_row W0 (w.heap.size + 1) 0 _ _ hrs
            have HH : Hid ((W0.setCell ⟨w.heap.size + 1, 0, none⟩ (.slice aN (L[q]).2.length cN)).heap[w.heap.size + 1]? = some (.cells #[.slice aN (L[q]).2.length cN] 28 (0, 0))) := heap_setCell_same _ _ _ _ _ _ hrs
            have HV := Lib.hid (And.intro hV' (And.intro hl' hsupN))
            have HQ := Lib.hid heq
            clear heq hx1 hV' hl' hsupN hN1 e1 hcellF hlF
            go_wp2
            (try simp only [Exit.inBlock, Exit.then])
            refine bodyPost_ret (results_cell_row rfl _ _ (w.heap.size + 1) 28 #[.slice aN (L[q]).2.length cN] (0, 0) _ rfl HH.out Tryz.underlying28 rfl (by kernel_rfl)) rfl ?_
            have hxw : Ext w (W0.setCell ⟨w.heap.size + 1, 0, none⟩ (.slice aN (L[q]).2.length cN)) := hxe.setCell (p := ⟨w.heap.size + 1, 0, none⟩) (by show w.heap.size ≤ w.heap.size + 1; omega) _
            exact ⟨_, (L[q]).2, _, _, S, L, rfl, HV.out.2.2.ext hxw, HV.out.1, HV.out.2.1, hB.ext hxw, TG.ext hxw, by omega⟩
          · have hne : ((L[q]).1.toList == tb.toList) = false := (Lib.bytes_beq_false_iff _ _).2 heq
            have HQ := Lib.hid heq
            clear heq
            go_wp2
            go_round
            case rel => exact ⟨q + 1, by omega, by go_num, fun j hj hjq => by
              by_cases e : j = q
              · subst e; exact HQ.out
              · exact HN.out j hj (by omega)⟩
            case measure => simp [intOf]; omega
        · have h2 : ¬ (((q : Nat) : Int) < (L.length : Int)) := by omega
          have hqe : q = L.length := by omega
          go_wp2
          clear hcx hcy cb0 h2
          subst hqe
          have hW0 := HZW.out
          obtain ⟨f, hf⟩ : ∃ f : Nat → Value, f = fun p => if p = 0 then .slice (some ⟨W0.heap.size, 0, none⟩) 0 0 else .slice (some ⟨W0.heap.size + 1, 0, none⟩) 0 0 := ⟨_, rfl⟩
          have hVM : VM w (((W0.alloc (.cells #[] 28)).alloc (.cells #[] 28)).alloc (.cells #[.slice (some ⟨W0.heap.size, 0, none⟩) 0 0, .slice (some ⟨W0.heap.size + 1, 0, none⟩) 0 0] 42)) px (.slice aT L.length cT) (.slice aF L.length cF) S L us sb (.slice au us.length capu) (W0.heap.size + 1 + 1) (.slice aT L.length cT) (.slice aF L.length cF) S L f (fun _ => []) := by
            have hx3 : Ext W0 (((W0.alloc (.cells #[] 28)).alloc (.cells #[] 28)).alloc (.cells #[.slice (some ⟨W0.heap.size, 0, none⟩) 0 0, .slice (some ⟨W0.heap.size + 1, 0, none⟩) 0 0] 42)) := by go_grown
            have hI : ∀ b, InS px (.slice aT L.length cT) (.slice aF L.length cF) b → b < w.heap.size := fun b => hB.insLt
            have hS : ∀ b, S b → b < w.heap.size := fun b => hB.sLt
            have hf0 : f 0 = .slice (some ⟨W0.heap.size, 0, none⟩) 0 0 := by rw [hf]; rfl
            have hf1 : f 1 = .slice (some ⟨W0.heap.size + 1, 0, none⟩) 0 0 := by rw [hf]; rfl
            have hz3 : (((W0.alloc (.cells #[] 28)).alloc (.cells #[] 28)).alloc (.cells #[.slice (some ⟨W0.heap.size, 0, none⟩) 0 0, .slice (some ⟨W0.heap.size + 1, 0, none⟩) 0 0] 42)).heap.size = W0.heap.size + 3 := by simp
            have hss : ∀ b, SS (W0.heap.size + 1 + 1) f b → w.heap.size + 1 < b ∧ b < W0.heap.size + 3 := fun b hb => by
              rcases hb with hb | hb | hb
              · omega
              · rw [hf0] at hb; simp [Value.ownBlock] at hb; omega
              · rw [hf1] at hb; simp [Value.ownBlock] at hb; omega
            refine ⟨hB.ext (ext_trans hxe hx3), TG.ext (ext_trans hxe hx3), ?_, ?_, ?_, fun q hq => ⟨[], ?_, Items.nil (fun b hb => by have := hS b hb; omega)⟩, fun q hq => ?_, fun b hb e => ?_, ⟨fun k => by have := hI _ k; omega, fun k => by have := hS _ k; omega⟩, ⟨fun k => by have := hI _ k; omega, fun k => by have := hS _ k; omega⟩, fun b hb => ⟨fun k => by have := hI _ k; have := hss b hb; omega, fun k => by have := hS _ k; have := hss b hb; omega⟩, fun b hb => by rw [hz3]; exact hss b hb, fun q hq => FsOf.nil _ _ _⟩
            · rw [hx3.block _ (blk_lt hbx)]; exact hbx
            · rw [hx3.block _ (blk_lt hrs)]; exact hrs
            · rw [hf0, hf1]
              have h := heap_alloc_new ((W0.alloc (.cells #[] 28)).alloc (.cells #[] 28)) (.cells #[.slice (some ⟨W0.heap.size, 0, none⟩) 0 0, .slice (some ⟨W0.heap.size + 1, 0, none⟩) 0 0] 42)
              rw [World.size_alloc, World.size_alloc] at h; exact h
            · rcases lt2 hq with rfl | rfl
              · rw [hf0]
                exact ((own_empty W0 w.heap.size (by omega) 28).alloc _).alloc _
              · rw [hf1]
                exact (own_empty2 W0 (.cells #[] 28) w.heap.size (by omega) 28).alloc _
            · rcases lt2 hq with rfl | rfl
              · rw [hf0]; simp [Value.ownBlock] <;> omega
              · rw [hf1]; simp [Value.ownBlock] <;> omega
            · rw [hf0] at hb; rw [hf1] at e; simp [Value.ownBlock] at hb e; omega
          have hsl : Value.slice (some ⟨W0.heap.size + 1 + 1, 0, none⟩) 2 2 = .slice (some ⟨W0.heap.size + 1 + 1, 0, none⟩) 2 2 := rfl
          generalize hWW : ((W0.alloc (.cells #[] 28)).alloc (.cells #[] 28)).alloc (.cells #[.slice (some ⟨W0.heap.size, 0, none⟩) 0 0, .slice (some ⟨W0.heap.size + 1, 0, none⟩) 0 0] 42) = W1 at *
          generalize W0.heap.size + 1 + 1 = bs at *
          clear hsl hWW hf hW0
          clear hxe hbx hrs hB0 hv0 hcT hcF hcT2 hcF2 hoF hiF HN
          go_loopw [9] (fun ss wr => ∃ s vt vf S' L' f Fs, s ≤ 2 ∧ ss = .int .i64 ((s : Nat) : Int) ∧ VM w wr px (.slice aT L.length cT) (.slice aF L.length cF) S L us sb (.slice au us.length capu) bs vt vf S' L' f Fs ∧ L'.length ≤ L.length + ((Fs 0).length + (Fs 1).length) * kN (us.length - 1) ∧ Hid (∀ q, q < 2 → (Fs q).length = if q < s then (edges sb.data.toList (q == 0) us.length).length else 0)) (fun ss _ => 2 - (intOf ss).toNat)
          case atStart => exact ⟨0, _, _, S, L, f, fun _ => [], by omega, rfl, hVM, by omega, fun q _ => rfl⟩
          case round =>
            clear hVM f
            obtain ⟨s, vt, vf, S', L', f, Fs, hs, rfl, hV, hLL, HF⟩ := hrel
            by_cases hlt3 : s < 2
            · have h3 : ((s : Nat) : Int) < 2 := by omega
              have hvr := (hV.tg.sup hv (fun b hb => hb.2)).out
              have cb0 := cell_of_row wr w.heap.size 0 _ _ _ hV.box
              have cb1 := cell_of_row wr w.heap.size 1 _ _ _ hV.box
              go_wp2_with (go_at_call 32; refine (l22Cuts_any _ us sb _ _ hvr g).mono ?_; rintro e w1 ⟨vC, Ts, rfl, hRT, hCT, hx1⟩; have hV1 := hV.ext hx1; obtain ⟨xsC, aC, cC, rfl, hcC, hcC2, -⟩ := id hRT)
              have hleft : CutsOf us sb.data.toList (s == 0) us.length Ts := by
                have e1 : (((s : Nat) : Int) == 0) = (s == 0) := by rcases lt2 hlt3 with rfl | rfl <;> rfl
                rw [← e1]; exact hCT
              have hTd : ∀ b, (wr.heap.size ≤ b ∧ b < w1.heap.size) → ¬ InS px vt vf b ∧ ¬ SS bs f b := fun b hb => ⟨fun k => by have := hV.tb.insLt k; omega, fun k => by have := (hV.gt b k).2; omega⟩
              have HTL := Lib.hid hleft.len
              have HCT := Lib.hid hleft
              have hF0 : (Fs s).length = 0 := by rw [HF.out s hlt3, if_neg (by omega)]
              clear hCT hleft hV cb0 cb1 hvr hx1
              obtain ⟨wo, rfl⟩ : ∃ wo : World, wo = wr := ⟨_, rfl⟩
              go_loopw [11] (fun ii w2 => ∃ i vt2 vf2 S2 L2 f2 Fs2, i ≤ Ts.length ∧ ii = .int .i64 ((i : Nat) : Int) ∧ VM w w2 px (.slice aT L.length cT) (.slice aF L.length cF) S L us sb (.slice au us.length capu) bs vt2 vf2 S2 L2 f2 Fs2 ∧ L2.length ≤ L.length + ((Fs2 0).length + (Fs2 1).length) * kN (us.length - 1) ∧ (Fs2 s).length = i ∧ Hid (∀ q, q < 2 → q ≠ s → Fs2 q = Fs q) ∧ Rows TreeR 2 (fun b => wo.heap.size ≤ b ∧ b < w1.heap.size) w2 (.slice aC Ts.length cC) Ts ∧ (∀ b, (wo.heap.size ≤ b ∧ b < w1.heap.size) → ¬ InS px vt2 vf2 b ∧ ¬ SS bs f2 b) ∧ w1.heap.size ≤ w2.heap.size) (fun ii _ => Ts.length - (intOf ii).toNat)
              case atStart => exact ⟨0, vt, vf, S', L', f, Fs, Nat.zero_le _, rfl, hV1, hLL, hF0, fun _ _ _ => rfl, hRT, hTd, Nat.le_refl _⟩
              case round =>
                clear hV1 hRT hTd hF0 hLL
                obtain ⟨i, vt2, vf2, S2, L2, f2, Fs2, hi, rfl, hV2, hL2, hFl, HFo, hRT, hTd, hz12⟩ := hrel
                obtain ⟨w2, rfl⟩ : ∃ w2 : World, w2 = wr := ⟨_, rfl⟩
                by_cases hlt4 : i < Ts.length
                · have h4 : ((i : Nat) : Int) < (Ts.length : Int) := by omega
                  go_wp2_with fail
                  obtain ⟨bC, capC, aU, cU, he, hTb, cl, cr, hIU⟩ := hRT.tree hlt4
                  simp only [Value.slice.injEq] at he
                  obtain ⟨rfl, -, rfl⟩ := he
                  obtain ⟨xs, hown, hit⟩ := hV2.row s hlt3
                  obtain ⟨af, cf, hfs, hcf, _⟩ := own_len hown
                  have cs : ∀ W : World, W.heap[bs]? = some (.cells #[f2 0, f2 1] 42 (0, 0)) → W.cell? ⟨bs, s, none⟩ = some (.slice af (Fs2 s).length cf) := fun W hW => by
                    rw [cell_of_row W bs s _ _ _ hW, ← hfs]; rcases lt2 hlt3 with rfl | rfl <;> rfl
                  have htot : (Fs2 0).length + (Fs2 1).length + 1 ≤ us.length := by
                    have el := edges_len sb.data.toList us.length
                    have hl := HTL.out
                    rcases lt2 hlt3 with rfl | rfl
                    · have e1 := HFo.out 1 (by omega) (by omega); have h0 := HF.out 1 (by omega); rw [e1, h0, hFl]; simp at hl ⊢; omega
                    · have e1 := HFo.out 0 (by omega) (by omega); have h0 := HF.out 0 (by omega); rw [e1, h0, hFl]; simp at hl ⊢; omega
                  have hkr := kN_room htot
                  have hi8 : i ≤ 8 := by have := hFl; rcases lt2 hlt3 with rfl | rfl <;> omega
                  obtain ⟨e, he1, he2, he3⟩ := HCT.out.at hlt4
                  obtain ⟨g', hl'⟩ := cut_good g (edges_lt (List.mem_of_getElem? he1))
                  rw [← he2] at g' hl'
                  rw [← he3] at g'
                  have hkm : kN (Ts[i]).1.length ≤ kN (us.length - 1) := kN_mono (by omega)
                  have hx0 : Ext w2 w2.drew := ⟨rfl, rfl, rfl, Nat.le_refl _, fun _ _ => rfl⟩
                  have hVd := hV2.ext hx0
                  have hownd := own_keep hown hx0
                  have hitd := hit.ext hx0
                  rw [hfs, hFl] at hownd
                  have hIUd : Sup (Free w2.drew px vt2 vf2) (fun W => Ints W (.slice aU (Ts[i]).1.length cU) (Ts[i]).1) w2.drew := (hIU.ext hx0).mono (fun b hb => ⟨(hIU.ext hx0).1 b hb, (hTd b hb).1⟩) (fun b hb => hb.1) (fun _ h => h)
                  have hzT : ∀ W : World, (∀ b, (wo.heap.size ≤ b ∧ b < w1.heap.size) → W.heap[b]? = w2.heap[b]?) → W.cell? ⟨bC, i * 2, none⟩ = some (.slice aU (Ts[i]).1.length cU) ∧ W.cell? ⟨bC, i * 2 + 1, none⟩ = some (.string (Ts[i]).2) := fun W hW => by
                    have e := hW bC hTb
                    exact ⟨by rw [World.cell?_of_block (w := w2) e]; exact cl, by rw [World.cell?_of_block (w := w2) e]; exact cr⟩
                  have hS0 : w2.cell? ⟨bs, s, none⟩ = some (.slice af i cf) ∧ w2.cell? ⟨bC, i * 2, none⟩ = some (.slice aU (Ts[i]).1.length cU) ∧ w2.cell? ⟨bC, i * 2 + 1, none⟩ = some (.string (Ts[i]).2) := ⟨by rw [cs _ hV2.blk, hFl], hzT w2 (fun _ _ => rfl)⟩
                  rw [hFl] at cs
                  have HE1 := Lib.hid he1
                  have HE2 := Lib.hid he2
                  have HE3 := Lib.hid he3
                  have HFL := Lib.hid hFl
                  have HFS := Lib.hid hfs
                  clear he1 he2 he3 hFl hfs cl cr
                  refine wp_region_T (fun W => W.cell? ⟨bs, s, none⟩ = some (.slice af i cf) ∧ W.cell? ⟨bC, i * 2, none⟩ = some (.slice aU (Ts[i]).1.length cU) ∧ W.cell? ⟨bC, i * 2 + 1, none⟩ = some (.string (Ts[i]).2)) [14, 15] (by kernel_rfl) hS0 (fun hHeld => ?_)
                  ((refine tkT (i := 0) (v := ?v1) (by simp only [gE]; rfl) hHeld (Or.inl ⟨by rfl, ?hy1⟩) ?r1; case hy1 => (intro w' hSw; (try dsimp only at hSw); go_simp; (try with_reducible rfl))); (try simp only [Act.put, nE]); (refine tkT (i := 1) (v := ?v2) (by simp only [gE]; rfl) hHeld (Or.inl ⟨by rfl, ?hy2⟩) ?r2; case hy2 => (intro w' hSw; (try dsimp only at hSw); go_simp; (try with_reducible rfl))); (try simp only [Act.put, nE]); (refine tkT (i := 2) (v := ?v3) (by simp only [gE]; rfl) hHeld (Or.inl ⟨by rfl, ?hy3⟩) ?r3; case hy3 => (intro w' hSw; (try dsimp only at hSw); go_simp; (try with_reducible rfl))); (try simp only [Act.put, nE]); (refine tkT (i := 3) (v := ?v4) (by simp only [gE]; rfl) hHeld (Or.inl ⟨by rfl, ?hy4⟩) ?r4; case hy4 => (intro w' hSw; (try dsimp only at hSw); go_simp; (try with_reducible rfl))); (try simp only [Act.put, nE]); (refine tkT (i := 4) (v := ?v5) (by simp only [gE]; rfl) hHeld (Or.inl ⟨by rfl, ?hy5⟩) ?r5; case hy5 => (intro w' hSw; (try dsimp only at hSw); go_simp; (try with_reducible rfl))); (try simp only [Act.put, nE]); (refine tkT (i := 5) (v := ?v6) (by simp only [gE]; rfl) hHeld (Or.inl ⟨by rfl, ?hy6⟩) ?r6; case hy6 => (intro w' hSw; (try dsimp only at hSw); go_simp; (try with_reducible rfl))); (try simp only [Act.put, nE]); (refine tkT (i := 6) (v := ?v7) (by simp only [gE]; rfl) hHeld (Or.inl ⟨by rfl, ?hy7⟩) ?r7; case hy7 => (intro w' hSw; (try dsimp only at hSw); go_simp; (try with_reducible rfl))); (try simp only [Act.put, nE]); (refine tkT (i := 7) (v := ?v8) (by simp only [gE]; rfl) hHeld (Or.inl ⟨by rfl, ?hy8⟩) ?r8; case hy8 => (intro w' hSw; (try dsimp only at hSw); go_simp; (try with_reducible rfl))); (try simp only [Act.put, nE]); (refine tkT (i := 8) (v := ?v9) (by simp only [gE]; rfl) hHeld (Or.inl ⟨by rfl, ?hy9⟩) ?r9; case hy9 => (intro w' hSw; (try dsimp only at hSw); go_simp; (try with_reducible rfl))); (try simp only [Act.put, nE]); (refine tkT (i := 9) (v := ?v10) (by simp only [gE]; rfl) hHeld (Or.inl ⟨by rfl, ?hy10⟩) ?r10; case hy10 => (intro w' hSw; (try dsimp only at hSw); go_simp; (try with_reducible rfl))); (try simp only [Act.put, nE]); (refine tkT (i := 10) (v := ?v11) (by simp only [gE]; rfl) hHeld (Or.inl ⟨by rfl, ?hy11⟩) ?r11; case hy11 => (intro w' hSw; (try dsimp only at hSw); go_simp; (try with_reducible rfl))); (try simp only [Act.put, nE]))
                  (refine wpAnyT_step (i := 11) (o := _) (by kernel_rfl) (by simp only [gE]; rfl) (fun K hK => ?_); go_simp)
                  refine (ih (Ts[i]).1.length (by omega) (Ts[i]).1 (Ts[i]).2 _ px vt2 vf2 S2 L2 _ (Nat.le_refl _) g' hIUd hVd.tb (by omega)).mono ?_
                  rintro en w3 ⟨vN, F, vt3, vf3, S3, L3, rfl, hsN, hTV, hFk, hB3, hG3, hL3⟩
                  obtain ⟨aN, cN, rfl⟩ := hsN.out.slice
                  have hV3 := hVd.go hB3 hG3
                  have hT3 : ∀ b, (wo.heap.size ≤ b ∧ b < w1.heap.size) → w3.heap[b]? = w2.heap[b]? := fun b hb => hG3.block (w := w2.drew) (by show b < w2.heap.size; omega) (hTd b hb).1
                  have hRT3 := (hRT.ext hx0).keep hG3.keep (fun b hb => (hTd b hb).1)
                  obtain ⟨hown3, hit3⟩ := hVd.rowgo hB3 hG3 hlt3 (by rw [HFS.out, HFL.out]; exact hownd) hitd
                  rw [HFS.out, HFL.out] at hown3
                  have hTd3 : ∀ b, (wo.heap.size ≤ b ∧ b < w1.heap.size) → ¬ InS px vt3 vf3 b := fun b hb k => by
                    rcases hG3.ins b k with k | k
                    · exact (hTd b hb).1 k
                    · have : w2.drew.heap.size = w2.heap.size := rfl; omega
                  (refine hK.out _ _ (fun _ => ?_) ?_)
                  · exact ⟨cs _ hV3.blk, hzT _ hT3⟩
                  clear hK K
                  (try simp only [Act.put, nE])
                  (refine wpAnyT_step (i := 12) (o := _) (by kernel_rfl) (by simp only [gE]; rfl) (fun K hK => ?_); go_simp)
                  have hx4 : Ext w3 (w3.alloc (.cells #[.slice aN F.length cN] 28)) := by go_grown
                  have hV4 := hV3.ext hx4
                  have hT4 : ∀ b, (wo.heap.size ≤ b ∧ b < w1.heap.size) → (w3.alloc (.cells #[.slice aN F.length cN] 28)).heap[b]? = w2.heap[b]? := fun b hb => by
                    have hz3 := hG3.keep.size
                    have : w2.drew.heap.size = w2.heap.size := rfl
                    rw [hx4.block b (by omega)]; exact hT3 b hb
                  (refine hK.out _ _ (fun _ => ?_) ?_)
                  · exact ⟨cs _ hV4.blk, hzT _ hT4⟩
                  clear hK K
                  (try simp only [Act.put, nE])
                  (refine wpAnyT_step (i := 13) (o := _) (by kernel_rfl) (by simp only [gE]; rfl) (fun K hK => ?_))
                  refine app_step rfl (.tmp 78) (.tmp 85) 42 rfl w.heap.size 28 i0 (.agg #[.slice none 0 0]) 1 24 Tryz.underlying42 hi0 hz0' hz1 hz2 rfl (by decide) (.slice af i cf) i xs rfl (own_keep hown3 hx4) _ 1 _ [.slice aN F.length cN] rfl rfl (.inr ⟨_, rfl, one_src (new_cell _ _ _)⟩) (by intro u hu; simp at hu; subst hu; rfl) (by unfold maxLen; omega) (by omega) (by have := hV4.tg.keep.size; exact this) ?_
                  intro v5 w5 ho5 hg5 hl5
                  obtain ⟨a5, c5, rfl, -⟩ := own_len ho5
                  have hap : Value.ownBlock (.slice af i cf) ≠ some bs := by have := hV3.ap s hlt3; rw [HFS.out, HFL.out] at this; exact this
                  have hss : ∀ b, Value.ownBlock (.slice af i cf) = some b → SS bs f2 b := fun b hb => SS.of hlt3 (by rw [HFS.out, HFL.out]; exact hb)
                  have hz4 := hx4.size
                  have hz3 := hG3.keep.size
                  have hz2 : w2.drew.heap.size = w2.heap.size := rfl
                  have hb5 : w5.heap[bs]? = some (.cells #[f2 0, f2 1] 42 (0, 0)) := by
                    rw [hg5.block bs (blk_lt hV4.blk) (fun e => hap e.symm)]; exact hV4.blk
                  have hT5 : ∀ b, (wo.heap.size ≤ b ∧ b < w1.heap.size) → w5.heap[b]? = w2.heap[b]? := fun b hb => by
                    rw [hg5.block b (by omega) (fun e => (hTd b hb).2 (hss b e.symm))]; exact hT4 b hb
                  have cbs := cs _ hb5
                  have fbs := frozen_of_row w5 bs s _ _ hb5
                  have hFR : Sup S3 (fun W => FormR W [.slice aN F.length cN] F) w3 := hsN.mono (fun _ h => h) hsN.1 (fun W h => ⟨aN, cN, rfl, h⟩)
                  have hP := hV3.push hlt3 (v5 := .slice a5 (i + 1) c5) (e := e) hit3 hFR (by rw [HFL.out]; exact ho5) (by rw [HFS.out, HFL.out]; exact hg5) (by rw [HFS.out, HFL.out]; exact hl5) (by rw [HFL.out]; exact HE1.out) (by rw [← HE2.out, ← HE3.out]; exact hTV) (by omega)
                  have hRT5 : Rows TreeR 2 (fun b => wo.heap.size ≤ b ∧ b < w1.heap.size) (w5.setCell ⟨bs, s, none⟩ (.slice a5 (i + 1) c5)) (.slice (some ⟨bC, 0, none⟩) Ts.length cC) Ts := by
                    refine hRT3.keep (G := SS bs f2) ⟨hg5.os, hg5.tape, hg5.output, by have := hg5.size; rw [World.size_setCell]; omega, fun k hk hn => ?_⟩ (fun b hb => (hTd b hb).2)
                    rw [heap_setCell_other _ _ _ _ (fun e => hn (.inl e)), hg5.block k (by omega) (fun e => hn (hss k e.symm)), hx4.block k hk]
                  have hTd5 : ∀ b, (wo.heap.size ≤ b ∧ b < w1.heap.size) → ¬ InS px vt3 vf3 b ∧ ¬ SS bs (fun p => if p = s then .slice a5 (i + 1) c5 else f2 p) b := fun b hb => ⟨hTd3 b hb, fun k => by
                    rcases SS.push (wr := w3.alloc (.cells #[.slice aN F.length cN] 28)) hlt3 (by rw [HFS.out, HFL.out]; exact hl5) b k with k | k
                    · exact (hTd b hb).2 k
                    · omega⟩
                  have hz5 : w1.heap.size ≤ (w5.setCell ⟨bs, s, none⟩ (.slice a5 (i + 1) c5)).heap.size := by have := hg5.size; rw [World.size_setCell]; omega
                  have hLn : L3.length ≤ L.length + (((fun p => if p = s then Fs2 s ++ [F] else Fs2 p) 0).length + ((fun p => if p = s then Fs2 s ++ [F] else Fs2 p) 1).length) * kN (us.length - 1) := by
                    have e : ((fun p => if p = s then Fs2 s ++ [F] else Fs2 p) 0).length + ((fun p => if p = s then Fs2 s ++ [F] else Fs2 p) 1).length = (Fs2 0).length + (Fs2 1).length + 1 := by
                      rcases lt2 hlt3 with rfl | rfl <;> simp <;> omega
                    rw [e, Nat.add_mul]; omega
                  have HR := Lib.hid (And.intro hP (And.intro hRT5 (And.intro hTd5 (And.intro hz5 hLn))))
                  clear hP hRT5 hTd5 hz5 hLn hRT3 hit3 hown3 hV3 hV4 hVd hT3 hT4 hFR hsN hownd hitd hIUd hIU
                  (refine hK.out _ _ (fun _ => ?_) ?_)
                  · exact ⟨cbs, hzT _ hT5⟩
                  clear hK K
                  (try simp only [Act.put, nE])
                  refine wpAnyT_tail [14, 15] [?o12_14, ?o12_15] _ _ _ _ (by simp) (by kernel_rfl) (by rfl) (by simp only [List.map_cons, List.map_nil, gE]; rfl) ?_
                  go_wp2_with fail
                  go_roundw
                  case rel => exact ⟨i + 1, vt3, vf3, S3, L3, _, _, by omega, by go_num, HR.out.1, HR.out.2.2.2.2, by simp [HFL.out], fun q hq hqs => by simp only [hqs, if_false]; exact HFo.out q hq hqs, HR.out.2.1, HR.out.2.2.1, HR.out.2.2.2.1⟩
                  case measure => simp [intOf]; omega
                · have h4 : ¬ (((i : Nat) : Int) < (Ts.length : Int)) := by omega
                  have HF2 : Hid (∀ q, q < 2 → (Fs2 q).length = if q < s + 1 then (edges sb.data.toList (q == 0) us.length).length else 0) := fun q hq => by
                    by_cases c : q = s
                    · subst c; rw [if_pos (by omega), hFl, ← HTL.out]; omega
                    · rw [HFo.out q hq c, HF.out q hq]
                      by_cases d : q < s
                      · rw [if_pos d, if_pos (by omega)]
                      · rw [if_neg d, if_neg (by omega)]
                  clear hFl
                  go_wp2
                  go_roundw
                  case rel => exact ⟨s + 1, vt2, vf2, S2, L2, f2, Fs2, by omega, by go_num, hV2, hL2, HF2.out⟩
                  case measure => simp [intOf]; omega
            · have h3 : ¬ (((s : Nat) : Int) < 2) := by omega
              have hse : s = 2 := by omega
              subst hse
              go_wp2
              obtain ⟨xs0, hown0, hit0⟩ := hV.row 0 (by omega)
              obtain ⟨xs1, hown1, hit1⟩ := hV.row 1 (by omega)
              obtain ⟨a0, c0, hf0, hc0, _⟩ := own_len hown0
              obtain ⟨a1, c1, hf1, hc1, _⟩ := own_len hown1
              have hl0 : (Fs 0).length = (edges sb.data.toList true us.length).length := by have := HF.out 0 (by omega); simpa using this
              have hl1 : (Fs 1).length = (edges sb.data.toList false us.length).length := by have := HF.out 1 (by omega); simpa using this
              have hFo0 : FsOf us sb.data.toList true (Fs 0) := hV.fs 0 (by omega)
              have hFo1 : FsOf us sb.data.toList false (Fs 1) := hV.fs 1 (by omega)
              have hsz := tree_size hFo0 hFo1 hl0 hl1
              have hk8 := kN_8 hn8
              have hll := edges_len sb.data.toList us.length
              have hbl := hV.blk
              rw [hf0, hf1] at hbl
              have hB0 : Forms wr (.slice a0 (Fs 0).length c0) (Fs 0) := by
                rw [← hf0]; exact (Rows.of_own (T := fun b => b < wr.heap.size) hown0 rfl hit0 (fun b hb => hit0.2.1 b hb) (fun b hb => (hown0.lt b hb).2) (fun _ h => h)).forms
              have hB1 : Forms wr (.slice a1 (Fs 1).length c1) (Fs 1) := by
                rw [← hf1]; exact (Rows.of_own (T := fun b => b < wr.heap.size) hown1 rfl hit1 (fun b hb => hit1.2.1 b hb) (fun b hb => (hown1.lt b hb).2) (fun _ h => h)).forms
              have HL0 := Lib.hid hl0
              have HL1 := Lib.hid hl1
              have hlt0 : (Fs 0).length ≤ 8 := by omega
              have hlt1 : (Fs 1).length ≤ 8 := by omega
              clear hf0 hf1 hl0 hl1 hll
              go_cut [12] (fun x wc => ∃ p aN cN F, x = .pointer (some ⟨p, 0, none⟩) ∧ wr.heap.size ≤ p ∧ wc.heap[p]? = some (.cells #[.slice aN (List.length F) cN] 28 (0, 0)) ∧ Ext wr wc ∧ TreeVal F us sb.data.toList ∧ F.length ≤ kN us.length ∧ Sup (fun b => wr.heap.size ≤ b ∧ b < wc.heap.size ∧ b ≠ p) (fun W => Nodes W 0 (.slice aN (List.length F) cN) F) wc)
              case first =>
                have hSx : ∀ W : World, Ext wr W → W.cell? ⟨bs, 0, none⟩ = some (.slice a0 (Fs 0).length c0) ∧ W.cell? ⟨bs, 1, none⟩ = some (.slice a1 (Fs 1).length c1) := fun W hW => by
                  have hb : W.heap[bs]? = some (.cells #[.slice a0 (Fs 0).length c0, .slice a1 (Fs 1).length c1] 42 (0, 0)) := by rw [hW.block _ (blk_lt hbl)]; exact hbl
                  exact ⟨cell_of_row W bs 0 _ _ _ hb, cell_of_row W bs 1 _ _ _ hb⟩
                refine wp_region_T (fun W => W.cell? ⟨bs, 0, none⟩ = some (.slice a0 (Fs 0).length c0) ∧ W.cell? ⟨bs, 1, none⟩ = some (.slice a1 (Fs 1).length c1)) [9] (by kernel_rfl) (hSx _ ⟨rfl, rfl, rfl, Nat.le_refl _, fun _ _ => rfl⟩) (fun hHeld => ?_)
                ((refine tkT (i := 0) (v := ?v13) (by simp only [gE]; rfl) hHeld (Or.inl ⟨by rfl, ?hy13⟩) ?r13; case hy13 => (intro w' hSw; (try dsimp only at hSw); go_simp; (try with_reducible rfl))); (try simp only [Act.put, nE]); (refine tkT (i := 1) (v := ?v14) (by simp only [gE]; rfl) hHeld (Or.inl ⟨by rfl, ?hy14⟩) ?r14; case hy14 => (intro w' hSw; (try dsimp only at hSw); go_simp; (try with_reducible rfl))); (try simp only [Act.put, nE]); (refine tkT (i := 2) (v := ?v15) (by simp only [gE]; rfl) hHeld (Or.inl ⟨by rfl, ?hy15⟩) ?r15; case hy15 => (intro w' hSw; (try dsimp only at hSw); go_simp; (try with_reducible rfl))); (try simp only [Act.put, nE]); (refine tkT (i := 3) (v := ?v16) (by simp only [gE]; rfl) hHeld (Or.inl ⟨by rfl, ?hy16⟩) ?r16; case hy16 => (intro w' hSw; (try dsimp only at hSw); go_simp; (try with_reducible rfl))); (try simp only [Act.put, nE]); (refine tkT (i := 4) (v := ?v17) (by simp only [gE]; rfl) hHeld (Or.inl ⟨by rfl, ?hy17⟩) ?r17; case hy17 => (intro w' hSw; (try dsimp only at hSw); go_simp; (try with_reducible rfl))); (try simp only [Act.put, nE]); (refine tkT (i := 5) (v := ?v18) (by simp only [gE]; rfl) hHeld (Or.inl ⟨by rfl, ?hy18⟩) ?r18; case hy18 => (intro w' hSw; (try dsimp only at hSw); go_simp; (try with_reducible rfl))); (try simp only [Act.put, nE]))
                have hEx : Ext wr wr.drew := ⟨rfl, rfl, rfl, Nat.le_refl _, fun _ _ => rfl⟩
                obtain ⟨W, hW⟩ : ∃ W, W = wr.drew := ⟨_, rfl⟩
                rw [← hW] at hEx hHeld ⊢
                clear hW
                refine wpAnyT_two (i := 6) (j := 8) (by kernel_rfl) ?_ ?_
                · (refine StepT.run (i := 6) (o := _) (by simp only [gE]; rfl) (fun K hK => ?_); go_simp)
                  refine (l3Make_any _ _ (Fs 0) (Fs 1) _ (hB0.ext hEx) (hB1.ext hEx) hFo0.good hFo1.good (by omega) (by omega) (by omega)).mono ?_
                  rintro e WA ⟨vN, F1, rfl, hN1, hI1, hS1, hl1, hxA⟩
                  replace hEx := ext_trans hEx hxA
                  (try replace hP : WA.heap[p]? = some (.cells #[.slice none 0 0] 28 (0, 0)) := by rw [hxA.block _ (blk_lt hP)]; exact hP)
                  clear hxA
                  obtain ⟨W, rfl⟩ : ∃ W, W = WA := ⟨_, rfl⟩
                  have hHeld := hSx _ hEx
                  refine hK.out _ _ (fun _ => hHeld) ?_
                  clear hK K
                  (try simp only [Act.put, nE])
                  refine wpAnyT_two (i := 7) (j := 8) (by kernel_rfl) ?_ ?_
                  · (refine StepT.run (i := 7) (o := _) (by simp only [gE]; rfl) (fun K hK => ?_); go_simp)
                    refine (l6Canon_any vN F1 _ (hN1.weaken (Nat.zero_le _)) hI1.good (List.length_pos_iff.2 hI1.ne) (by omega)).mono ?_
                    rintro e WB ⟨vN2, F2, g2, rfl, hN2, hI2, hS2, hC2, hE2, hl2, hxB⟩
                    obtain ⟨aN, cN, rfl⟩ := hN2.slice
                    have hval := tree_val g hFo0 hFo1 HL0.out HL1.out hS1 hI2 hS2 hC2 hE2
                    obtain ⟨SB, hSB, hSw⟩ : ∃ SB : Nat → Prop, Sup SB (fun W => Nodes W 0 (.slice aN (List.length F2) cN) F2) WB ∧ ∀ b, SB b → W.heap.size ≤ b ∧ wr.heap.size ≤ b := ⟨fun b => W.heap.size ≤ b ∧ b < WB.heap.size, hN2.sup (fun b hb => hb.2) (fun b h1 h2 => ⟨h1, h2⟩), fun b hb => ⟨hb.1, Nat.le_trans hEx.size hb.1⟩⟩
                    (try have hpb : ∀ b, SB b → b ≠ p := fun b hb e => by have h1 := blk_lt hP; have h2 := (hSw b hb).1; omega)
                    have hSr : ∀ b, SB b → wr.heap.size ≤ b := fun b hb => (hSw b hb).2
                    clear hSw hN2
                    replace hEx := ext_trans hEx hxB
                    (try replace hP : WB.heap[p]? = some (.cells #[.slice none 0 0] 28 (0, 0)) := by rw [hxB.block _ (blk_lt hP)]; exact hP)
                    clear hxB
                    obtain ⟨W, rfl⟩ : ∃ W, W = WB := ⟨_, rfl⟩
                    have hHeld := hSx _ hEx
                    refine hK.out _ _ (fun _ => hHeld) ?_
                    clear hK K
                    (try simp only [Act.put, nE])
                    (refine wpAnyT_step (i := 8) (o := _) (by kernel_rfl) (by simp only [gE]; rfl) (fun K hK => ?_); go_simp)
                    have hxC : Ext W (W.alloc (.cells #[.slice none 0 0] 28)) := by go_grown
                    have hP : (W.alloc (.cells #[.slice none 0 0] 28)).heap[W.heap.size]? = some (.cells #[.slice none 0 0] 28 (0, 0)) := heap_alloc_new _ _
                    have hpz : wr.heap.size ≤ W.heap.size := hEx.size
                    (try have hpb : ∀ b, SB b → b ≠ W.heap.size := fun b hb e => by have := hSB.1 b hb; omega)
                    (try replace hN1 := hN1.ext hxC)
                    (try replace hSB := hSB.ext hxC)
                    replace hEx := ext_trans hEx hxC
                    clear hxC
                    have hHeld := hSx _ hEx
                    generalize W.alloc (.cells #[.slice none 0 0] 28) = W1 at *
                    generalize W.heap.size = p at *
                    obtain ⟨W, rfl⟩ : ∃ W, W = W1 := ⟨_, rfl⟩
                    refine hK.out _ _ (fun _ => hHeld) ?_
                    clear hK K
                    (try simp only [Act.put, nE])
                    have cP := cell_of_row W p 0 _ _ _ hP
                    have fP := frozen_of_row W p 0 _ _ hP
                    have hP2 := heap_setCell_same W p 0 _ _ (.slice aN (List.length F2) cN) hP
                    have HR := Lib.hid (And.intro hP2 (And.intro (hEx.setCell (p := ⟨p, 0, none⟩) hpz (.slice aN (List.length F2) cN)) (hSB.keep (keep_set (p := ⟨p, 0, none⟩) (v := .slice aN (List.length F2) cN)) hpb)))
                    have HT := Lib.hid (And.intro hval (show List.length F2 ≤ kN us.length by omega))
                    clear hP hP2 hSB hval
                    refine wpAnyT_tail [9] [?o19_9] _ _ _ _ (by simp) (by kernel_rfl) (by rfl) (by simp only [List.map_cons, List.map_nil, gE]; rfl) ?_
                    go_wp2_with fail
                    go_meet
                    exact ⟨p, aN, cN, F2, rfl, hpz, HR.out.1, HR.out.2.1, HT.out.1, HT.out.2, HR.out.2.2.mono (fun b hb => ⟨hSr b hb, HR.out.2.2.1 b hb, hpb b hb⟩) (fun b hb => hb.2.1) (fun _ h => h)⟩
                  · (refine StepT.run (i := 8) (o := _) (by simp only [gE]; rfl) (fun K hK => ?_); go_simp)
                    have hxC : Ext W (W.alloc (.cells #[.slice none 0 0] 28)) := by go_grown
                    have hP : (W.alloc (.cells #[.slice none 0 0] 28)).heap[W.heap.size]? = some (.cells #[.slice none 0 0] 28 (0, 0)) := heap_alloc_new _ _
                    have hpz : wr.heap.size ≤ W.heap.size := hEx.size
                    (try have hpb : ∀ b, SB b → b ≠ W.heap.size := fun b hb e => by have := hSB.1 b hb; omega)
                    (try replace hN1 := hN1.ext hxC)
                    (try replace hSB := hSB.ext hxC)
                    replace hEx := ext_trans hEx hxC
                    clear hxC
                    have hHeld := hSx _ hEx
                    generalize W.alloc (.cells #[.slice none 0 0] 28) = W1 at *
                    generalize W.heap.size = p at *
                    obtain ⟨W, rfl⟩ : ∃ W, W = W1 := ⟨_, rfl⟩
                    refine hK.out _ _ (fun _ => hHeld) ?_
                    clear hK K
                    (try simp only [Act.put, nE])
                    (refine wpAnyT_step (i := 7) (o := _) (by kernel_rfl) (by simp only [gE]; rfl) (fun K hK => ?_); go_simp)
                    refine (l6Canon_any vN F1 _ (hN1.weaken (Nat.zero_le _)) hI1.good (List.length_pos_iff.2 hI1.ne) (by omega)).mono ?_
                    rintro e WB ⟨vN2, F2, g2, rfl, hN2, hI2, hS2, hC2, hE2, hl2, hxB⟩
                    obtain ⟨aN, cN, rfl⟩ := hN2.slice
                    have hval := tree_val g hFo0 hFo1 HL0.out HL1.out hS1 hI2 hS2 hC2 hE2
                    obtain ⟨SB, hSB, hSw⟩ : ∃ SB : Nat → Prop, Sup SB (fun W => Nodes W 0 (.slice aN (List.length F2) cN) F2) WB ∧ ∀ b, SB b → W.heap.size ≤ b ∧ wr.heap.size ≤ b := ⟨fun b => W.heap.size ≤ b ∧ b < WB.heap.size, hN2.sup (fun b hb => hb.2) (fun b h1 h2 => ⟨h1, h2⟩), fun b hb => ⟨hb.1, Nat.le_trans hEx.size hb.1⟩⟩
                    (try have hpb : ∀ b, SB b → b ≠ p := fun b hb e => by have h1 := blk_lt hP; have h2 := (hSw b hb).1; omega)
                    have hSr : ∀ b, SB b → wr.heap.size ≤ b := fun b hb => (hSw b hb).2
                    clear hSw hN2
                    replace hEx := ext_trans hEx hxB
                    (try replace hP : WB.heap[p]? = some (.cells #[.slice none 0 0] 28 (0, 0)) := by rw [hxB.block _ (blk_lt hP)]; exact hP)
                    clear hxB
                    obtain ⟨W, rfl⟩ : ∃ W, W = WB := ⟨_, rfl⟩
                    have hHeld := hSx _ hEx
                    refine hK.out _ _ (fun _ => hHeld) ?_
                    clear hK K
                    (try simp only [Act.put, nE])
                    have cP := cell_of_row W p 0 _ _ _ hP
                    have fP := frozen_of_row W p 0 _ _ hP
                    have hP2 := heap_setCell_same W p 0 _ _ (.slice aN (List.length F2) cN) hP
                    have HR := Lib.hid (And.intro hP2 (And.intro (hEx.setCell (p := ⟨p, 0, none⟩) hpz (.slice aN (List.length F2) cN)) (hSB.keep (keep_set (p := ⟨p, 0, none⟩) (v := .slice aN (List.length F2) cN)) hpb)))
                    have HT := Lib.hid (And.intro hval (show List.length F2 ≤ kN us.length by omega))
                    clear hP hP2 hSB hval
                    refine wpAnyT_tail [9] [?o20_9] _ _ _ _ (by simp) (by kernel_rfl) (by rfl) (by simp only [List.map_cons, List.map_nil, gE]; rfl) ?_
                    go_wp2_with fail
                    go_meet
                    exact ⟨p, aN, cN, F2, rfl, hpz, HR.out.1, HR.out.2.1, HT.out.1, HT.out.2, HR.out.2.2.mono (fun b hb => ⟨hSr b hb, HR.out.2.2.1 b hb, hpb b hb⟩) (fun b hb => hb.2.1) (fun _ h => h)⟩
                · (refine StepT.run (i := 8) (o := _) (by simp only [gE]; rfl) (fun K hK => ?_); go_simp)
                  have hxC : Ext W (W.alloc (.cells #[.slice none 0 0] 28)) := by go_grown
                  have hP : (W.alloc (.cells #[.slice none 0 0] 28)).heap[W.heap.size]? = some (.cells #[.slice none 0 0] 28 (0, 0)) := heap_alloc_new _ _
                  have hpz : wr.heap.size ≤ W.heap.size := hEx.size
                  (try have hpb : ∀ b, SB b → b ≠ W.heap.size := fun b hb e => by have := hSB.1 b hb; omega)
                  (try replace hN1 := hN1.ext hxC)
                  (try replace hSB := hSB.ext hxC)
                  replace hEx := ext_trans hEx hxC
                  clear hxC
                  have hHeld := hSx _ hEx
                  generalize W.alloc (.cells #[.slice none 0 0] 28) = W1 at *
                  generalize W.heap.size = p at *
                  obtain ⟨W, rfl⟩ : ∃ W, W = W1 := ⟨_, rfl⟩
                  refine hK.out _ _ (fun _ => hHeld) ?_
                  clear hK K
                  (try simp only [Act.put, nE])
                  (refine wpAnyT_step (i := 6) (o := _) (by kernel_rfl) (by simp only [gE]; rfl) (fun K hK => ?_); go_simp)
                  refine (l3Make_any _ _ (Fs 0) (Fs 1) _ (hB0.ext hEx) (hB1.ext hEx) hFo0.good hFo1.good (by omega) (by omega) (by omega)).mono ?_
                  rintro e WA ⟨vN, F1, rfl, hN1, hI1, hS1, hl1, hxA⟩
                  replace hEx := ext_trans hEx hxA
                  (try replace hP : WA.heap[p]? = some (.cells #[.slice none 0 0] 28 (0, 0)) := by rw [hxA.block _ (blk_lt hP)]; exact hP)
                  clear hxA
                  obtain ⟨W, rfl⟩ : ∃ W, W = WA := ⟨_, rfl⟩
                  have hHeld := hSx _ hEx
                  refine hK.out _ _ (fun _ => hHeld) ?_
                  clear hK K
                  (try simp only [Act.put, nE])
                  (refine wpAnyT_step (i := 7) (o := _) (by kernel_rfl) (by simp only [gE]; rfl) (fun K hK => ?_); go_simp)
                  refine (l6Canon_any vN F1 _ (hN1.weaken (Nat.zero_le _)) hI1.good (List.length_pos_iff.2 hI1.ne) (by omega)).mono ?_
                  rintro e WB ⟨vN2, F2, g2, rfl, hN2, hI2, hS2, hC2, hE2, hl2, hxB⟩
                  obtain ⟨aN, cN, rfl⟩ := hN2.slice
                  have hval := tree_val g hFo0 hFo1 HL0.out HL1.out hS1 hI2 hS2 hC2 hE2
                  obtain ⟨SB, hSB, hSw⟩ : ∃ SB : Nat → Prop, Sup SB (fun W => Nodes W 0 (.slice aN (List.length F2) cN) F2) WB ∧ ∀ b, SB b → W.heap.size ≤ b ∧ wr.heap.size ≤ b := ⟨fun b => W.heap.size ≤ b ∧ b < WB.heap.size, hN2.sup (fun b hb => hb.2) (fun b h1 h2 => ⟨h1, h2⟩), fun b hb => ⟨hb.1, Nat.le_trans hEx.size hb.1⟩⟩
                  (try have hpb : ∀ b, SB b → b ≠ p := fun b hb e => by have h1 := blk_lt hP; have h2 := (hSw b hb).1; omega)
                  have hSr : ∀ b, SB b → wr.heap.size ≤ b := fun b hb => (hSw b hb).2
                  clear hSw hN2
                  replace hEx := ext_trans hEx hxB
                  (try replace hP : WB.heap[p]? = some (.cells #[.slice none 0 0] 28 (0, 0)) := by rw [hxB.block _ (blk_lt hP)]; exact hP)
                  clear hxB
                  obtain ⟨W, rfl⟩ : ∃ W, W = WB := ⟨_, rfl⟩
                  have hHeld := hSx _ hEx
                  refine hK.out _ _ (fun _ => hHeld) ?_
                  clear hK K
                  (try simp only [Act.put, nE])
                  have cP := cell_of_row W p 0 _ _ _ hP
                  have fP := frozen_of_row W p 0 _ _ hP
                  have hP2 := heap_setCell_same W p 0 _ _ (.slice aN (List.length F2) cN) hP
                  have HR := Lib.hid (And.intro hP2 (And.intro (hEx.setCell (p := ⟨p, 0, none⟩) hpz (.slice aN (List.length F2) cN)) (hSB.keep (keep_set (p := ⟨p, 0, none⟩) (v := .slice aN (List.length F2) cN)) hpb)))
                  have HT := Lib.hid (And.intro hval (show List.length F2 ≤ kN us.length by omega))
                  clear hP hP2 hSB hval
                  refine wpAnyT_tail [9] [?o21_9] _ _ _ _ (by simp) (by kernel_rfl) (by rfl) (by simp only [List.map_cons, List.map_nil, gE]; rfl) ?_
                  go_wp2_with fail
                  go_meet
                  exact ⟨p, aN, cN, F2, rfl, hpz, HR.out.1, HR.out.2.1, HT.out.1, HT.out.2, HR.out.2.2.mono (fun b hb => ⟨hSr b hb, HR.out.2.2.1 b hb, hpb b hb⟩) (fun b hb => hb.2.1) (fun _ h => h)⟩
              case rest =>
                obtain ⟨p, aN, cN, F, rfl, hpz, hP, hxc, hTV, hFk, hsN⟩ := hcut
                have hpI : ¬ InS px vt vf p := fun k => by have := hV.tb.insLt k; omega
                have hX1 := (hV.tb.ext hxc).tx
                have hVc := hV.ext hxc
                have hlaw := Lib.hid hV.tb.law
                have hLl : L'.length ≤ 1000000 := by
                  have h1 : ((Fs 0).length + (Fs 1).length) * kN (us.length - 1) + 1 ≤ kN us.length := by
                    have := edges_len sb.data.toList us.length
                    have e : (Fs 0).length + (Fs 1).length = us.length := by rw [HL0.out, HL1.out]; exact this
                    rw [e]
                    cases us.length with
                    | zero => simp [kN]
                    | succ n => rw [kN]; simp; omega
                  omega
                have hLL2 : L'.length + 1 ≤ L.length + kN us.length := by
                  have h1 : ((Fs 0).length + (Fs 1).length) * kN (us.length - 1) + 1 ≤ kN us.length := by
                    have := edges_len sb.data.toList us.length
                    have e : (Fs 0).length + (Fs 1).length = us.length := by rw [HL0.out, HL1.out]; exact this
                    rw [e]
                    cases us.length with
                    | zero => simp [kN]
                    | succ n => rw [kN]; simp; omega
                  omega
                obtain ⟨Lt, hLt⟩ : ∃ Lt, Lt = L'.map (·.1) := ⟨_, rfl⟩
                obtain ⟨Lf, hLf⟩ : ∃ Lf, Lf = L'.map (·.2) := ⟨_, rfl⟩
                rw [← hLt, ← hLf] at hX1
                have hnT : Lt.length ≤ 1000000 := by rw [hLt]; simpa using hLl
                have hnF : Lf.length ≤ 1000000 := by rw [hLf]; simpa using hLl
                have HLT := Lib.hid hLt
                have HLF := Lib.hid hLf
                clear hLt hLf
                obtain ⟨aT2, cT2, rfl, hcT2, _⟩ := own_len hX1.texts
                obtain ⟨xsF, hoF, hiF⟩ := hX1.forms
                obtain ⟨aF2, cF2, rfl, hcF2, _⟩ := own_len hoF
                have b0 := cell_of_row wc px 0 _ _ _ hX1.cells
                have hHV := Lib.hid hV
                have HX1 := Lib.hid hX1
                have hto := hX1.texts
                have hap := hX1.apart1
                have hcl := hX1.cells
                have HT := Lib.hid hTV
                clear hX1 hV hTV hiF hoF hB0 hB1 hown0 hown1 hit0 hit1 hFo0 hFo1 hbl
                go_upto_region 22 with (at_builtin; (refine app_list rfl (.tmp 100) (.tmp 102) 41 rfl 0 9 i1 (.string ⟨#[]⟩) 1 16 Tryz.underlying41 hi1 hy0 hy1 hy2 rfl (by decide) (.slice aT2 Lt.length cT2) Lt.length (Lt.map Value.string) rfl (hto.alloc _) _ 1 _ [.string tb] rfl rfl (.inr ⟨_, rfl, one_src (new_cell _ _ _)⟩) (by intro u hu; simp at hu; subst hu; rfl) (by unfold maxLen; omega) (by omega) (Nat.zero_le _) ?_; intro v5 w5 ho5 hg5 hl5; obtain ⟨a5, c5, rfl, -⟩ := own_len ho5; obtain ⟨hX5, hG5, b5, f5⟩ := HX1.out.text ho5 hg5 hl5))
                generalize w5.setCell ⟨px, 0, none⟩ (.slice a5 (Lt.length + 1) c5) = W5 at *
                have hzp := blk_lt hP
                have hz0 := hxc.size
                have hP5 : W5.heap[p]? = some (.cells #[.slice aN (List.length F) cN] 28 (0, 0)) := by rw [hG5.block hzp hpI]; exact hP
                have hIw : ∀ b, InS px (.slice aT2 Lt.length cT2) (.slice aF2 Lf.length cF2) b → b < wr.heap.size := fun b hb => hHV.out.tb.insLt hb
                have hsN5 := hG5.sup hsN (fun b hb k => by have := hIw b k; omega)
                obtain ⟨xsF, hoF, hiF⟩ := hX5.forms
                have hSx : ∀ W : World, Ext W5 W → W.cell? ⟨px, 1, none⟩ = some (.slice aF2 Lf.length cF2) ∧ W.cell? ⟨p, 0, none⟩ = some (.slice aN (List.length F) cN) := fun W hW =>
                  ⟨cell_of_row W px 1 _ _ _ (by rw [hW.block _ (blk_lt hX5.cells)]; exact hX5.cells), cell_of_row W p 0 _ _ _ (by rw [hW.block _ (blk_lt hP5)]; exact hP5)⟩
                have hxd : Ext W5 W5.drew := ⟨rfl, rfl, rfl, Nat.le_refl _, fun _ _ => rfl⟩
                have hXd := hX5.ext hxd
                have hGd := TG.ext (px := px) (vt := .slice a5 (Lt.length + 1) c5) (vf := .slice aF2 Lf.length cF2) (S := S') hxd
                have hod := own_keep hoF hxd
                have hid := hiF.ext hxd
                have hsd := hsN5.ext hxd
                have hPd : W5.drew.heap[p]? = some (.cells #[.slice aN (List.length F) cN] 28 (0, 0)) := hP5
                have HG5 := Lib.hid hG5
                have HL1' := Lib.hid hLL2
                clear hP hsN hsN5 hP5 hX5 hG5 hoF hiF ho5 hg5 hl5 b5 f5 hto hap hcl b0 hVc hLL2 hLL
                refine wp_region_T (fun W => W.cell? ⟨px, 1, none⟩ = some (.slice aF2 Lf.length cF2) ∧ W.cell? ⟨p, 0, none⟩ = some (.slice aN (List.length F) cN)) [8, 9, 10] (by kernel_rfl) (hSx _ hxd) (fun hHeld => ?_)
                ((refine tkT (i := 0) (v := ?v22) (by simp only [gE]; rfl) hHeld (Or.inl ⟨by rfl, ?hy22⟩) ?r22; case hy22 => (intro w' hSw; (try dsimp only at hSw); go_simp; (try with_reducible rfl))); (try simp only [Act.put, nE]); (refine tkT (i := 1) (v := ?v23) (by simp only [gE]; rfl) hHeld (Or.inl ⟨by rfl, ?hy23⟩) ?r23; case hy23 => (intro w' hSw; (try dsimp only at hSw); go_simp; (try with_reducible rfl))); (try simp only [Act.put, nE]); (refine tkT (i := 2) (v := ?v24) (by simp only [gE]; rfl) hHeld (Or.inl ⟨by rfl, ?hy24⟩) ?r24; case hy24 => (intro w' hSw; (try dsimp only at hSw); go_simp; (try with_reducible rfl))); (try simp only [Act.put, nE]); (refine tkT (i := 3) (v := ?v25) (by simp only [gE]; rfl) hHeld (Or.inl ⟨by rfl, ?hy25⟩) ?r25; case hy25 => (intro w' hSw; (try dsimp only at hSw); go_simp; (try with_reducible rfl))); (try simp only [Act.put, nE]); (refine tkT (i := 4) (v := ?v26) (by simp only [gE]; rfl) hHeld (Or.inl ⟨by rfl, ?hy26⟩) ?r26; case hy26 => (intro w' hSw; (try dsimp only at hSw); go_simp; (try with_reducible rfl))); (try simp only [Act.put, nE]); (refine tkT (i := 5) (v := ?v27) (by simp only [gE]; rfl) hHeld (Or.inl ⟨by rfl, ?hy27⟩) ?r27; case hy27 => (intro w' hSw; (try dsimp only at hSw); go_simp; (try with_reducible rfl))); (try simp only [Act.put, nE]))
                (refine wpAnyT_step (i := 6) (o := _) (by kernel_rfl) (by simp only [gE]; rfl) (fun K hK => ?_); go_simp)
                have hx6 : Ext W5.drew (W5.drew.alloc (.cells #[.slice aN (List.length F) cN] 28)) := by go_grown
                have hHeld := hSx _ (ext_trans hxd hx6)
                refine hK.out _ _ (fun _ => hHeld) ?_
                clear hK K
                (try simp only [Act.put, nE])
                (refine wpAnyT_step (i := 7) (o := _) (by kernel_rfl) (by simp only [gE]; rfl) (fun K hK => ?_))
                refine app_step rfl (.tmp 110) (.tmp 112) 42 rfl 0 28 i0 (.agg #[.slice none 0 0]) 1 24 Tryz.underlying42 hi0 hz0' hz1 hz2 rfl (by decide) (.slice aF2 Lf.length cF2) Lf.length xsF rfl (own_keep hod hx6) _ 1 _ [.slice aN (List.length F) cN] rfl rfl (.inr ⟨_, rfl, one_src (new_cell _ _ _)⟩) (by intro u hu; simp at hu; subst hu; rfl) (by unfold maxLen; omega) (by omega) (Nat.zero_le _) ?_
                intro v7 w7 ho7 hg7 hl7
                obtain ⟨a7, c7, rfl, -⟩ := own_len ho7
                have hFR : Sup (fun b => wr.heap.size ≤ b ∧ b < wc.heap.size ∧ b ≠ p) (fun W => FormR W [.slice aN (List.length F) cN] F) W5.drew := hsd.mono (fun _ h => h) hsd.1 (fun W h => ⟨aN, cN, rfl, h⟩)
                have hIn5 : ∀ b, InS px (.slice a5 (Lt.length + 1) c5) (.slice aF2 Lf.length cF2) b → InS px (.slice aT2 Lt.length cT2) (.slice aF2 Lf.length cF2) b ∨ wc.heap.size ≤ b := HG5.out.ins
                obtain ⟨hX7, hk7, hi7, b7, f7⟩ := hXd.form hid ho7 hg7 hl7 hFR (fun b hb k => by
                  rcases hIn5 b k with k | k
                  · have := hIw b k; omega
                  · omega)
                have hz5 := HG5.out.keep.size
                have hzd : W5.drew.heap.size = W5.heap.size := rfl
                have hIp : ¬ InS px (.slice a5 (Lt.length + 1) c5) (.slice aF2 Lf.length cF2) p := fun k => by
                  rcases hIn5 p k with k | k
                  · exact hpI k
                  · omega
                have hnx : p ≠ px := fun e => hpI (.inl e)
                have hg7' : (W5.drew.alloc (.cells #[.slice aN (List.length F) cN] 28)).grownBy w7 (Value.slice aF2 Lf.length cF2).ownBlock := hg7
                have GG := ((((hHV.out.tg.trans (TG.ext hxc)).trans HG5.out).trans hGd).trans (⟨hk7, hi7, fun _ h => h, fun _ h => .inl h⟩ : TG W5.drew (w7.setCell ⟨px, 1, none⟩ (.slice a7 (Lf.length + 1) c7)) px (.slice a5 (Lt.length + 1) c5) (.slice aF2 Lf.length cF2) S' (.slice a5 (Lt.length + 1) c5) (.slice a7 (Lf.length + 1) c7) S'))
                have hzw := hHV.out.tg.keep.size
                have hG8 : TG w (w7.setCell ⟨px, 1, none⟩ (.slice a7 (Lf.length + 1) c7)) px (.slice aT L.length cT) (.slice aF L.length cF) S (.slice a5 (Lt.length + 1) c5) (.slice a7 (Lf.length + 1) c7) (fun b => S' b ∨ (wr.heap.size ≤ b ∧ b < wc.heap.size ∧ b ≠ p)) :=
                  ⟨GG.keep, GG.ins, fun b h => .inl (GG.s1 b h), fun b hb => hb.elim (GG.s2 b) (fun h => .inr (by omega))⟩
                have hr1 := blk_lt hHV.out.res
                have hIr : ¬ InS px (.slice a5 (Lt.length + 1) c5) (.slice aF2 Lf.length cF2) (w.heap.size + 1) := fun k => by
                  rcases hIn5 _ k with k | k
                  · exact hHV.out.p1.1 k
                  · omega
                have hIr9 : ¬ InS px (.slice a5 (Lt.length + 1) c5) (.slice a7 (Lf.length + 1) c7) (w.heap.size + 1) := fun k => by
                  rcases hi7 _ k with k | k
                  · exact hIr k
                  · omega
                have hSr9 : ∀ b, S' b ∨ (wr.heap.size ≤ b ∧ b < wc.heap.size ∧ b ≠ p) → b ≠ w.heap.size + 1 := fun b hb e => by
                  rcases hb with h | h
                  · exact hHV.out.p1.2 (by rw [← e]; exact h)
                  · omega
                have hR7 : (w7.setCell ⟨px, 1, none⟩ (.slice a7 (Lf.length + 1) c7)).heap[w.heap.size + 1]? = some (.cells #[.slice none 0 0] 28 (0, 0)) := by
                  rw [hk7.block _ (by omega) hIr]
                  show W5.heap[w.heap.size + 1]? = _
                  rw [HG5.out.block (by omega) hHV.out.p1.1, hxc.block _ hr1]; exact hHV.out.res
                have hP7 : (w7.setCell ⟨px, 1, none⟩ (.slice a7 (Lf.length + 1) c7)).heap[p]? = some (.cells #[.slice aN (List.length F) cN] 28 (0, 0)) := by
                  rw [hk7.block _ (by omega) hIp]; exact hPd
                have hHeld : w7.cell? ⟨px, 1, none⟩ = some (.slice aF2 Lf.length cF2) ∧ w7.cell? ⟨p, 0, none⟩ = some (.slice aN (List.length F) cN) := ⟨b7, by
                  have e : w7.heap[p]? = some (.cells #[.slice aN (List.length F) cN] 28 (0, 0)) := by
                    rw [← hP7, heap_setCell_other _ _ _ _ hnx]
                  exact cell_of_row w7 p 0 _ _ _ e⟩
                have hSF := (hsd.keep hk7 (fun b hb k => by
                  rcases hIn5 b k with k | k
                  · have := hIw b k; omega
                  · omega))
                have HX7 := Lib.hid hX7
                have HG8 := Lib.hid hG8
                have HSF := Lib.hid hSF
                clear hX7 hG8 hSF GG hsd hFR hod hid hXd hGd ho7 hg7 hg7' hl7 hHV hk7 hi7
                have c9 := cell_of_row _ p 0 _ _ _ hP7
                have r9 := cell_of_row _ (w.heap.size + 1) 0 _ _ _ hR7
                have g9 := frozen_of_row _ (w.heap.size + 1) 0 _ _ hR7
                have HH := Lib.hid (heap_setCell_same _ (w.heap.size + 1) 0 _ _ (.slice aN (List.length F) cN) hR7)
                refine hK.out _ _ (fun _ => hHeld) ?_
                clear hK K
                (try simp only [Act.put, nE])
                refine wpAnyT_tail [8, 9, 10] [?o28_8, ?o28_9, ?o28_10] _ _ _ _ (by simp) (by kernel_rfl) (by rfl) (by simp only [List.map_cons, List.map_nil, gE]; rfl) ?_
                go_upto_region 23 with fail
                generalize w7.setCell ⟨px, 1, none⟩ (.slice a7 (Lf.length + 1) c7) = W9 at *
                clear b7 f7 hHeld hP7 hR7
                go_wp2
                (try simp only [Exit.inBlock, Exit.then])
                refine bodyPost_ret (results_cell_row rfl _ _ (w.heap.size + 1) 28 #[.slice aN (List.length F) cN] (0, 0) _ rfl HH.out Tryz.underlying28 rfl (by kernel_rfl)) rfl ?_
                have hk9 := keep_set (w := W9) (p := ⟨w.heap.size + 1, 0, none⟩) (v := .slice aN (List.length F) cN)
                refine ⟨_, F, _, _, _, L' ++ [(tb, F)], rfl, (HSF.out.mono (fun b hb => .inr hb) (fun b hb => HX7.out.sLt hb) (fun _ h => h)).keep hk9 (fun b hb e => ?_), HT.out, hFk, ?_, HG8.out.set (p := ⟨w.heap.size + 1, 0, none⟩) (by show w.heap.size ≤ w.heap.size + 1; omega) _, by rw [List.length_append]; simpa using HL1'.out⟩
                · exact hSr9 b hb e
                · have e1 : (L' ++ [(tb, F)]).map (·.1) = Lt ++ [tb] := by rw [List.map_append, ← HLT.out]; rfl
                  have e2 : (L' ++ [(tb, F)]).map (·.2) = Lf ++ [F] := by rw [List.map_append, ← HLF.out]; rfl
                  have hX := HX7.out
                  rw [← e1, ← e2] at hX
                  refine (hX.tb (fun x hx => ?_)).keep hk9 (fun b hb e => hIr9 (by rw [← show b = w.heap.size + 1 from e]; exact hb)) (fun b hb e => hSr9 b hb e)
                  rcases List.mem_append.1 hx with h | h
                  · exact hlaw.out x h
                  · simp only [List.mem_singleton] at h
                    subst h
                    exact ⟨us, sb.data.toList, g, HT3.out, HT.out, hFk⟩

theorem value_any (m : Nat) : ValOk m := by
  induction m using Nat.strongRecOn with
  | ind m ih => exact value_step m ih

end Go.Proofs.YtjkdanmpihildaaGreatDoor
