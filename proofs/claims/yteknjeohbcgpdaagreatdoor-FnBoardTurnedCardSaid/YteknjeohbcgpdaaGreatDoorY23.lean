/-
  Contract of the reference's l21Moves. (5 texts.)
-/
import Derived.Test.YteknjeohbcgpdaaGreatDoorY11
import Derived.Test.YteknjeohbcgpdaaGreatDoorY14
import Derived.Test.YteknjeohbcgpdaaGreatDoorY16
import Derived.Test.YteknjeohbcgpdaaGreatDoorY17
import Derived.Test.YteknjeohbcgpdaaGreatDoorY22
import Derived.Laws.Rows
set_option maxRecDepth 100000
namespace Go.Proofs.YteknjeohbcgpdaaGreatDoor
section
open Go.RowKit

def natsOf (s : ByteArray) : List Nat := (bdr s).map UInt8.toNat
theorem natsOf_len (s : ByteArray) : (natsOf s).length = s.size := by simp [natsOf, bdr]

set_option maxHeartbeats 400000 in
theorem reversed_any (s : ByteArray) (w : World) (hs : 0 < s.size) (hs2 : s.size ≤ 1000000) : Calls Tryz.prog 65 #[.string s] w fun e w' => ∃ t, e = .returned (.string t) ∧ t = bytesN (natsOf s).reverse ∧ Ext w w' := by
  obtain ⟨i0, hi0, hz0, hz1, hz2⟩ := info_parts info_u8
  have hx0 : Ext w (w.alloc (.cells #[] 5)) := by go_grown
  have hown0 := own_empty w w.heap.size (Nat.le_refl _) 5
  have hwk : wrap64 ((s.size : Int) - 1) = ((s.size - 1 : Nat) : Int) := by unfold wrap64; omega
  go_enter Tryz.func65, Tryz.ntmps65
  go_upto_region 2 with fail
  generalize w.alloc (.cells #[] 5) = W at *
  go_wp2
  go_loopw [3, 4] (fun kv zi wr => ∃ c : Nat, c ≤ s.size ∧ zi = .int .i64 ((c : Int) - 1) ∧ wr.ownsRow w.heap.size 5 1 kv ((natsOf s).drop c).reverse.length (u8s ((natsOf s).drop c).reverse) ∧ Ext w wr) (fun _ zi _ => (intOf zi + 1).toNat)
  case atStart =>
    refine ⟨s.size, Nat.le_refl _, by go_num, ?_, hx0⟩
    rw [List.drop_eq_nil_of_le (by rw [natsOf_len]; exact Nat.le_refl _)]; exact hown0
  case round =>
    clear hown0 hx0
    obtain ⟨c, hc, rfl, hown, hx⟩ := hrel
    by_cases hc0 : c = 0
    · subst hc0
      have h1 : ¬ ((0 : Int) ≤ ((0 : Nat) : Int) - 1) := by omega
      rw [List.drop_zero] at hown
      obtain ⟨K, hK⟩ : ∃ K, K = (natsOf s).reverse := ⟨_, rfl⟩
      have HK := Lib.hid hK
      rw [← hK] at hown
      obtain ⟨g, cap, rfl, hg, hconv⟩ := key_conv hown (by rw [hK, List.length_reverse, natsOf_len]; exact hs)
      have HC := hconv wr rfl
      clear hconv hown hK
      go_wp2
      go_ret
      exact ⟨_, rfl, by rw [HK.out], hx⟩
    · obtain ⟨i, rfl⟩ : ∃ i, c = i + 1 := ⟨c - 1, by omega⟩
      have hie : (((i + 1 : Nat) : Int) - 1) = ((i : Nat) : Int) := by omega
      rw [hie]
      have h1 : (0 : Int) ≤ ((i : Nat) : Int) := by omega
      have hlt : i < s.size := by omega
      obtain ⟨ak, ck, rfl, hck1, hck2⟩ := own_len hown
      have hkl : ((natsOf s).drop (i + 1)).reverse.length ≤ 1000000 := by rw [List.length_reverse, List.length_drop, natsOf_len]; omega
      obtain ⟨K, hK⟩ : ∃ K, K = ((natsOf s).drop (i + 1)).reverse := ⟨_, rfl⟩
      rw [← hK] at hown hck1 hkl ⊢
      have HK := Lib.hid hK
      clear hK hie hc0
      have hzx := hx.size
      have hwk2 : wrap64 (((i : Nat) : Int) - 1) = ((i : Nat) : Int) - 1 := by unfold wrap64; omega
      have hiS : ((i : Nat) : Int) < (s.size : Int) := by omega
      go_wp2_with (at_builtin; refine app_list rfl (.tmp 13) (.tmp 17) 38 rfl w.heap.size 5 i0 (.int .u8 0) 1 1 Tryz.underlying38 hi0 hz0 hz1 hz2 rfl (by decide) (.slice ak K.length ck) K.length _ rfl (hown.alloc _) _ 1 _ [.int .u8 ((s[i]'hlt).toNat : Int)] rfl rfl (.inr ⟨_, rfl, one_src (new_cell _ _ _)⟩) one_cell (by unfold maxLen; omega) (by omega) (by rw [World.size_alloc]; omega) ?_; intro v5 w5 ho5 hg5 hl5)
      go_roundw
      case rel =>
        have e : ((natsOf s).drop i).reverse = K ++ [(s[i]'hlt).toNat] := by
          have hl : i < (natsOf s).length := by rw [natsOf_len]; exact hlt
          rw [HK.out, List.drop_eq_getElem_cons hl, List.reverse_cons]
          congr 1
          have e2 : (natsOf s)[i] = (s[i]'hlt).toNat := by simp [natsOf, bdr]; rfl
          rw [e2]
        refine ⟨i, by omega, rfl, ?_, ext_keep (ext_trans hx (ext_alloc (Below.refl _ _) _)) (keep_grownO hg5) (fun b hb => (hown.lt b hb).1)⟩
        rw [e]
        exact own_cast ho5 (by simp) (by rw [u8s_app]; rfl)
      case measure => simp [intOf]
end
section
open Go.RowKit
open Cgt (Brd GB txtB Cs)

def cntRow (r : List Bool) : Nat := r.countP (· == true)
def cntC (cl : Cl) : Nat := (cl.map cntRow).sum
theorem cntRow_take {r : List Bool} {k : Nat} (h : k < r.length) : cntRow (r.take (k + 1)) = cntRow (r.take k) + if r[k] = true then 1 else 0 := by
  unfold cntRow
  rw [List.take_succ_eq_append_getElem h, List.countP_append]
  cases r[k] <;> simp
theorem cntC_take {cl : Cl} {k : Nat} (h : k < cl.length) : cntC (cl.take (k + 1)) = cntC (cl.take k) + cntRow cl[k] := by
  unfold cntC
  rw [List.take_succ_eq_append_getElem h, List.map_append, List.sum_append]; simp
theorem cntC_bd (ss : List ByteArray) : cntC (cellsC ss) = Cgt.cntB (bd ss) := by
  unfold cntC Cgt.cntB cellsC bd
  rw [List.map_map, List.map_map]
  congr 1
  apply List.map_congr_left
  intro s _
  simp only [Function.comp_def, cntRow, rowC, List.countP_map]
  congr 1
  funext x
  cases (x == 46) <;> rfl
theorem cntRow_le (r : List Bool) : cntRow r ≤ r.length := List.countP_le_length
theorem cntC_le {cl : Cl} {hh ww : Nat} (s : Sz cl hh ww) (k : Nat) : cntC (cl.take k) ≤ k * ww := by
  induction k with
  | zero => simp [cntC]
  | succ k ih =>
    by_cases h : k < cl.length
    · rw [cntC_take h, Nat.succ_mul]
      have := cntRow_le cl[k]
      rw [s.at h] at this
      omega
    · rw [List.take_of_length_le (by omega)]
      rw [List.take_of_length_le (by omega)] at ih
      rw [Nat.succ_mul]; omega

set_option maxHeartbeats 4000000 in
theorem l21Free_any (v : Value) (ss : List ByteArray) (hh ww : Nat) (w : World) (h : Strs w v ss) (g : GB (bd ss) hh ww) :
    Calls Tryz.prog 37 #[.agg #[v]] w fun e w' => e = .returned (.int .i64 ((Cgt.cntB (bd ss) : Nat) : Int)) ∧ Ext w w' := by
  obtain ⟨a, cap, rfl, hcap, hml⟩ := h.open
  have hxb : Ext w (w.alloc (.cells #[.slice a ss.length cap] 31)) := by go_grown
  have hbb := heap_alloc_new w (.cells #[.slice a ss.length cap] 31)
  have HSZ := Lib.hid (cellsC_sz g)
  have h8 := g.h1
  have w8 := g.w1
  go_enter Tryz.func37, Tryz.ntmps37
  go_wp2_with (go_at_call 75; refine (l21Cells_any _ ss hh ww _ (h.ext hxb) g).mono ?_; rintro e w1 ⟨cv, sl, rfl, hG, hx1⟩; obtain ⟨ac, cc, rfl, -, -⟩ := hG.len)
  have hE := ext_trans hxb hx1
  have hln : (cellsC ss).length = hh := HSZ.out.hgt
  obtain ⟨cl, hcl⟩ : ∃ cl, cl = cellsC ss := ⟨_, rfl⟩
  have HCN := Lib.hid (cntC_bd ss)
  rw [← hcl] at HSZ hG hln HCN ⊢
  have HG := Lib.hid hG
  have HE := Lib.hid hE
  obtain ⟨n, hn⟩ : ∃ n, n = cl.length := ⟨_, rfl⟩
  rw [← hn]
  have hn8 : n ≤ 8 := by omega
  have HN := Lib.hid hn
  clear hcl hG hE hx1 hxb hbb hln hn
  generalize w1 = W at *
  go_loopw [3, 5, 6] (fun nv ii _ wr => ∃ i : Nat, ii = .int .i64 ((i : Nat) : Int) ∧ i ≤ n ∧ nv = .int .i64 ((cntC (cl.take i) : Nat) : Int) ∧ W = wr) (fun _ ii _ _ => n - (intOf ii).toNat)
  case atStart => exact ⟨0, rfl, Nat.zero_le _, by simp [cntC], rfl⟩
  case round =>
    obtain ⟨i, rfl, hi, rfl, rfl⟩ := hrel
    have hC8 : cntC (cl.take i) ≤ 64 := by
      have := cntC_le HSZ.out i
      have := Nat.mul_le_mul (show i ≤ 8 by omega) w8.2
      omega
    by_cases hlt : i < n
    · have h1 : ((i : Nat) : Int) < ((n : Nat) : Int) := by omega
      have hli : i < cl.length := by have := HN.out; omega
      obtain ⟨gt, ct, et, hct⟩ := HG.out.top hli
      simp only [Value.slice.injEq] at et
      obtain ⟨rfl, -, rfl⟩ := et
      obtain ⟨ar, cr, er, hcr⟩ := HG.out.rlen hli
      have hw : cl[i].length = ww := HSZ.out.at hli
      rw [er, hw] at hct
      rw [hw] at er
      have HER := Lib.hid er
      have HT := Lib.hid (cntC_take hli)
      obtain ⟨ri, eri⟩ : ∃ ri : List Bool, cl[i] = ri := ⟨_, rfl⟩
      rw [eri] at HT hw
      have HERI := Lib.hid eri
      have HW := Lib.hid hw
      have HLI := Lib.hid hli
      clear er eri hw
      generalize hcv : cntC (cl.take i) = c0 at *
      go_wp2
      go_loopw [3, 6] (fun nv kk wr => ∃ k : Nat, kk = .int .i64 ((k : Nat) : Int) ∧ k ≤ ww ∧ nv = .int .i64 ((c0 + cntRow (ri.take k) : Nat) : Int) ∧ W = wr) (fun _ kk _ => ww - (intOf kk).toNat)
      case atStart => exact ⟨0, rfl, Nat.zero_le _, by simp [cntRow], rfl⟩
      case round =>
        obtain ⟨k, rfl, hk, rfl, rfl⟩ := hrel
        have hR8 : cntRow (ri.take k) ≤ 8 := by have := cntRow_le (ri.take k); rw [List.length_take] at this; omega
        by_cases hkl : k < ww
        · have h4 : ((k : Nat) : Int) < ((ww : Nat) : Int) := by omega
          have hkr : k < ri.length := by have := HW.out; omega
          have hlen : k < (cl[i]'HLI.out).length := by rw [HERI.out]; exact hkr
          obtain ⟨g2, c2, e2, hb, -⟩ := HG.out.cell HLI.out hlen
          rw [HER.out] at e2
          simp only [Value.slice.injEq] at e2
          obtain ⟨rfl, -, rfl⟩ := e2
          have hbv : (cl[i]'HLI.out)[k] = ri[k] := by congr 1
          rw [hbv] at hb
          have HRT := Lib.hid (cntRow_take hkr)
          cases hbk : ri[k] with
          | true =>
            rw [hbk] at hb HRT
            clear hbk hbv
            go_wp2
            go_roundw
            case rel => exact ⟨k + 1, by go_num, by omega, by rw [HRT.out, if_pos rfl]; go_num, trivial⟩
            case measure => simp [intOf]; omega
          | false =>
            rw [hbk] at hb HRT
            clear hbk hbv
            go_wp2
            go_roundw
            case rel => exact ⟨k + 1, by go_num, by omega, by rw [HRT.out, if_neg (by simp)]; go_num, trivial⟩
            case measure => simp [intOf]; omega
        · have h4 : ¬ (((k : Nat) : Int) < ((ww : Nat) : Int)) := by omega
          have hke : k = ww := by omega
          have HKE := Lib.hid hke
          clear hke hkl
          go_wp2
          go_roundw
          case rel => exact ⟨i + 1, by go_num, by omega, by rw [HT.out, ← hcv, show ri.take k = ri from List.take_of_length_le (by have := HW.out; have := HKE.out; omega)], trivial⟩
          case measure => simp [intOf]; omega
    · have h1 : ¬ (((i : Nat) : Int) < ((n : Nat) : Int)) := by omega
      have hie : i = n := by omega
      have HIE := Lib.hid hie
      clear hie hlt
      go_wp2
      go_ret
      exact ⟨by rw [HIE.out, HN.out, List.take_length, HCN.out]; rfl, HE.out⟩
end
section
open Go.RowKit
open Cgt (Brd GB txtB Cs)

theorem ext_keepF {a b c : World} {G : Nat → Prop} (h : Ext a b) (k : Keep G b c) (hG : ∀ x, G x → a.heap.size ≤ x) : Ext a c :=
  ⟨k.os.trans h.os, k.tape.trans h.tape, k.output.trans h.output, Nat.le_trans h.size k.size, fun x hx => (k.block x (Nat.lt_of_lt_of_le hx h.size) (fun g => Nat.not_le.2 hx (hG x g))).trans (h.block x hx)⟩

theorem box_app {wr w5 : World} {p B : Nat} {ov v5 : Value} {X : Obj} {T e : TypeId} {n : Nat} {ys : List Value} (hb : wr.heap[p]? = some (.cells #[ov] T (0, 0))) (hov : ∀ b, ov.ownBlock = some b → p < b) (hB : p < B)
    (ho : w5.ownsRow B e 1 v5 n ys) (hg : (wr.alloc X).grownBy w5 ov.ownBlock) :
    (w5.setCell ⟨p, 0, none⟩ v5).heap[p]? = some (.cells #[v5] T (0, 0)) ∧ (w5.setCell ⟨p, 0, none⟩ v5).ownsRow B e 1 v5 n ys ∧ w5.cell? ⟨p, 0, none⟩ = some ov ∧ w5.frozen? ⟨p, 0, none⟩ = false ∧ Keep (fun b => b = p ∨ ov.ownBlock = some b) wr (w5.setCell ⟨p, 0, none⟩ v5) := by
  have hp := blk_lt hb
  have hz : (wr.alloc X).heap.size = wr.heap.size + 1 := World.size_alloc _ _
  have hz5 := hg.size
  have h5 : w5.heap[p]? = some (.cells #[ov] T (0, 0)) := by
    rw [hg.block p (by omega) (fun e => by have := hov p e.symm; omega), Below.heap_alloc _ _ _ hp]; exact hb
  have hks := keep_set (w := w5) (p := ⟨p, 0, none⟩) (v := v5)
  refine ⟨heap_setCell_same _ _ _ _ _ _ h5, own_keepG ho hks (fun b hb q => ?_), cell_of_row w5 p 0 _ _ _ h5, frozen_of_row w5 p 0 _ _ h5, ?_⟩
  · have := (ho.lt b hb).1; have q' : b = p := q; omega
  · exact ⟨hks.os.trans hg.os, hks.tape.trans hg.tape, hks.output.trans hg.output, by have := hks.size; omega, fun b hb hn => by
      rw [hks.block b (by omega) (fun q => hn (.inl q)), hg.block b (by omega) (fun q => hn (.inr q.symm)), Below.heap_alloc _ _ _ hb]⟩

theorem info_stringG : (Tryz.prog.info? 9).map (fun i => (i.zero, i.size, i.bytes)) = some (some (.string ⟨#[]⟩), 1, 16) := by kernel_rfl
end
section
open Go.RowKit
open Cgt (Brd GB)

structure BoM (w wr : World) (po : Nat) (bx ov : Value) (out : List ByteArray) : Prop where
  b0 : wr.heap[w.heap.size]? = some (.cells #[bx] 31 (0, 0))
  b1 : wr.heap[w.heap.size + 1]? = some (.cells #[.slice none 0 0] 31 (0, 0))
  b2 : wr.heap[po]? = some (.cells #[ov] 31 (0, 0))
  own : wr.ownsRow (po + 1) 9 1 ov out.length (out.map Value.string)
  pz : w.heap.size + 1 < po
  ext : Ext w wr
theorem BoM.ext' {w wr w2 : World} {po : Nat} {bx ov : Value} {out : List ByteArray} (m : BoM w wr po bx ov out) (hx : Ext wr w2) : BoM w w2 po bx ov out :=
  ⟨(hx.block _ (blk_lt m.b0)).trans m.b0, (hx.block _ (blk_lt m.b1)).trans m.b1, (hx.block _ (blk_lt m.b2)).trans m.b2, own_keep m.own hx, m.pz, ext_trans m.ext hx⟩
theorem BoM.put {w wr w5 : World} {po : Nat} {bx ov v5 : Value} {out : List ByteArray} {X : Obj} {s : ByteArray} (m : BoM w wr po bx ov out)
    (ho : w5.ownsRow (po + 1) 9 1 v5 (out.length + 1) (out.map Value.string ++ [.string s])) (hg : (wr.alloc X).grownBy w5 ov.ownBlock) : BoM w (w5.setCell ⟨po, 0, none⟩ v5) po bx v5 (out ++ [s]) ∧ w5.cell? ⟨po, 0, none⟩ = some ov ∧ w5.frozen? ⟨po, 0, none⟩ = false := by
  have hp := m.pz
  obtain ⟨q1, q2, q3, q4, q5⟩ := box_app m.b2 (fun b hb => (m.own.lt b hb).1) (Nat.lt_succ_self po) ho hg
  have hn : ∀ b, b < po → ¬ (b = po ∨ ov.ownBlock = some b) := fun b hb hc => by
    rcases hc with c | c
    · omega
    · have := (m.own.lt b c).1; omega
  refine ⟨⟨(q5.block _ (blk_lt m.b0) (hn _ (by omega))).trans m.b0, (q5.block _ (blk_lt m.b1) (hn _ (by omega))).trans m.b1, q1, ?_, hp, ext_keepF m.ext q5 (fun b hc => ?_)⟩, q3, q4⟩
  · rw [List.map_append, List.length_append]; exact q2
  · rcases hc with c | c
    · omega
    · have := (m.own.lt b c).1; omega
theorem bd_rev {s : ByteArray} : bdr (bytesN (natsOf s).reverse) = (bdr s).reverse := by
  have e : ∀ l : List UInt8, (l.map UInt8.toNat).map UInt8.ofNat = l := fun l => by
    rw [List.map_map]; conv => rhs; rw [← List.map_id l]
    exact List.map_congr_left fun x _ => by simp
  unfold natsOf bytesN
  rw [← List.map_reverse, e]
  show ((bdr s).reverse.toArray).toList = _
  simp
end
section
open Go.RowKit
open Cgt (Brd GB txtB Cs mRow mAll plc nxr nxc can fr)

def BrdR (W : World) (ys : List Value) (b : Brd) : Prop := ∃ a c ss, ys = [.slice a (List.length ss) c] ∧ Strs W (.slice a (List.length ss) c) ss ∧ bd ss = b

theorem mRow_no {left : Bool} {b : Brd} {r k : Nat} (h : can left (fr b) r k = false) : mRow left b r (k + 1) = mRow left b r k := by rw [Cgt.mRow_succ, h]; simp
theorem mRow_yes {left : Bool} {b : Brd} {r k : Nat} (h : can left (fr b) r k = true) : mRow left b r (k + 1) = mRow left b r k ++ [plc left b r k] := by rw [Cgt.mRow_succ, h]; simp
theorem info_form1 : (Tryz.prog.info? 31).map (fun i => (i.zero, i.size, i.bytes)) = some (some (.agg #[.slice none 0 0]), 1, 24) := by kernel_rfl
def MovesP (left : Bool) (b : Brd) (hh ww : Nat) (w : World) (e : Ending) (w' : World) : Prop :=
  ∃ v, e = .returned v ∧ Rows BrdR 1 (fun b => w.heap.size ≤ b ∧ b < w'.heap.size) w' v (mAll left b ww hh) ∧ Ext w w'

theorem Gr.mark {w : World} {B : Nat} {v : Value} {sl : Nat → Value} {cl : Cl} {hh ww : Nat} (h : Gr w B v sl cl) (s : Sz cl hh ww) {i k g c : Nat} (hi : i < hh) (hk : k < ww) (e : sl i = .slice (some ⟨g, 0, none⟩) ww c) (x : Bool) :
    Gr (w.setCell ⟨g, k, none⟩ (.bool x)) B v sl (gset cl i k x) ∧ Sz (gset cl i k x) hh ww ∧ B ≤ g := by
  have hi' : i < cl.length := by have := s.hgt; omega
  have hw := s.at hi'
  exact ⟨h.set hi' (by rw [hw]; exact hk) (by rw [e, hw]) x, s.set i k x, (h.lt (.inr ⟨i, hi', by rw [e]; rfl⟩)).1⟩
theorem Gr.at2 {w : World} {B : Nat} {v : Value} {sl : Nat → Value} {cl : Cl} {hh ww : Nat} (h : Gr w B v sl cl) (s : Sz cl hh ww) {i k : Nat} (hi : i < hh) (hk : k < ww) :
    ∃ gt ct g c, v = .slice (some ⟨gt, 0, none⟩) hh ct ∧ sl i = .slice (some ⟨g, 0, none⟩) ww c ∧ w.cell? ⟨gt, i, none⟩ = some (.slice (some ⟨g, 0, none⟩) ww c) ∧ w.cell? ⟨g, k, none⟩ = some (.bool (gat cl i k)) ∧ w.frozen? ⟨g, k, none⟩ = false := by
  have hi' : i < cl.length := by have := s.hgt; omega
  have hw := s.at hi'
  obtain ⟨gt, ct, et, htop⟩ := h.top hi'
  obtain ⟨g, c, eg, hb, hf⟩ := h.cell hi' (show k < cl[i].length by omega)
  rw [s.hgt] at et
  rw [hw] at eg
  rw [eg] at htop
  exact ⟨gt, ct, g, c, et, eg, htop, by rw [hb, gat_eq hi' (by omega)], hf⟩
end
end Go.Proofs.YteknjeohbcgpdaaGreatDoor
