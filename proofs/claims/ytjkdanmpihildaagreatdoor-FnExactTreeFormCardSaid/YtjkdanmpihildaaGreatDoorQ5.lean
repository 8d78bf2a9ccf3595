/-
  Contracts of functions of the reference that compare lists; no condition.
  Memory: lists of int in rows that the call made; what stays.
  Contracts of functions of the reference that make lists.
-/
import Derived.Test.YtjkdanmpihildaaGreatDoorQ4
namespace Go.Proofs.YtjkdanmpihildaaGreatDoor
open Go.RowKit

def clZ : List Int → List Int → Int
  | [], [] => 0
  | [], _ :: _ => -1
  | _ :: _, [] => 1
  | a :: l, b :: m => if a < b then -1 else if b < a then 1 else clZ l m
theorem clZ_append (p a b : List Int) : clZ (p ++ a) (p ++ b) = clZ a b := by
  induction p with
  | nil => rfl
  | cons x p ih => simp [clZ, ih]
theorem drop_zat {l : List Int} {k : Nat} (h : k < l.length) : l.drop k = zat l k :: l.drop (k + 1) := by
  rw [List.drop_eq_getElem_cons h, zat_lt h]
theorem clZ_at {l m : List Int} {k : Nat} (h : l.take k = m.take k) : clZ l m = clZ (l.drop k) (m.drop k) := by
  have e1 : l = l.take k ++ l.drop k := (List.take_append_drop k l).symm
  have e2 : m = l.take k ++ m.drop k := by rw [h]; exact (List.take_append_drop k m).symm
  have := clZ_append (l.take k) (l.drop k) (m.drop k)
  rw [← e1, ← e2] at this
  exact this
theorem clZ_lt {l m : List Int} {k : Nat} (h : l.take k = m.take k) (hl : k < l.length) (hm : k < m.length) (hx : zat l k < zat m k) : clZ l m = -1 := by
  rw [clZ_at h, drop_zat hl, drop_zat hm, clZ, if_pos hx]
theorem clZ_gt {l m : List Int} {k : Nat} (h : l.take k = m.take k) (hl : k < l.length) (hm : k < m.length) (hx : zat m k < zat l k) : clZ l m = 1 := by
  rw [clZ_at h, drop_zat hl, drop_zat hm, clZ, if_neg (by omega), if_pos hx]
theorem clZ_end1 {l m : List Int} (h : l.take l.length = m.take l.length) (hm : l.length < m.length) : clZ l m = -1 := by
  rw [clZ_at h, drop_zat hm]; simp [clZ]
theorem clZ_end2 {l m : List Int} (h : l.take m.length = m.take m.length) (hm : m.length < l.length) : clZ l m = 1 := by
  rw [clZ_at h, drop_zat hm]; simp [clZ]
theorem clZ_end3 {l m : List Int} (h : l.take l.length = m.take l.length) (hm : l.length = m.length) : clZ l m = 0 := by
  rw [clZ_at h, hm, List.drop_length, ← hm, List.drop_length]; rfl

set_option maxHeartbeats 400000 in
theorem l3List_any (v u : Value) (l m : List Int) (w : World) (h : Ints w v l) (g : Ints w u m) :
    Calls Tryz.prog 105 #[v, u] w fun e w' => e = .returned (.int .i64 (clZ l m)) ∧ RD w w' := by
  obtain ⟨a, cap, rfl, hlc, hcap, hc⟩ := h
  obtain ⟨a', cap', rfl, hlc', hcap', hc'⟩ := g
  go_enter Tryz.func105, Tryz.ntmps105
  go_wp2
  go_loopw [5] (fun i wr => ∃ k : Nat, k ≤ l.length ∧ k ≤ m.length ∧ i = .int .i64 k ∧ RD w wr ∧ Hid (l.take k = m.take k)) (fun i _ => l.length - (intOf i).toNat)
  case atStart => exact ⟨0, Nat.zero_le _, Nat.zero_le _, rfl, rd0 _, by simp [Hid]⟩
  case round =>
    obtain ⟨k, hk, hkm, rfl, ⟨n, rfl⟩, HN⟩ := hrel
    by_cases hlt : k < l.length
    · by_cases hlm : k < m.length
      · obtain ⟨b, off, rfl, hcell⟩ := hc (by omega)
        obtain ⟨b', off', rfl, hcell'⟩ := hc' (by omega)
        have hck := hcell k hlt
        have hck' := hcell' k hlm
        clear hcell hc hcell' hc'
        by_cases hlss : zat l k < zat m k
        · have hne : (zat l k != zat m k) = true := by simp; omega
          go_wp2
          go_quiet (fail)
          go_wp2
          go_quiet (fail)
          go_wp2
          go_ret
          exact ⟨ret_int (clZ_lt HN.out hlt hlm hlss).symm, (by first | exact rd0 _ | exact rd1 _ _ | exact rd2 _ _ _ | exact rd3 _ _ _ _)⟩
        · by_cases hgt : zat m k < zat l k
          · have hne : (zat l k != zat m k) = true := by simp; omega
            have hd : decide (zat l k < zat m k) = false := by simpa using hlss
            go_wp2
            go_quiet (fail)
            go_wp2
            go_quiet (fail)
            go_wp2
            go_ret
            exact ⟨ret_int (clZ_gt HN.out hlt hlm hgt).symm, (by first | exact rd0 _ | exact rd1 _ _ | exact rd2 _ _ _ | exact rd3 _ _ _ _)⟩
          · have hne : (zat l k != zat m k) = false := by simp; omega
            go_wp2
            go_quiet (fail)
            go_wp2
            go_roundw
            case rel =>
              refine ⟨k + 1, by omega, by omega, by go_num, (by first | exact rd0 _ | exact rd1 _ _ | exact rd2 _ _ _ | exact rd3 _ _ _ _), ?_⟩
              show _ = _
              rw [take_zat hlt, take_zat hlm, HN.out, show zat l k = zat m k by omega]
            case measure => simp [intOf]; omega
      · have hge : m.length < l.length ∨ l.length = m.length := by omega
        have hmk : k = m.length := by omega
        have HK := Lib.hid hmk
        have hgt : m.length < l.length := by omega
        clear hmk hge
        go_wp2
        go_ret
        exact ⟨ret_int (clZ_end2 (by rw [← HK.out]; exact HN.out) hgt).symm, (by first | exact rd0 _ | exact rd1 _ _ | exact rd2 _ _ _ | exact rd3 _ _ _ _)⟩
    · have hlk : k = l.length := by omega
      have HK := Lib.hid hlk
      clear hlk
      go_wp2
      · have h1 : l.length < m.length := by assumption
        go_ret
        exact ⟨ret_int (clZ_end1 (by rw [← HK.out]; exact HN.out) h1).symm, (by first | exact rd0 _ | exact rd1 _ _ | exact rd2 _ _ _ | exact rd3 _ _ _ _)⟩
      · have h1 : ¬ l.length < m.length := by assumption
        go_ret
        have e := HK.out
        exact ⟨ret_int (clZ_end3 (by rw [← e]; exact HN.out) (by omega)).symm, (by first | exact rd0 _ | exact rd1 _ _ | exact rd2 _ _ _ | exact rd3 _ _ _ _)⟩

def clNodeB (a1 a2 b1 b2 : List Int) : Bool := if clZ a1 b1 ≠ 0 then decide (clZ a1 b1 < 0) else decide (clZ a2 b2 < 0)

end Go.Proofs.YtjkdanmpihildaaGreatDoor

namespace Go.Proofs.YtjkdanmpihildaaGreatDoor
open Go.RowKit

abbrev Ext (w w' : World) : Prop := Below w.heap.size w w'

theorem ext_trans {a b c : World} (h : Ext a b) (k : Ext b c) : Ext a c := h.trans (k.mono h.size)
theorem rd_ext {w w' : World} (h : RD w w') : Ext w w' := by obtain ⟨n, rfl⟩ := h; exact ⟨rfl, rfl, rfl, Nat.le_refl _, fun _ _ => rfl⟩
theorem below_dn {B : Nat} {a w : World} (h : Below B a w) (n : Nat) : Below B a (w.drewN n) := ⟨h.os, h.tape, h.output, h.size, h.block⟩

theorem Ints.nil (w : World) (a : Option Addr) (cap : Nat) : Ints w (.slice a 0 cap) [] :=
  ⟨a, cap, rfl, Nat.zero_le _, Nat.zero_le _, fun h => absurd h (by simp)⟩

theorem lt_of_cell {w : World} {a : Addr} {v : Value} (h : w.cell? a = some v) : a.block < w.heap.size := World.block_lt_of_cell? w a h

theorem Ints.keep {w w' : World} {v : Value} {l : List Int} (h : Ints w v l) (hk : ∀ b, l ≠ [] → v.ownBlock = some b → w'.heap[b]? = w.heap[b]?) : Ints w' v l := by
  obtain ⟨a, cap, rfl, h1, h2, h3⟩ := h
  refine ⟨a, cap, rfl, h1, h2, fun h0 => ?_⟩
  obtain ⟨b, off, rfl, hc⟩ := h3 h0
  refine ⟨b, off, rfl, fun i hi => ?_⟩
  rw [World.cell?_of_block (w := w) (hk b (by intro e; simp [e] at h0) rfl)]
  exact hc i hi
theorem Ints.blk {w : World} {v : Value} {l : List Int} (h : Ints w v l) {b : Nat} (hl : l ≠ []) (hb : v.ownBlock = some b) : b < w.heap.size := by
  obtain ⟨a, cap, rfl, h1, h2, h3⟩ := h
  obtain ⟨b', off, rfl, hc⟩ := h3 (List.length_pos_iff.2 hl)
  simp [Value.ownBlock] at hb
  subst hb
  exact lt_of_cell (hc 0 (List.length_pos_iff.2 hl))
theorem Ints.ext {w w' : World} {v : Value} {l : List Int} (h : Ints w v l) (hk : Ext w w') : Ints w' v l :=
  h.keep fun b hl hb => hk.block b (h.blk hl hb)

theorem Ints.of_own {w : World} {B : Nat} {e : TypeId} {v : Value} {n : Nat} {l : List Int} (h : w.ownsRow B e 1 v n (l.map (Value.int .i64))) (hn : l.length ≤ 1152921504606846976) : Ints w v l := by
  obtain ⟨hlen, h⟩ := h
  simp at hlen
  rcases h with ⟨rfl, hn0⟩ | ⟨g, cap, cur, rfl, _, hg, hnc, hcm, hcs, ht⟩
  · subst hn0
    have : l = [] := List.eq_nil_of_length_eq_zero (by omega)
    subst this
    exact Ints.nil _ _ _
  · subst hlen
    refine ⟨_, cap, rfl, hnc, hn, fun h0 => ⟨g, 0, rfl, fun i hi => ?_⟩⟩
    rw [cell_of_row w g (0 + i) cur e (0, 0) hg]
    have e1 : cur.toList[0 + i]? = (l.map (Value.int .i64))[i]? := by
      rw [← ht, List.getElem?_take, if_pos (by omega)]; simp
    rw [Array.getElem?_toList] at e1
    rw [e1]
    simp [hi, zat]

theorem own_keep {w w' : World} {B : Nat} {e : TypeId} {size : Nat} {v : Value} {n : Nat} {xs : List Value} (h : w.ownsRow B e size v n xs) (hk : Ext w w') : w'.ownsRow B e size v n xs :=
  h.kept (row := none) ⟨hk.os, hk.tape, hk.output, hk.size, fun k hk' _ => hk.block k hk'⟩ (by cases v.ownBlock <;> simp)
theorem own_drewN {w : World} {B : Nat} {e : TypeId} {size : Nat} {v : Value} {n : Nat} {xs : List Value} (h : w.ownsRow B e size v n xs) (k : Nat) : (w.drewN k).ownsRow B e size v n xs := h

theorem info_int : (Tryz.prog.info? 3).map (fun i => (i.zero, i.size, i.bytes)) = some (some (.int .i64 0), 1, 8) := by kernel_rfl

theorem ext_app {W wr w1 : World} {e : TypeId} {size n : Nat} {o : Value} {xs : List Value} {x : Obj} (hext : Ext W wr) (hown : wr.ownsRow W.heap.size e size o n xs) (hg : (wr.alloc x).grownBy w1 o.ownBlock) : Ext W w1 :=
  (hext.alloc hext.size x).grown hg (by have := hext.size; simp; omega) (fun k hk => (hown.lt k hk).1)

theorem own_empty (w : World) (B : Nat) (hB : B ≤ w.heap.size) (e : TypeId) : (w.alloc (.cells #[] e)).ownsRow B e 1 (.slice (some ⟨w.heap.size, 0, none⟩) 0 0) 0 [] :=
  World.ownsRow_made w #[] 0 hB (by decide) (by simp)

theorem own_empty2 (w : World) (X : Obj) (B : Nat) (hB : B ≤ w.heap.size) (e : TypeId) : ((w.alloc X).alloc (.cells #[] e)).ownsRow B e 1 (.slice (some ⟨w.heap.size + 1, 0, none⟩) 0 0) 0 [] := by
  have := own_empty (w.alloc X) B (by simp; omega) e
  simpa using this

theorem src_of {w W : World} {b off : Nat} {l : List Int} (hc : ∀ i, i < l.length → w.cell? ⟨b, off + i, none⟩ = some (.int .i64 (zat l i))) (hE : Ext w W) (s m : Nat) (hsm : s + m ≤ l.length) :
    ∀ j u, (((l.drop s).take m).map (Value.int .i64))[j]? = some u → W.cell? ((⟨b, off + s, none⟩ : Addr).add j) = some u := by
  intro j u hu
  rw [List.getElem?_map, List.getElem?_take] at hu
  split at hu
  · rename_i hj
    rw [List.getElem?_drop] at hu
    have hlt : s + j < l.length := by omega
    rw [List.getElem?_eq_getElem hlt] at hu
    simp at hu
    have h0 := hc (s + j) hlt
    have e : ((⟨b, off + s, none⟩ : Addr).add j) = ⟨b, off + (s + j), none⟩ := by
      unfold Addr.add; split <;> simp_all [Nat.add_assoc]
    rw [e, hE.cell (lt_of_cell h0), h0, zat_lt hlt, hu]
  · simp at hu
theorem one_src {W : World} {B : Nat} {v : Value} (h : W.cell? ⟨B, 0, none⟩ = some v) : ∀ j u, ([v] : List Value)[j]? = some u → W.cell? ((⟨B, 0, none⟩ : Addr).add j) = some u := by
  intro j u hj
  cases j with
  | zero => simp at hj; subst hj; simpa [Addr.add] using h
  | succ j => simp at hj
theorem one_cell {k : IntKind} {n : Int} : ∀ u ∈ ([Value.int k n] : List Value), u.oneCell' = true := by
  intro u hu; simp at hu; subst hu; rfl
theorem new_cell (w : World) (v : Value) (e : TypeId) : (w.alloc (.cells #[v] e)).cell? ⟨w.heap.size, 0, none⟩ = some v := by
  rw [World.cell?_alloc_at _ _ _ _ rfl]; rfl
theorem new_cell2 (w : World) (v : Value) (e : TypeId) (X : Obj) : ((w.alloc (.cells #[v] e)).alloc X).cell? ⟨w.heap.size, 0, none⟩ = some v := by
  rw [World.cell?_alloc_past _ _ _ (by simp)]; exact new_cell _ _ _
theorem new_cell3 (w : World) (v : Value) (e : TypeId) (X : Obj) : ((w.alloc X).alloc (.cells #[v] e)).cell? ⟨w.heap.size + 1, 0, none⟩ = some v := by
  have h := new_cell (w.alloc X) v e
  rw [World.size_alloc] at h; exact h

theorem grown_cell {w w1 : World} {o : Option Nat} (hg : w.grownBy w1 o) {B : Nat} {v : Value} (h : w.cell? ⟨B, 0, none⟩ = some v) (ho : some B ≠ o) : w1.cell? ⟨B, 0, none⟩ = some v :=
  hg.cell h ho
theorem ints_onecell (l : List Int) : ∀ u ∈ l.map (Value.int .i64), u.oneCell' = true := by
  intro u hu; obtain ⟨x, _, rfl⟩ := List.mem_map.1 hu; rfl
theorem ext_grown {W wr w1 : World} {o : Option Nat} (hext : Ext W wr) (hg : wr.grownBy w1 o) (ho : ∀ k, o = some k → W.heap.size ≤ k) : Ext W w1 :=
  hext.grown hg hext.size ho
theorem ext_alloc {W wr : World} (hext : Ext W wr) (x : Obj) : Ext W (wr.alloc x) := hext.alloc hext.size x
theorem ext_drewN {W wr : World} (hext : Ext W wr) (n : Nat) : Ext W (wr.drewN n) := below_dn hext n

end Go.Proofs.YtjkdanmpihildaaGreatDoor

namespace Go.Proofs.YtjkdanmpihildaaGreatDoor
open Go.RowKit

def atZ (at_ l : List Int) : List Int := l.map fun x => zat at_ x.toNat
theorem atZ_snoc (at_ : List Int) {l : List Int} {k : Nat} (h : k < l.length) : atZ at_ (l.take (k + 1)) = atZ at_ (l.take k) ++ [zat at_ (zat l k).toNat] := by
  rw [take_zat h]; simp [atZ]
theorem atZ_len (at_ l : List Int) : (atZ at_ l).length = l.length := by simp [atZ]

set_option maxHeartbeats 400000 in
theorem l3At_any (v u : Value) (t l : List Int) (w : World) (h : Ints w v t) (g : Ints w u l) (hb : ∀ x, x ∈ l → 0 ≤ x ∧ x < t.length) (hsz : l.length ≤ 1000000000) :
    Calls Tryz.prog 48 #[v, u] w fun e w' => ∃ v', e = .returned v' ∧ Ints w' v' (atZ t l) ∧ Ext w w' := by
  obtain ⟨a, cap, rfl, hlc, hcap, hc⟩ := h
  obtain ⟨a', cap', rfl, hlc', hcap', hc'⟩ := g
  obtain ⟨i0, hi, hz0, hz1, hz2⟩ := info_parts info_int
  go_enter Tryz.func48, Tryz.ntmps48
  go_wp2
  go_loopw [5, 6] (fun o i wr => ∃ k : Nat, k ≤ l.length ∧ i = .int .i64 k ∧ wr.ownsRow w.heap.size 3 1 o k ((atZ t (l.take k)).map (Value.int .i64)) ∧ Ext w wr) (fun _ i _ => l.length - (intOf i).toNat)
  case atStart => exact ⟨0, Nat.zero_le _, rfl, own_empty w _ (Nat.le_refl _) _, (Below.refl _ _).alloc (Nat.le_refl _) _⟩
  case round =>
    obtain ⟨k, hk, rfl, hown, hext⟩ := hrel
    by_cases hlt : k < l.length
    · obtain ⟨b', off', rfl, hcell'⟩ := hc' (by omega)
      have hx := hb _ (zat_mem hlt)
      obtain ⟨b, off, rfl, hcell⟩ := hc (by omega)
      have hck' := hcell' k hlt
      have hck := hcell (zat l k).toNat (by omega)
      have hck1 := (hext.cell (lt_of_cell hck')).trans hck'
      have hck2 := (hext.cell (lt_of_cell hck)).trans hck
      clear hcell hc hcell' hc' hck hck' hb
      go_wp2_with (at_builtin; refine wpList_append_own _ rfl _ _ 22 rfl w.heap.size 3 i0 (.int .i64 0) 1 8 Tryz.underlying22 hi hz0 hz1 hz2 rfl (by decide) _ _ _ rfl (hown.alloc _) ⟨wr.heap.size, 0, none⟩ 1 1 [.int .i64 (zat t (zat l k).toNat)] rfl rfl ?c1 ?c2 ?c3 ?c4 ?c5 ?_)
      case c1 =>
        intro j u hj
        match j, hj with
        | 0, hj => simp at hj; subst hj; simp [Addr.add]
      case c2 => intro u hu; simp at hu; subst hu; rfl
      case c3 => unfold maxLen; omega
      case c4 => omega
      case c5 => have := hext.size; simp; omega
      intro v' w1 hown' hgrow _
      have hx1 := ext_app hext hown hgrow
      have hs := atZ_snoc t hlt
      have ho1 : w1.ownsRow w.heap.size 3 1 v' (k + 1) ((atZ t (l.take (k + 1))).map (Value.int .i64)) := by
        rw [hs]; simpa using hown'
      clear hown' hgrow hown hext hs
      go_wp2
      go_roundw
      case rel => exact ⟨k + 1, by omega, by go_num, ho1, hx1⟩
      case measure => simp [intOf]; omega
    · go_wp2
      go_ret
      have e : k = l.length := by omega
      subst e
      rw [List.take_length] at hown
      exact ⟨_, rfl, Ints.of_own hown (by rw [atZ_len]; omega), hext⟩

end Go.Proofs.YtjkdanmpihildaaGreatDoor
