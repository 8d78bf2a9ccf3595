/-
  Contract of the drawing of test inputs: l21DrawBoard. (3 texts.)
-/
import Derived.Test.YteknjeohbcgpdaaGreatDoorY23
import Derived.Test.YteknjeohbcgpdaaGreatDoorY25
import Derived.Test.YteknjeohbcgpdaaGreatDoorY45
import Derived.Laws.ResultCell
set_option maxRecDepth 100000
namespace Go.Proofs.YteknjeohbcgpdaaGreatDoor
section
open Go.RowKit

theorem CurGo.refl {w0 w w' : World} {pc : Nat} {cv : Value} {us : List Nat} {k n : Nat} (h : Cur w0 w pc cv us k) (e : Keep (fun b => b = pc) w w') (hh : w'.heap = w.heap) : CurGo w0 w w' pc cv us k n :=
  ⟨⟨k, by omega, h.code, h.small, ⟨e.os.trans h.ext.os, e.tape.trans h.ext.tape, e.output.trans h.ext.output, Nat.le_trans h.ext.size e.size, fun b hb => by rw [hh]; exact h.ext.block b hb⟩, h.pcz, by rw [hh]; exact h.blk⟩, e⟩
theorem CurGo.drew {w0 w w' : World} {pc : Nat} {cv : Value} {us : List Nat} {k n : Nat} (h : CurGo w0 w w' pc cv us k n) (m : Nat) : CurGo w0 w (w'.drewN m) pc cv us k n := by
  obtain ⟨⟨k', h1, c⟩, e⟩ := h
  exact ⟨⟨k', h1, c.code, c.small, ⟨c.ext.os, c.ext.tape, c.ext.output, c.ext.size, c.ext.block⟩, c.pcz, c.blk⟩, ⟨e.os, e.tape, e.output, e.size, e.block⟩⟩
theorem Cur.drew {w0 w : World} {pc : Nat} {cv : Value} {us : List Nat} {k : Nat} (c : Cur w0 w pc cv us k) (m : Nat) : Cur w0 (w.drewN m) pc cv us k := ⟨c.code, c.small, ⟨c.ext.os, c.ext.tape, c.ext.output, c.ext.size, c.ext.block⟩, c.pcz, c.blk⟩

theorem pick_any {w0 w : World} {pc : Nat} {cv : Value} {us : List Nat} {k : Nat} (h : Cur w0 w pc cv us k) (hk : k ≤ 1000000) (n : Nat) (hn : n ≤ 200) :
    Calls Tryz.prog 92 #[.pointer (some ⟨pc, 0, none⟩), .int .i64 ((n : Nat) : Int)] w fun e w' => ∃ x : Nat, (x = 0 ∨ x < n) ∧ e = .returned (.int .i64 ((x : Nat) : Int)) ∧ CurGo w0 w w' pc cv us k 1 := by
  have H := Lib.hid h
  clear h
  by_cases hn1 : n ≤ 1
  · have h1 : ((n : Nat) : Int) ≤ 1 := by omega
    go_enter Tryz.func92, Tryz.ntmps92
    go_wp2
    go_ret
    exact ⟨0, .inl rfl, rfl, CurGo.refl H.out ⟨rfl, rfl, rfl, Nat.le_refl _, fun _ _ _ => rfl⟩ rfl⟩
  · have h1 : ¬ (((n : Nat) : Int) ≤ 1) := by omega
    have h2 : ¬ (200 < ((n : Nat) : Int)) := by omega
    have h3 : ((n : Nat) : Int) ≠ 0 := by omega
    go_enter Tryz.func92, Tryz.ntmps92
    go_wp2_with (go_at_call 152; refine (next_any H.out hk).mono ?_; rintro e w1 ⟨x, hx, rfl, hg⟩)
    go_ret
    exact ⟨x % n, .inr (Nat.mod_lt _ (by omega)), rfl, hg⟩

theorem one_any {w0 w : World} {pc : Nat} {cv : Value} {us : List Nat} {k : Nat} (h : Cur w0 w pc cv us k) (hk : k ≤ 1000000) (n : Nat) (hn : n ≤ 200) :
    Calls Tryz.prog 94 #[.pointer (some ⟨pc, 0, none⟩), .int .i64 ((n : Nat) : Int)] w fun e w' => ∃ b : Bool, e = .returned (.bool b) ∧ CurGo w0 w w' pc cv us k 1 := by
  have H := Lib.hid h
  clear h
  go_enter Tryz.func94, Tryz.ntmps94
  go_wp2_with (go_at_call 92; refine (pick_any H.out hk n hn).mono ?_; rintro e w1 ⟨x, hx, rfl, hg⟩)
  go_ret
  exact ⟨_, rfl, hg⟩

theorem among_at {w0 w w1 : World} {pc b off cap k x : Nat} {cv : Value} {us : List Nat} {l : List Int} (hv : Ints w (.slice (some ⟨b, off, none⟩) l.length cap) l) (hne : ∀ g, Value.ownBlock (.slice (some ⟨b, off, none⟩) l.length cap) = some g → g ≠ pc) (hl : 0 < l.length) (hg : CurGo w0 w w1 pc cv us k 1) (hx : x = 0 ∨ x < l.length) : x < l.length ∧ ((x : Nat) : Int) < ((l.length : Nat) : Int) ∧ w1.cell? ⟨b, off + x, none⟩ = some (.int .i64 (zat l x)) := by
  have hx' : x < l.length := by omega
  have hn : l ≠ [] := by intro e; simp [e] at hl
  have hv1 : Ints w1 (.slice (some ⟨b, off, none⟩) l.length cap) l := hv.keep fun g _ hg' => hg.2.block g (hv.blk hn hg') (hne g hg')
  obtain ⟨a, c, e, _, _, hc⟩ := hv1
  obtain ⟨b', off', e', hcl⟩ := hc hl
  simp only [Value.slice.injEq] at e
  obtain ⟨rfl, -, -⟩ := e
  simp only [Option.some.injEq, Addr.mk.injEq, and_true] at e'
  obtain ⟨rfl, rfl⟩ := e'
  exact ⟨hx', by omega, hcl x hx'⟩
theorem among_any {w0 w : World} {pc : Nat} {cv : Value} {us : List Nat} {k : Nat} (h : Cur w0 w pc cv us k) (hk : k ≤ 1000000) (v : Value) (l : List Int) (hv : Ints w v l) (hl : 0 < l.length ∧ l.length ≤ 200) (hne : ∀ b, v.ownBlock = some b → b ≠ pc) :
    Calls Tryz.prog 52 #[.pointer (some ⟨pc, 0, none⟩), v] w fun e w' => ∃ z : Int, z ∈ l ∧ e = .returned (.int .i64 z) ∧ CurGo w0 w w' pc cv us k 1 := by
  have H := Lib.hid h
  obtain ⟨a, cap, rfl, hcap, hml, hc⟩ := id hv
  obtain ⟨b, off, rfl, hcl⟩ := hc hl.1
  have HL := Lib.hid hl
  have HV := Lib.hid (And.intro hv hne)
  clear h hc hv hne hl hcl
  go_enter Tryz.func52, Tryz.ntmps52
  go_wp2_with (go_at_call 92; refine (pick_any H.out hk l.length HL.out.2).mono ?_; rintro e w1 ⟨x, hx, rfl, hg⟩; obtain ⟨hx', hx2, hc1⟩ := among_at HV.out.1 HV.out.2 HL.out.1 hg hx)
  go_ret
  exact ⟨_, zat_mem hx', rfl, hg⟩
end
section
open Go.RowKit

def rowsSp7 : List Row := [⟨0, [], 29, [1]⟩, ⟨1, [], 30, [7]⟩, ⟨2, [0, 1], 31, [28, 29]⟩, ⟨3, [], 32, [8]⟩, ⟨4, [2, 3], 33, [30, 31]⟩, ⟨5, [], 34, [1]⟩, ⟨6, [], 35, [7]⟩, ⟨7, [5, 6], 36, [33, 34]⟩, ⟨8, [4, 7], 37, [32, 35]⟩, ⟨9, [8, 0, 1, 2, 3, 4, 5, 6, 7, 8], 7, [36]⟩]
def rowsSp9 : List Row := [⟨0, [], 40, [1]⟩, ⟨1, [], 41, [7]⟩, ⟨2, [0, 1], 42, [39, 40]⟩, ⟨3, [], 43, [8]⟩, ⟨4, [2, 3], 44, [41, 42]⟩, ⟨5, [], 45, [1]⟩, ⟨6, [], 46, [7]⟩, ⟨7, [6], 47, [45]⟩, ⟨8, [5, 7], 48, [44, 46]⟩, ⟨9, [4, 8], 49, [43, 47]⟩, ⟨10, [9, 0, 1, 2, 3, 4, 5, 6, 7, 8, 9], 7, [48]⟩]
def rowsSp10 : List Row := [⟨0, [], 50, [1]⟩, ⟨1, [], 51, [7]⟩, ⟨2, [0, 1], 52, [49, 50]⟩, ⟨3, [], 53, [1]⟩, ⟨4, [], 54, [7]⟩, ⟨5, [4], 55, [53]⟩, ⟨6, [3, 5], 56, [52, 54]⟩, ⟨7, [2, 6], 57, [51, 55]⟩, ⟨8, [7, 0, 1, 2, 3, 4, 5, 6, 7], 7, [56]⟩]
set_option maxHeartbeats 1000000 in
theorem spoilt_any {w0 w : World} {pc : Nat} {cv : Value} {us : List Nat} {k : Nat} (h : Cur w0 w pc cv us k) (hk : k ≤ 900000) (t u : ByteArray) (hu : u.size = 3) (ht : t.size ≤ 200) :
    Calls Tryz.prog 108 #[.pointer (some ⟨pc, 0, none⟩), .string t, .string u] w fun e w' => ∃ t' : ByteArray, t'.size ≤ t.size + 1 ∧ e = .returned (.string t') ∧ CurGo w0 w w' pc cv us k 3 := by
  have H := Lib.hid h
  clear h
  have hu1 : (1 : Int) ≤ ((u.size : Nat) : Int) := by omega
  cases hE : t.toList.isEmpty with
  | true =>
    go_enter Tryz.func108, Tryz.ntmps108
    go_wp2
    go_ret
    exact ⟨_, by rw [ByteArray.size_extract]; omega, rfl, CurGo.refl H.out ⟨rfl, rfl, rfl, Nat.le_refl _, fun _ _ _ => rfl⟩ rfl⟩
  | false =>
    have ht1 : 0 < t.size := by
      rcases Nat.eq_zero_or_pos t.size with e | e
      · have : t = ⟨#[]⟩ := ByteArray.ext (Array.eq_empty_of_size_eq_zero (by simpa using e))
        subst this; exact absurd hE (by simp)
      · exact e
    go_enter Tryz.func108, Tryz.ntmps108
    go_upto_region 4 with (go_at_call 92; refine (pick_any H.out (by omega) t.size ht).mono ?_; rintro e w1 ⟨x, hx, rfl, hg⟩)
    have hx1 : x < t.size := by omega
    have hxi : ((x : Nat) : Int) ≤ ((t.size : Nat) : Int) := by omega
    obtain ⟨⟨k1, hk1, h1⟩, e1⟩ := hg
    have E1 := Lib.hid e1
    clear e1 hx
    go_upto_region 5 with (go_at_call 92; refine (pick_any h1 (by omega) 3 (by omega)).mono ?_; rintro e w2 ⟨y, hy, rfl, hg⟩; have hy1 : ((y : Nat) : Int) ≤ ((u.size : Nat) : Int) := (by omega))
    obtain ⟨s8, hs8⟩ : ∃ s8 : ByteArray, s8 = (u.extract y 3).extract 0 1 := ⟨_, rfl⟩
    rw [← hs8]
    have hz8 : s8.size ≤ 1 := by rw [hs8, ByteArray.size_extract]; omega
    obtain ⟨⟨k2, hk2, h2⟩, e2⟩ := hg
    have E2 := Lib.hid (E1.out.trans e2 fun _ _ h => h)
    have hxj : ((x : Nat) : Int) + 1 ≤ ((t.size : Nat) : Int) := by omega
    have hwx : wrap64 (((x : Nat) : Int) + 1) = ((x : Nat) : Int) + 1 := by unfold wrap64; omega
    clear hs8 e2 hE hy hy1 E1 h1
    have key : ∀ w3, CurGo w0 w2 w3 pc cv us k2 1 → ∀ m, CurGo w0 w (w3.drewN m) pc cv us k 3 := fun w3 hg m => by
      obtain ⟨⟨k3, hk3, h3⟩, e3⟩ := hg
      exact CurGo.drew ⟨⟨k3, by omega, h3⟩, E2.out.trans e3 fun _ _ h => h⟩ m
    have KEY := Lib.hid key
    clear key
    go_upto_region 6 with (go_at_call 92; refine (pick_any h2 (by omega) 3 (by omega)).mono ?_; rintro e w3 ⟨z, hz, rfl, hg⟩)
    have HG := Lib.hid hg
    have hz3 : z = 0 ∨ z = 1 ∨ z = 2 := by omega
    clear hg hz
    have hA : ¬ (9223372036854775807 < min x t.size + s8.size) := by omega
    have hB : ¬ (9223372036854775807 < min x t.size + s8.size + (t.size - x)) := by omega
    have hC : ¬ (9223372036854775807 < min x t.size + (t.size - (x + 1))) := by omega
    have hD : ¬ (9223372036854775807 < min x t.size + s8.size + (t.size - (x + 1))) := by omega
    have hwi : IntKind.i64.wrap (((x : Nat) : Int) + 1) = ((x : Nat) : Int) + 1 := (Go.IntWalk.i64_left _).trans hwx
    have htn : (((x : Nat) : Int) + 1).toNat = x + 1 := by omega
    have h0x : (0 : Int) ≤ ((x : Nat) : Int) + 1 := by omega
    rcases hz3 with rfl | rfl | rfl
    · go_upto_region 7 with fail
      refine wp_region_L (fun _ => True) [] rowsSp7 (by kernel_rfl) ⟨by kernel_rfl, by kernel_rfl, by kernel_rfl⟩ trivial (fun hTab hHeld => ?_)
      ((refine tkB hTab (i := 0) hHeld ?_); (try simp only [nP]); (refine tkB hTab (i := 1) hHeld ?_); (try simp only [nP]); (refine tkB hTab (i := 2) hHeld ?_); (try simp only [nP]); (refine tkB hTab (i := 3) hHeld ?_); (try simp only [nP]); (refine tkB hTab (i := 4) hHeld ?_); (try simp only [nP]); (refine tkB hTab (i := 5) hHeld ?_); (try simp only [nP]); (refine tkB hTab (i := 6) hHeld ?_); (try simp only [nP]); (refine tkB hTab (i := 7) hHeld ?_); (try simp only [nP]); (refine tkB hTab (i := 8) hHeld ?_); (try simp only [nP]); (refine tkB hTab (i := 9) hHeld ?_); (try simp only [nP]))
      refine tlB hTab [] [] ?_ (hm := rfl)
      clear hTab hHeld
      go_wp2
      go_ret
      exact ⟨_, by simp only [ByteArray.size_append, ByteArray.size_extract]; omega, rfl, KEY.out _ HG.out 1⟩
    · go_upto_region 9 with fail
      refine wp_region_L (fun _ => True) [] rowsSp9 (by kernel_rfl) ⟨by kernel_rfl, by kernel_rfl, by kernel_rfl⟩ trivial (fun hTab hHeld => ?_)
      ((refine tkB hTab (i := 0) hHeld ?_); (try simp only [nP]); (refine tkB hTab (i := 1) hHeld ?_); (try simp only [nP]); (refine tkB hTab (i := 2) hHeld ?_); (try simp only [nP]); (refine tkB hTab (i := 3) hHeld ?_); (try simp only [nP]); (refine tkB hTab (i := 4) hHeld ?_); (try simp only [nP]); (refine tkB hTab (i := 5) hHeld ?_); (try simp only [nP]); (refine tkB hTab (i := 6) hHeld ?_); (try simp only [nP]); (refine tkB hTab (i := 7) hHeld ?_); (try simp only [nP]); (refine tkB hTab (i := 8) hHeld ?_); (try simp only [nP]); (refine tkB hTab (i := 9) hHeld ?_); (try simp only [nP]); (refine tkB hTab (i := 10) hHeld ?_); (try simp only [nP]))
      refine tlB hTab [] [] ?_ (hm := rfl)
      clear hTab hHeld
      go_wp2
      go_ret
      exact ⟨_, by simp only [ByteArray.size_append, ByteArray.size_extract]; omega, rfl, KEY.out _ HG.out 1⟩
    · go_upto_region 10 with fail
      refine wp_region_L (fun _ => True) [] rowsSp10 (by kernel_rfl) ⟨by kernel_rfl, by kernel_rfl, by kernel_rfl⟩ trivial (fun hTab hHeld => ?_)
      ((refine tkB hTab (i := 0) hHeld ?_); (try simp only [nP]); (refine tkB hTab (i := 1) hHeld ?_); (try simp only [nP]); (refine tkB hTab (i := 2) hHeld ?_); (try simp only [nP]); (refine tkB hTab (i := 3) hHeld ?_); (try simp only [nP]); (refine tkB hTab (i := 4) hHeld ?_); (try simp only [nP]); (refine tkB hTab (i := 5) hHeld ?_); (try simp only [nP]); (refine tkB hTab (i := 6) hHeld ?_); (try simp only [nP]); (refine tkB hTab (i := 7) hHeld ?_); (try simp only [nP]); (refine tkB hTab (i := 8) hHeld ?_); (try simp only [nP]))
      refine tlB hTab [] [] ?_ (hm := rfl)
      clear hTab hHeld
      go_wp2
      go_ret
      exact ⟨_, by simp only [ByteArray.size_append, ByteArray.size_extract]; omega, rfl, KEY.out _ HG.out 1⟩
end
section
open Go.RowKit

theorem keep_up {F G : Nat → Prop} {a b : World} (h : Keep F a b) (k : ∀ x, F x → G x) : Keep G a b := ⟨h.os, h.tape, h.output, h.size, fun x hx hn => h.block x hx fun e => hn (k x e)⟩

structure DrM (w wr : World) (pc po : Nat) (ov : Value) (out : List ByteArray) : Prop where
  b1 : wr.heap[w.heap.size]? = some (.cells #[.slice none 0 0] 31 (0, 0))
  b2 : wr.heap[po]? = some (.cells #[ov] 31 (0, 0))
  own : wr.ownsRow (w.heap.size + 1) 9 1 ov out.length (out.map Value.string)
  np : ov.ownBlock ≠ some po
  pz : w.heap.size < po
  pcl : pc < w.heap.size
  keep : Keep (fun b => b = pc) w wr
theorem DrM.cur {w wr w3 : World} {pc po : Nat} {ov : Value} {out : List ByteArray} (m : DrM w wr pc po ov out) (h : Keep (fun b => b = pc) wr w3) : DrM w w3 pc po ov out := by
  have h1 := m.pz; have h2 := m.pcl
  exact ⟨(h.block _ (blk_lt m.b1) (by omega)).trans m.b1, (h.block _ (blk_lt m.b2) (by omega)).trans m.b2, own_keepG m.own h (fun b hb e => by have := (m.own.lt b hb).1; omega), m.np, m.pz, m.pcl, m.keep.trans h fun _ _ h => h⟩
theorem Cur.keep {w0 w w' : World} {pc : Nat} {cv : Value} {us : List Nat} {k : Nat} {F : Nat → Prop} (c : Cur w0 w pc cv us k) (h : Keep F w w') (hF : ∀ b, F b → pc < b) : Cur w0 w' pc cv us k := by
  have hz := c.pcz
  obtain ⟨s, hb⟩ := c.blk
  exact ⟨c.code, c.small, ext_keepF c.ext h (fun b hb => by have := hF b hb; omega), c.pcz, s, (h.block _ (blk_lt hb) (fun e => by have := hF _ e; omega)).trans hb⟩
theorem DrM.put {w0 w wr w5 : World} {pc po k : Nat} {cv : Value} {us : List Nat} {ov v5 : Value} {out : List ByteArray} {X : Obj} {s : ByteArray} (m : DrM w wr pc po ov out) (c : Cur w0 wr pc cv us k)
    (ho : w5.ownsRow (w.heap.size + 1) 9 1 v5 (out.length + 1) (out.map Value.string ++ [.string s])) (hg : (wr.alloc X).grownBy w5 ov.ownBlock) (hl : Lies (wr.alloc X) ov v5) :
    DrM w (w5.setCell ⟨po, 0, none⟩ v5) pc po v5 (out ++ [s]) ∧ Cur w0 (w5.setCell ⟨po, 0, none⟩ v5) pc cv us k ∧ w5.cell? ⟨po, 0, none⟩ = some ov ∧ w5.frozen? ⟨po, 0, none⟩ = false := by
  have hp := m.pz; have hq := m.pcl
  have hz : (wr.alloc X).heap.size = wr.heap.size + 1 := World.size_alloc _ _
  have zg := hg.size
  have hk : Keep (fun b => ov.ownBlock = some b) wr w5 := ⟨hg.os, hg.tape, hg.output, by omega, fun b hb hn => by
    rw [hg.block b (by omega) (fun e => hn e.symm), Below.heap_alloc _ _ _ hb]⟩
  have hb2 : w5.heap[po]? = some (.cells #[ov] 31 (0, 0)) := (hk.block _ (blk_lt m.b2) (fun e => m.np e)).trans m.b2
  have hno : v5.ownBlock ≠ some po := fun e => by
    rcases hl with k | ⟨q, k, k2⟩
    · have := m.np; rw [← k] at this; exact this e
    · rw [k] at e; injection e with e; have := blk_lt m.b2; omega
  have hks : Keep (fun b => b = po ∨ ov.ownBlock = some b) wr (w5.setCell ⟨po, 0, none⟩ v5) := (keep_up hk fun _ h => Or.inr h).trans (keep_up (keep_set (p := ⟨po, 0, none⟩)) fun _ h => Or.inl h) fun _ _ h => h
  have hlt : ∀ b, (b = po ∨ ov.ownBlock = some b) → w.heap.size < b := fun b h => by
    rcases h with e | e
    · omega
    · have := (m.own.lt b e).1; omega
  have c0 := cell_of_row w5 po 0 _ _ _ hb2
  simp only [gE] at c0
  refine ⟨⟨(hks.block _ (blk_lt m.b1) (fun e => by have := hlt _ e; omega)).trans m.b1, heap_setCell_same _ _ _ _ _ _ hb2, ?_, hno, hp, hq, m.keep.trans hks (fun b hb e => by have := hlt _ e; omega)⟩, c.keep hks (fun b e => by have := hlt _ e; omega), c0, frozen_of_row w5 po 0 _ _ hb2⟩
  rw [List.map_append, List.length_append]
  exact own_keepG ho (keep_set (p := ⟨po, 0, none⟩)) (fun b hb e => hno (by have e' : b = po := e; rw [← e']; exact hb))

def DrawP (w0 w : World) (pc : Nat) (cv : Value) (us : List Nat) (k n l0 l1 z : Nat) (e : Ending) (w' : World) : Prop :=
  ∃ (v' : Value) (ss' : List ByteArray), e = .returned (.agg #[v']) ∧ w'.ownsRow w.heap.size 9 1 v' ss'.length (ss'.map Value.string) ∧ (l0 ≤ ss'.length ∧ ss'.length ≤ l1) ∧ (∀ s, s ∈ ss' → s.size ≤ z) ∧ CurGo w0 w w' pc cv us k n

set_option maxHeartbeats 1000000 in
theorem drawBoard_any {w0 w : World} {pc : Nat} {cv : Value} {us : List Nat} {k : Nat} (h : Cur w0 w pc cv us k) (hk : k ≤ 900000) (most : Int) (hpc : pc < w.heap.size) :
    Calls Tryz.prog 107 #[.pointer (some ⟨pc, 0, none⟩), .int .i64 most] w (DrawP w0 w pc cv us k 30 1 4 4) := by
  obtain ⟨i0, hi0, hz0, hz1, hz2⟩ := info_parts info_stringG
  have hx1 : Ext w (w.alloc (.cells #[.slice none 0 0] 31)) := by go_grown
  have hb1 := heap_alloc_new w (.cells #[.slice none 0 0] 31)
  have hk0 : Keep (fun _ => False) w (w.alloc (.cells #[.slice none 0 0] 31)) := ⟨rfl, rfl, rfl, by simp, fun b hb _ => Below.heap_alloc _ _ _ hb⟩
  have hc1 := h.keep hk0 (fun b e => e.elim)
  have hkp : Keep (fun b => b = pc) w (w.alloc (.cells #[.slice none 0 0] 31)) := keep_up hk0 fun _ e => e.elim
  go_enter Tryz.func107, Tryz.ntmps107
  go_upto_region 1 with fail
  generalize w.alloc (.cells #[.slice none 0 0] 31) = W at *
  have HPC := Lib.hid hpc
  clear h hk0 hx1 hpc
  go_upto_region 2 with (go_at_call 92; refine (pick_any hc1 (by omega) 4 (by omega)).mono ?_; rintro e w1 ⟨x, hx, rfl, hg1⟩)
  obtain ⟨⟨k1, hk1, hc2⟩, e1⟩ := hg1
  obtain ⟨hh, eh, hh1, hh4⟩ : ∃ hh : Nat, 1 + ((x : Nat) : Int) = ((hh : Nat) : Int) ∧ 1 ≤ hh ∧ hh ≤ 4 := ⟨x + 1, by omega, by omega, by omega⟩
  rw [eh]
  clear hx eh
  go_upto_region 3 with (go_at_call 92; refine (pick_any hc2 (by omega) 4 (by omega)).mono ?_; rintro e w2 ⟨y, hy, rfl, hg2⟩)
  obtain ⟨⟨k2, hk2, hc3⟩, e2⟩ := hg2
  obtain ⟨ww, ew, hw1, hw4⟩ : ∃ ww : Nat, 1 + ((y : Nat) : Int) = ((ww : Nat) : Int) ∧ 1 ≤ ww ∧ ww ≤ 4 := ⟨y + 1, by omega, by omega, by omega⟩
  rw [ew]
  clear hy ew
  have hkW : Keep (fun b => b = pc) w w2 := (hkp.trans e1 fun _ _ h => h).trans e2 fun _ _ h => h
  have hb2 : w2.heap[w.heap.size]? = some (.cells #[.slice none 0 0] 31 (0, 0)) := by
    rw [e2.block _ (Nat.lt_of_lt_of_le (blk_lt hb1) e1.size) (fun e => by have := HPC.out; omega), e1.block _ (blk_lt hb1) (fun e => by have := HPC.out; omega)]; exact hb1
  have hkA : Keep (fun _ => False) w2 (w2.alloc (.cells #[.slice none 0 0] 31)) := ⟨rfl, rfl, rfl, by simp, fun b hb _ => Below.heap_alloc _ _ _ hb⟩
  have hM0 : DrM w (w2.alloc (.cells #[.slice none 0 0] 31)) pc w2.heap.size (.slice none 0 0) [] :=
    ⟨by rw [Below.heap_alloc _ _ _ (blk_lt hb2)]; exact hb2, heap_alloc_new _ _, ⟨by simp, .inl ⟨rfl, rfl⟩⟩, by simp [Value.ownBlock], blk_lt hb2, HPC.out, hkW.trans hkA fun _ _ e => e.elim⟩
  have hC0 := hc3.keep hkA fun b e => e.elim
  clear hc1 hc2 hc3 hb1 hb2 hkp e1 e2 hkW hkA
  go_upto_region 6 with fail
  generalize w2.alloc (.cells #[.slice none 0 0] 31) = Wa at *
  generalize w2.heap.size = po at *
  go_loopw [7, 9, 10, 11] (fun fv iv _ _ wr => ∃ (i k' : Nat) (f : Int) (ov : Value) (out : List ByteArray), fv = .int .i64 f ∧ iv = .int .i64 ((i : Nat) : Int) ∧ i ≤ hh ∧ DrM w wr pc po ov out ∧ Hid (out.length = i) ∧ Cur w0 wr pc cv us k' ∧ k' ≤ k + 2 + 5 * i ∧ Hid (∀ s, s ∈ out → s.size ≤ 4)) (fun _ iv _ _ _ => hh - (intOf iv).toNat)
  case atStart => exact ⟨0, k2, _, _, [], rfl, rfl, Nat.zero_le _, hM0, Lib.hid rfl, hC0, by omega, Lib.hid (by simp)⟩
  case round =>
    clear hM0 hC0
    obtain ⟨i, k', f, ov, out, rfl, rfl, hi, hM, hol, hC, hkk, HSZ⟩ := hrel
    by_cases hlt : i < hh
    · have hil : ((i : Nat) : Int) < ((hh : Nat) : Int) := by omega
      have HM := Lib.hid hM
      clear hM
      go_upto_region 10 with fail
      go_loopw [7, 10, 11] (fun fv rv kv wr => ∃ (q k'' : Nat) (f : Int) (s : ByteArray), fv = .int .i64 f ∧ kv = .int .i64 ((q : Nat) : Int) ∧ rv = .string s ∧ q ≤ ww ∧ s.size = q ∧ DrM w wr pc po ov out ∧ Cur w0 wr pc cv us k'' ∧ k'' ≤ k' + q) (fun _ _ kv _ => ww - (intOf kv).toNat)
      case atStart => exact ⟨0, k', f, _, rfl, rfl, rfl, Nat.zero_le _, rfl, HM.out, hC, by omega⟩
      case round =>
        clear hC
        obtain ⟨q, k'', f, s, rfl, rfl, rfl, hq, hsz, hM, hC, hkq⟩ := hrel
        by_cases hql : q < ww
        · have hql' : ((q : Nat) : Int) < ((ww : Nat) : Int) := by omega
          have HM2 := Lib.hid hM
          have hcat : ¬ (9223372036854775807 < s.size + 1) := by omega
          clear hM
          by_cases hf : f < most
          · go_upto_region 12 with fail
            go_wp2_with (go_at_call 92; refine (pick_any hC (by omega) 4 (by omega)).mono ?_; rintro e w3 ⟨z, hz, rfl, hg3⟩)
            all_goals obtain ⟨⟨k3, hk3, h3⟩, e3⟩ := hg3
            all_goals exact ⟨⟨q + 1, k3, _, _, rfl, by go_num, rfl, hql, by rw [ByteArray.size_append, hsz]; rfl, HM2.out.cur e3, h3, by omega⟩, by simp [intOf]; omega⟩
          · go_wp2
            exact ⟨⟨q + 1, k'', _, _, rfl, by go_num, rfl, hql, by rw [ByteArray.size_append, hsz]; rfl, HM2.out, hC, by omega⟩, by simp [intOf]; omega⟩
        · have hql' : ¬ (((q : Nat) : Int) < ((ww : Nat) : Int)) := by omega
          obtain ⟨ao, co, rfl, hco1, hco2⟩ := own_len hM.own
          have k0 := cell_of_row wr po 0 _ _ _ hM.b2
          simp only [gE] at k0
          have ho4 := hM.own
          have hz4 := blk_lt hM.b2
          have hpz := hM.pz
          have hol4 : out.length ≤ 4 := by have := hol.out; omega
          have HM2 := Lib.hid (And.intro hM hC)
          clear hM hC
          go_wp2_with (at_builtin; refine app_list rfl (.tmp 44) (.tmp 46) 22 rfl (w.heap.size + 1) 9 i0 (.string ⟨#[]⟩) 1 16 Tryz.underlying22 hi0 hz0 hz1 hz2 rfl (by decide) (.slice ao out.length co) out.length (out.map Value.string) rfl (ho4.alloc _) _ 1 _ [.string s] rfl rfl (.inr ⟨_, rfl, one_src (new_cell _ _ _)⟩) (by intro u hu; simp at hu; subst hu; rfl) (by unfold maxLen; omega) (by omega) (by rw [World.size_alloc]; omega) ?_; intro v5 w5 ho5 hg5 hl5; obtain ⟨a5, c5, rfl, -⟩ := own_len ho5; obtain ⟨hM5, hC5, g5, f5⟩ := HM2.out.1.put HM2.out.2 ho5 hg5 hl5; have HM5 := Lib.hid (And.intro hM5 hC5); clear hM5 hC5)
          go_roundw
          case rel => exact ⟨i + 1, k'', _, _, out ++ [s], rfl, by go_num, hlt, HM5.out.1, Lib.hid (by simp [hol.out]), HM5.out.2, by omega, Lib.hid (fun z hz => by
            rcases List.mem_append.1 hz with e | e
            · exact HSZ.out z e
            · obtain rfl : z = s := by simpa using e
              omega)⟩
          case measure => simp [intOf]; omega
    · have hil : ¬ (((i : Nat) : Int) < ((hh : Nat) : Int)) := by omega
      obtain ⟨ao, co, rfl, hco1, hco2⟩ := own_len hM.own
      have k0 := cell_of_row wr po 0 _ _ _ hM.b2
      have k1 := cell_of_row wr w.heap.size 0 _ _ _ hM.b1
      have k2 := frozen_of_row wr w.heap.size 0 _ _ hM.b1
      simp only [gE] at k0 k1
      have HM := Lib.hid hM
      have hr1 := hM.b1
      have HB : Hid (1 ≤ out.length ∧ out.length ≤ 4) := Lib.hid (by have h9 := hol.out; omega)
      clear hM
      go_wp2
      have HH := Lib.hid (heap_setCell_same wr w.heap.size 0 _ _ (.slice ao out.length co) hr1)
      (try simp only [Exit.inBlock, Exit.then])
      refine bodyPost_ret (results_cell_row rfl _ _ w.heap.size 31 #[.slice ao out.length co] (0, 0) _ rfl HH.out Tryz.underlying31 rfl (by kernel_rfl)) rfl ?_
      have hks := keep_set (w := wr) (p := ⟨w.heap.size, 0, none⟩) (v := .slice ao out.length co)
      have hke := HM.out.keep.trans hks (F := fun b => b = pc) (fun b hb e => by have e' : b = w.heap.size := e; omega)
      exact ⟨_, out, rfl, own_lowerB (own_keepG HM.out.own hks (fun b hb e => by have := (HM.out.own.lt b hb).1; have e' : b = w.heap.size := e; omega)) (by omega), HB.out, HSZ.out, ⟨k', by omega, hC.keep hks (fun b e => by have e' : b = w.heap.size := e; have := HPC.out; omega)⟩, hke⟩
end
end Go.Proofs.YteknjeohbcgpdaaGreatDoor
