/-
  Contract of the program's ge: the order of two games of the pool.
-/
import Derived.Test.YteknjeohbcgpdaaGreatDoorY5
import Derived.Test.YteknjeohbcgpdaaGreatDoorY7
import Derived.Test.YteknjeohbcgpdaaGreatDoorY20
set_option maxRecDepth 100000
namespace Go.Proofs.YteknjeohbcgpdaaGreatDoor
open Go.RowKit
open Cgt (Dag Nd vl Same Ge)

theorem PoolAt.maps {w w' : World} {pp h : Nat} {s : PSt} (k : PoolAt w pp h s) {G : Nat → Prop} (hk : Keep G w w') (hG : ∀ b, G b → h ≤ b ∧ b < h + 1 + 1 + 1) {cn' : Nat → Option Nat} (hc : CnOk s.D cn')
    (find : ∃ f, MapIs Tryz.prog 9 w' h s.D.length f ∧ (∀ i (hi : i < s.D.length), f (keyV s.D[i]) = some (.int .i64 (i : Int))) ∧ ∀ k v, f k = some v → ∃ i, ∃ hi : i < s.D.length, k = keyV s.D[i] ∧ v = .int .i64 (i : Int))
    (orders : ∃ n f, MapIs Tryz.prog 183 w' (h + 1) n f ∧ ∀ k v, f k = some v → ∃ (a b : Nat) (g : Bool), k = .agg #[.int .i64 (a : Int), .int .i64 (b : Int)] ∧ v = .bool g ∧ a < s.D.length ∧ b < s.D.length ∧ (g = true ↔ Cgt.Ge (vl s.D a) (vl s.D b)))
    (canons : ∃ n f, MapIs Tryz.prog 3 w' (h + 1 + 1) n f ∧ (∀ i : Nat, f (.int .i64 (i : Int)) = (cn' i).map fun j => .int .i64 (j : Int)) ∧ ∀ k v, f k = some v → ∃ i : Nat, k = .int .i64 (i : Int)) :
    PoolAt w' pp h ⟨s.lv, s.rv, s.bv, s.D, s.S, cn'⟩ ∧ Keep (POwn pp h s) w w' := by
  obtain ⟨x1, a1, b1⟩ := k.left
  obtain ⟨x2, a2, b2⟩ := k.right
  have hF : ∀ b, s.lv.ownBlock = some b ∨ s.rv.ownBlock = some b ∨ s.bv.ownBlock = some b → ¬ G b := fun b hb hg => by have := (k.ap2 b hb).2; have := hG b hg; omega
  have hS : ∀ b, s.S b → ¬ G b := fun b hb hg => k.ap5 b hb (.inr (.inl (hG b hg)))
  exact ⟨⟨k.good, k.small, hc, (hk.block _ (blk_lt k.box) (fun hg => by have := k.ap1; have := hG pp hg; omega)).trans k.box, ⟨x1, own_keepG a1 hk (fun b hb => hF b (.inl hb)), b1.keep hk hS⟩, ⟨x2, own_keepG a2 hk (fun b hb => hF b (.inr (.inl hb))), b2.keep hk hS⟩, own_keepG k.born hk (fun b hb => hF b (.inr (.inr hb))),
    find, orders, canons, k.ap1, k.ap2, k.ap3, k.ap4, k.ap5, k.ap6, fun hm => Nat.lt_of_lt_of_le (k.mapsLt hm) hk.size⟩, ⟨hk.os, hk.tape, hk.output, hk.size, fun b hb hn => hk.block b hb (fun hg => hn (.inr (.inl (hG b hg))))⟩⟩

theorem PoolAt.findKeep {w w' : World} {pp h : Nat} {s : PSt} (k : PoolAt w pp h s) (hb : w'.heap[h]? = w.heap[h]?) : ∃ f, MapIs Tryz.prog 9 w' h s.D.length f ∧ (∀ i (hi : i < s.D.length), f (keyV s.D[i]) = some (.int .i64 (i : Int))) ∧ ∀ k v, f k = some v → ∃ i, ∃ hi : i < s.D.length, k = keyV s.D[i] ∧ v = .int .i64 (i : Int) := by
  obtain ⟨f, h1, h2⟩ := k.find; exact ⟨f, h1.keep hb, h2⟩
theorem PoolAt.ordersKeep {w w' : World} {pp h : Nat} {s : PSt} (k : PoolAt w pp h s) (hb : w'.heap[h + 1]? = w.heap[h + 1]?) : ∃ n f, MapIs Tryz.prog 183 w' (h + 1) n f ∧ ∀ k v, f k = some v → ∃ (a b : Nat) (g : Bool), k = .agg #[.int .i64 (a : Int), .int .i64 (b : Int)] ∧ v = .bool g ∧ a < s.D.length ∧ b < s.D.length ∧ (g = true ↔ Cgt.Ge (vl s.D a) (vl s.D b)) := by
  obtain ⟨n, f, h1, h2⟩ := k.orders; exact ⟨n, f, h1.keep hb, h2⟩
theorem PoolAt.canonsKeep {w w' : World} {pp h : Nat} {s : PSt} (k : PoolAt w pp h s) (hb : w'.heap[h + 1 + 1]? = w.heap[h + 1 + 1]?) : ∃ n f, MapIs Tryz.prog 3 w' (h + 1 + 1) n f ∧ (∀ i : Nat, f (.int .i64 (i : Int)) = (s.cn i).map fun j => .int .i64 (j : Int)) ∧ ∀ k v, f k = some v → ∃ i : Nat, k = .int .i64 (i : Int) := by
  obtain ⟨n, f, h1, h2⟩ := k.canons; exact ⟨n, f, h1.keep hb, h2⟩

theorem PoolAt.ordersRoom {w : World} {pp h : Nat} {s : PSt} (k : PoolAt w pp h s) : ∃ f, MapIs Tryz.prog 183 w (h + 1) 810000000000 f ∧ ∀ k v, f k = some v → ∃ (a b : Nat) (g : Bool), k = .agg #[.int .i64 (a : Int), .int .i64 (b : Int)] ∧ v = .bool g ∧ a < s.D.length ∧ b < s.D.length ∧ (g = true ↔ Cgt.Ge (vl s.D a) (vl s.D b)) := by
  obtain ⟨n, f, h1, h2⟩ := k.orders
  refine ⟨f, (h1.room ((List.range s.D.length).flatMap fun (a : Nat) => (List.range s.D.length).map fun (b : Nat) => .agg #[.int .i64 (a : Int), .int .i64 (b : Int)]) fun key v hv => ?_).mono ?_, h2⟩
  · obtain ⟨a, b, g, e, _, ha, hb, _⟩ := h2 key v hv
    exact List.mem_flatMap.2 ⟨a, List.mem_range.2 ha, List.mem_map.2 ⟨b, List.mem_range.2 hb, e.symm⟩⟩
  · have e : ∀ l : List Nat, (l.flatMap fun (a : Nat) => (List.range s.D.length).map fun (b : Nat) => Value.agg #[.int .i64 (a : Int), .int .i64 (b : Int)]).length = l.length * s.D.length := by
      intro l
      induction l with
      | nil => simp
      | cons x l ih => rw [List.flatMap_cons, List.length_append, ih, List.length_map, List.length_range, List.length_cons, Nat.add_mul]; omega
    rw [e, List.length_range]
    exact Nat.mul_le_mul k.small k.small

theorem PoolAt.orderIn {w w' : World} {pp h n : Nat} {s : PSt} {f : Value → Option Value} {a b : Nat} {g : Bool} (k : PoolAt w pp h s) (hf : ∀ k v, f k = some v → ∃ (a b : Nat) (g : Bool), k = .agg #[.int .i64 (a : Int), .int .i64 (b : Int)] ∧ v = .bool g ∧ a < s.D.length ∧ b < s.D.length ∧ (g = true ↔ Cgt.Ge (vl s.D a) (vl s.D b)))
    (hM : MapIs Tryz.prog 183 w' (h + 1) n (upd (fun _ _ => Classical.propDecidable _) f (.agg #[.int .i64 (a : Int), .int .i64 (b : Int)]) (.bool g))) (hg : w.grownBy w' (some (h + 1))) (ha : a < s.D.length) (hb : b < s.D.length) (hge : g = true ↔ Cgt.Ge (vl s.D a) (vl s.D b)) : PGo pp h s w s w' := by
  have kk := keep_grown hg
  obtain ⟨h1, h2⟩ := k.maps kk (fun b hb => by omega) k.cnok (k.findKeep (kk.block _ (k.mapsLt (by omega)) (by omega))) ⟨n, _, hM, fun key v hv => by
    rcases upd_old hv with ⟨rfl, rfl⟩ | hv
    · exact ⟨a, b, g, rfl, rfl, ha, hb, hge⟩
    · exact hf key v hv⟩ (k.canonsKeep (kk.block _ (k.mapsLt (by omega)) (by omega)))
  exact ⟨h1, h2, fun _ h => .inl h, fun _ h => h, fun _ h => .inl h, ⟨[], by simp⟩, fun _ _ h => h⟩

def GePost (pp h : Nat) (s : PSt) (a b : Nat) (w : World) (e : Ending) (w' : World) : Prop := ∃ g : Bool, e = .returned (.bool g) ∧ (g = true ↔ Ge (vl s.D a) (vl s.D b)) ∧ PGo pp h s w s w'
def PGeOk (m : Nat) : Prop := ∀ (pp h : Nat) (s : PSt) (a b : Nat) (w : World), PoolAt w pp h s → a < s.D.length → b < s.D.length → a + b < m → Calls Tryz.prog 217 #[.pointer (some ⟨pp, 0, none⟩), .int .i64 (a : Int), .int .i64 (b : Int)] w (GePost pp h s a b w)

theorem zeroB (w : World) : (zeroValue 4).run Tryz.prog w = .ok (.bool false) w := by kernel_rfl
def rowsLookO : List Row := [⟨0, [], 23, [0]⟩, ⟨1, [0], 24, [22]⟩, ⟨2, [1], 25, [23]⟩, ⟨3, [2], 26, [24]⟩, ⟨4, [], 27, [7]⟩, ⟨5, [3, 4], 28, [25, 26]⟩, ⟨6, [5], 22, [27]⟩, ⟨7, [6], 29, [21]⟩, ⟨8, [6], 30, [21]⟩, ⟨9, [7, 0, 1, 2, 3, 4, 5, 6, 7], 9, [28]⟩, ⟨10, [8, 9, 0, 1, 2, 3, 4, 5, 6, 7, 8, 9], 10, [29]⟩]
def rowsKeepO : List Row := [⟨0, [], 68, [0]⟩, ⟨1, [0], 69, [67]⟩, ⟨2, [1], 70, [68]⟩, ⟨3, [2], 71, [69]⟩, ⟨4, [], 72, [7]⟩, ⟨5, [], 73, [10]⟩, ⟨6, [3, 4, 5, 0, 1, 2, 3, 4, 5], 0, [70, 71, 72]⟩]
set_option maxHeartbeats 4000000 in
theorem ge_step {m : Nat} (ih : PGeOk m) : PGeOk (m + 1) := by
  intro pp h s a b w hP ha hb hm
  have hds := hP.small
  go_enter Tryz.func217, Tryz.ntmps217
  by_cases hab : a = b
  · subst hab
    go_wp2_with fail
    go_ret
    exact ⟨true, rfl, by simp [Cgt.ge_refl], PGo.refl hP (Below.refl _ _)⟩
  have hne : ((a : Int) == (b : Int)) = false := by simp; omega
  have HNE := Lib.hid hab
  clear hab
  have hx1 : Ext w (w.alloc (.cells #[.int .i64 (a : Int), .int .i64 (b : Int)] 183)) := by go_grown
  have hkb : (w.alloc (.cells #[.int .i64 (a : Int), .int .i64 (b : Int)] 183)).heap[w.heap.size]? = _ := heap_alloc_new w _
  go_upto_region 4 with fail
  have hP1 := hP.ext hx1
  generalize w.alloc (.cells #[.int .i64 (a : Int), .int .i64 (b : Int)] 183) = W1 at *
  obtain ⟨f, hM, hf⟩ := hP1.ordersRoom
  obtain ⟨kl, hkl⟩ := keyOfP a b (by omega) (by omega)
  have hlk := fun (W : World) (hW : W.heap[h + 1]? = W1.heap[h + 1]?) => (hM.keep hW).look keyedP Tryz.underlying134 (zeroB W) hkl true
  have ck0 := cell_of_row W1 w.heap.size 0 _ _ _ hkb
  have ck1 := cell_of_row W1 w.heap.size 1 _ _ _ hkb
  have hP0 : PoolAt W1.drew pp h s := hP1.ext (rd_ext ⟨1, rfl⟩)
  have hgo0 : PGo pp h s w s W1.drew := PGo.refl hP (ext_trans hx1 (rd_ext ⟨1, rfl⟩))
  have hnb : w.heap.size < W1.drew.heap.size := blk_lt hkb
  have hnp : ¬ POwn pp h s w.heap.size := fun hc => by have := hP.ownLt hc; omega
  have c4 := hP1.c4
  have hagg : Value.agg #[.int .i64 (a : Int), .int .i64 (b : Int)] = Value.agg #[.int .i64 (a : Int), .int .i64 (b : Int)] := rfl
  clear hagg hP1
  cases hfk : f (.agg #[.int .i64 (a : Int), .int .i64 (b : Int)]) with
  | some v =>
    obtain ⟨a', b', g, e1, rfl, -, -, hg⟩ := hf _ _ hfk
    simp only [Value.agg.injEq, Array.mk.injEq, List.cons.injEq, Value.int.injEq, true_and, and_true] at e1
    obtain ⟨e1, e2⟩ := e1
    obtain rfl : a = a' := by omega
    obtain rfl : b = b' := by omega
    simp only [hfk, Option.getD_some, Option.isSome_some, if_true] at hlk
    refine wp_region_L (fun W => W.cell? ⟨pp, 4, none⟩ = some (.map (some (h + 1))) ∧ W.cell? ⟨w.heap.size, 0, none⟩ = some (.int .i64 (a : Int)) ∧ W.cell? ⟨w.heap.size, 1, none⟩ = some (.int .i64 (b : Int)) ∧ (Instr.lookup 134 (.map (some (h + 1))) (.agg #[.int .i64 (a : Int), .int .i64 (b : Int)]) true).run Tryz.prog W = .ok (.tuple #[.bool g, .bool true]) W) [10] rowsLookO (by kernel_rfl) ⟨by kernel_rfl, by kernel_rfl, by kernel_rfl⟩ ⟨c4, ck0, ck1, hlk _ rfl⟩ (fun hTab hHeld => ?_)
    ((refine tkB hTab (i := 0) hHeld ?_); (try simp only [nP]); (refine tkB hTab (i := 1) hHeld ?_); (try simp only [nP]); (refine tkB hTab (i := 2) hHeld ?_); (try simp only [nP]); (refine tkB hTab (i := 3) hHeld ?_); (try simp only [nP]); (refine tkB hTab (i := 4) hHeld ?_); (try simp only [nP]); (refine tkB hTab (i := 5) hHeld ?_); (try simp only [nP]); (refine tkB hTab (i := 6) hHeld ?_); (try simp only [nP]); (refine tkB hTab (i := 7) hHeld ?_); (try simp only [nP]); (refine tkB hTab (i := 8) hHeld ?_); (try simp only [nP]); (refine tkB hTab (i := 9) hHeld ?_); (try simp only [nP]))
    refine tlB hTab [10] [_] ?_
    clear hTab hHeld
    go_wp2_with fail
    go_ret
    exact ⟨g, rfl, hg, hgo0⟩
  | none =>
    simp only [hfk, Option.getD_none, Option.isSome_none, if_true] at hlk
    refine wp_region_L (fun W => W.cell? ⟨pp, 4, none⟩ = some (.map (some (h + 1))) ∧ W.cell? ⟨w.heap.size, 0, none⟩ = some (.int .i64 (a : Int)) ∧ W.cell? ⟨w.heap.size, 1, none⟩ = some (.int .i64 (b : Int)) ∧ (Instr.lookup 134 (.map (some (h + 1))) (.agg #[.int .i64 (a : Int), .int .i64 (b : Int)]) true).run Tryz.prog W = .ok (.tuple #[.bool false, .bool false]) W) [10] rowsLookO (by kernel_rfl) ⟨by kernel_rfl, by kernel_rfl, by kernel_rfl⟩ ⟨c4, ck0, ck1, hlk _ rfl⟩ (fun hTab hHeld => ?_)
    ((refine tkB hTab (i := 0) hHeld ?_); (try simp only [nP]); (refine tkB hTab (i := 1) hHeld ?_); (try simp only [nP]); (refine tkB hTab (i := 2) hHeld ?_); (try simp only [nP]); (refine tkB hTab (i := 3) hHeld ?_); (try simp only [nP]); (refine tkB hTab (i := 4) hHeld ?_); (try simp only [nP]); (refine tkB hTab (i := 5) hHeld ?_); (try simp only [nP]); (refine tkB hTab (i := 6) hHeld ?_); (try simp only [nP]); (refine tkB hTab (i := 7) hHeld ?_); (try simp only [nP]); (refine tkB hTab (i := 8) hHeld ?_); (try simp only [nP]); (refine tkB hTab (i := 9) hHeld ?_); (try simp only [nP]))
    refine tlB hTab [10] [_] ?_
    clear hTab hHeld hlk hf hfk hM f c4
    have ck0' : W1.drew.cell? ⟨w.heap.size, 0, none⟩ = some (.int .i64 (a : Int)) := ck0
    have ck1' : W1.drew.cell? ⟨w.heap.size, 1, none⟩ = some (.int .i64 (b : Int)) := ck1
    clear ck0 ck1 hkb hx1
    generalize W1.drew = W0 at *
    obtain ⟨gr, capr, aR, cR, cpp1, hgr1, hgr2, cgr, hSR⟩ := hP0.rightAt ha
    obtain ⟨gl, capl, aL, cL, cpp0, hgl1, hgl2, cgl, hSL⟩ := hP0.leftAt hb
    have haw := hP0.good.wf a _ (List.getElem?_eq_getElem ha)
    have hbw := hP0.good.wf b _ (List.getElem?_eq_getElem hb)
    have HW := Lib.hid hP0.good.wf
    go_wp2
    go_loopw [10, 12, 40] (fun is _ ii wr => ∃ k : Nat, k ≤ (s.D[a]).2.length ∧ ii = .int .i64 ((k : Nat) : Int) ∧ is = .bool true ∧ PGo pp h s W0 s wr ∧ Hid (∀ j (h : j < (s.D[a]).2.length), j < k → ¬ Ge (vl s.D b) (vl s.D (s.D[a]).2[j]))) (fun _ _ ii _ => (s.D[a]).2.length - (intOf ii).toNat)
    case atStart => exact ⟨0, Nat.zero_le _, rfl, rfl, PGo.refl hP0 (Below.refl _ _), fun j _ h => absurd h (by omega)⟩
    case round =>
      obtain ⟨k, hk, rfl, rfl, hgo, HN⟩ := hrel
      by_cases hlt : k < (s.D[a]).2.length
      · have h1 : ((k : Nat) : Int) < (((s.D[a]).2.length : Nat) : Int) := by omega
        have hI := (Sup.go hSR (Off.lists hP0) hgo).out
        obtain ⟨aR', cR', e, -, hln, hcl⟩ := hI
        rw [toZ_len] at hln
        simp only [Value.slice.injEq, toZ_len, true_and] at e
        obtain ⟨rfl, rfl⟩ := e
        obtain ⟨bR, oR, rfl, hcell⟩ := hcl (by rw [toZ_len]; omega)
        have hck := hcell k (by rw [toZ_len]; exact hlt)
        rw [toZ_zat hlt] at hck
        have hxr := haw.2 _ (List.getElem_mem hlt)
        have IH := Lib.hid (ih pp h s b (s.D[a]).2[k] wr hgo.pool hb (by omega) (by omega))
        have HSR := Lib.hid hSR
        have HSL := Lib.hid hSL
        clear hcl hcell hSR hSL ih
        by_cases hge : Ge (vl s.D b) (vl s.D (s.D[a]).2[k])
        · have HGE := Lib.hid hge
          go_upto_region 21 with (go_at_call 217; refine IH.out.mono ?_; rintro e wX ⟨g, rfl, hg, hgo2⟩
                                  obtain rfl : g = true := hg.2 HGE.out
                                  have hgoX := hgo.trans hgo2
                                  have hgeX := Lib.hid (show (false = true ↔ Ge (vl s.D a) (vl s.D b)) by simpa using look_false_r HW.out ha hlt HGE.out)
                                  clear hg)
          have hPX := hgoX.pool
          have hkX := hgoX.keep.block _ hnb hnp
          have ckX0 : wX.cell? ⟨w.heap.size, 0, none⟩ = some (.int .i64 (a : Int)) := (World.cell?_of_block hkX).trans ck0'
          have ckX1 : wX.cell? ⟨w.heap.size, 1, none⟩ = some (.int .i64 (b : Int)) := (World.cell?_of_block hkX).trans ck1'
          obtain ⟨fX, hMX, hfX⟩ := hPX.ordersRoom
          have c4X := hPX.c4
          refine wp_region_L (fun W => W.cell? ⟨pp, 4, none⟩ = some (.map (some (h + 1))) ∧ W.cell? ⟨w.heap.size, 0, none⟩ = some (.int .i64 (a : Int)) ∧ W.cell? ⟨w.heap.size, 1, none⟩ = some (.int .i64 (b : Int))) [6] rowsKeepO (by kernel_rfl) ⟨by kernel_rfl, by kernel_rfl, by kernel_rfl⟩ ⟨c4X, ckX0, ckX1⟩ (fun hTab hHeld => ?_)
          ((refine tkB hTab (i := 0) hHeld ?_); (try simp only [nP]); (refine tkB hTab (i := 1) hHeld ?_); (try simp only [nP]); (refine tkB hTab (i := 2) hHeld ?_); (try simp only [nP]); (refine tkB hTab (i := 3) hHeld ?_); (try simp only [nP]); (refine tkB hTab (i := 4) hHeld ?_); (try simp only [nP]); (refine tkB hTab (i := 5) hHeld ?_); (try simp only [nP]))
          refine tlB hTab [6] [_] ?_
          clear hTab hHeld
          go_wp2_with (at_mapUpdate; refine store_list rfl _ _ _ 134 rfl 183 4 keyedP Tryz.underlying134 (h + 1) 810000000000 fX rfl (hMX.keep rfl) (by unfold maxLen; omega) (.agg #[.int .i64 (a : Int), .int .i64 (b : Int)]) _ rfl rfl ⟨kl, hkl⟩ ?_; intro wZ hMZ hgZ)
          go_ret
          exact ⟨_, rfl, by simpa using hgeX.out, hgo0.trans (hgoX.trans ((PGo.refl hPX (rd_ext ⟨1, rfl⟩)).trans (PoolAt.orderIn (hPX.ext (rd_ext ⟨1, rfl⟩)) hfX hMZ hgZ ha hb (by simpa using hgeX.out))))⟩
        · have HGE := Lib.hid hge
          go_wp2_with (go_at_call 217; refine IH.out.mono ?_; rintro e wX ⟨g, rfl, hg, hgo2⟩
                       obtain rfl : g = false := by simpa using (fun e => HGE.out (hg.1 e))
                       clear hg)
          go_roundw
          case rel => exact ⟨k + 1, by omega, by go_num, rfl, hgo.trans hgo2, look_past hlt HN HGE.out⟩
          case measure => simp [intOf]; omega
      · have h1 : ¬ (((k : Nat) : Int) < (((s.D[a]).2.length : Nat) : Int)) := by omega
        have hkl : k = (s.D[a]).2.length := by omega
        subst hkl
        have hkn := hgo.keep
        obtain ⟨wo, rfl⟩ : ∃ wo : World, wo = wr := ⟨_, rfl⟩
        have cpl := hgo.pool.leftAt hb
        obtain ⟨gl', capl', aL', cL', cpp0', hgl1', hgl2', cgl', hSL'⟩ := cpl
        have HSL := Lib.hid hSL
        clear hSL hSR cgr cgl cpp0 cpp1
        go_wp2
        go_loopw [10, 14, 58] (fun is _ ii wr => ∃ k : Nat, k ≤ (s.D[b]).1.length ∧ ii = .int .i64 ((k : Nat) : Int) ∧ is = .bool true ∧ PGo pp h s W0 s wr ∧ PGo pp h s wo s wr ∧ Hid (∀ j (h : j < (s.D[b]).1.length), j < k → ¬ Ge (vl s.D (s.D[b]).1[j]) (vl s.D a))) (fun _ _ ii _ => (s.D[b]).1.length - (intOf ii).toNat)
        case atStart => exact ⟨0, Nat.zero_le _, rfl, rfl, hgo, PGo.refl hgo.pool (Below.refl _ _), fun j _ h => absurd h (by omega)⟩
        case round =>
          clear hkn
          have hPo := hgo.pool
          clear hgo
          obtain ⟨k, hk, rfl, rfl, hgo, hgoo, HN2⟩ := hrel
          by_cases hlt : k < (s.D[b]).1.length
          · have h1 : ((k : Nat) : Int) < (((s.D[b]).1.length : Nat) : Int) := by omega
            have hI := (Sup.go hSL' (Off.lists hPo) hgoo).out
            obtain ⟨aL2, cL2, e, -, hln, hcl⟩ := hI
            rw [toZ_len] at hln
            simp only [Value.slice.injEq, toZ_len, true_and] at e
            obtain ⟨rfl, rfl⟩ := e
            obtain ⟨bR, oR, rfl, hcell⟩ := hcl (by rw [toZ_len]; omega)
            have hck := hcell k (by rw [toZ_len]; exact hlt)
            rw [toZ_zat hlt] at hck
            have hxr := hbw.1 _ (List.getElem_mem hlt)
            have IH := Lib.hid (ih pp h s (s.D[b]).1[k] a wr hgo.pool (by omega) ha (by omega))
            have HSL2 := Lib.hid hSL'
            clear hcl hcell hSL' ih
            by_cases hge : Ge (vl s.D (s.D[b]).1[k]) (vl s.D a)
            · have HGE := Lib.hid hge
              go_upto_region 21 with (go_at_call 217; refine IH.out.mono ?_; rintro e wX ⟨g, rfl, hg, hgo2⟩
                                      obtain rfl : g = true := hg.2 HGE.out
                                      have hgoX := hgo.trans hgo2
                                      have hgeX := Lib.hid (show (false = true ↔ Ge (vl s.D a) (vl s.D b)) by simpa using look_false_l HW.out hb hlt HGE.out)
                                      clear hg)
              have hPX := hgoX.pool
              have hkX := hgoX.keep.block _ hnb hnp
              have ckX0 : wX.cell? ⟨w.heap.size, 0, none⟩ = some (.int .i64 (a : Int)) := (World.cell?_of_block hkX).trans ck0'
              have ckX1 : wX.cell? ⟨w.heap.size, 1, none⟩ = some (.int .i64 (b : Int)) := (World.cell?_of_block hkX).trans ck1'
              obtain ⟨fX, hMX, hfX⟩ := hPX.ordersRoom
              have c4X := hPX.c4
              refine wp_region_L (fun W => W.cell? ⟨pp, 4, none⟩ = some (.map (some (h + 1))) ∧ W.cell? ⟨w.heap.size, 0, none⟩ = some (.int .i64 (a : Int)) ∧ W.cell? ⟨w.heap.size, 1, none⟩ = some (.int .i64 (b : Int))) [6] rowsKeepO (by kernel_rfl) ⟨by kernel_rfl, by kernel_rfl, by kernel_rfl⟩ ⟨c4X, ckX0, ckX1⟩ (fun hTab hHeld => ?_)
              ((refine tkB hTab (i := 0) hHeld ?_); (try simp only [nP]); (refine tkB hTab (i := 1) hHeld ?_); (try simp only [nP]); (refine tkB hTab (i := 2) hHeld ?_); (try simp only [nP]); (refine tkB hTab (i := 3) hHeld ?_); (try simp only [nP]); (refine tkB hTab (i := 4) hHeld ?_); (try simp only [nP]); (refine tkB hTab (i := 5) hHeld ?_); (try simp only [nP]))
              refine tlB hTab [6] [_] ?_
              clear hTab hHeld
              go_wp2_with (at_mapUpdate; refine store_list rfl _ _ _ 134 rfl 183 4 keyedP Tryz.underlying134 (h + 1) 810000000000 fX rfl (hMX.keep rfl) (by unfold maxLen; omega) (.agg #[.int .i64 (a : Int), .int .i64 (b : Int)]) _ rfl rfl ⟨kl, hkl⟩ ?_; intro wZ hMZ hgZ)
              go_ret
              exact ⟨_, rfl, by simpa using hgeX.out, hgo0.trans (hgoX.trans ((PGo.refl hPX (rd_ext ⟨1, rfl⟩)).trans (PoolAt.orderIn (hPX.ext (rd_ext ⟨1, rfl⟩)) hfX hMZ hgZ ha hb (by simpa using hgeX.out))))⟩
            · have HGE := Lib.hid hge
              go_wp2_with (go_at_call 217; refine IH.out.mono ?_; rintro e wX ⟨g, rfl, hg, hgo2⟩
                           obtain rfl : g = false := by simpa using (fun e => HGE.out (hg.1 e))
                           clear hg)
              go_roundw
              case rel => exact ⟨k + 1, by omega, by go_num, rfl, hgo.trans hgo2, hgoo.trans hgo2, look_past' hlt HN2 HGE.out⟩
              case measure => simp [intOf]; omega
          · have h1 : ¬ (((k : Nat) : Int) < (((s.D[b]).1.length : Nat) : Int)) := by omega
            have hgeX := Lib.hid (show (true = true ↔ Ge (vl s.D a) (vl s.D b)) by simpa using look_true HW.out ha hb (fun j h => HN.out j h h) (fun j h => HN2.out j h (by omega)))
            obtain ⟨wX, rfl⟩ : ∃ wX : World, wX = wr := ⟨_, rfl⟩
            have hgoX := hgo
            clear hSL' ih
            go_upto_region 21 with fail
            have hPX := hgoX.pool
            have hkX := hgoX.keep.block _ hnb hnp
            have ckX0 : wX.cell? ⟨w.heap.size, 0, none⟩ = some (.int .i64 (a : Int)) := (World.cell?_of_block hkX).trans ck0'
            have ckX1 : wX.cell? ⟨w.heap.size, 1, none⟩ = some (.int .i64 (b : Int)) := (World.cell?_of_block hkX).trans ck1'
            obtain ⟨fX, hMX, hfX⟩ := hPX.ordersRoom
            have c4X := hPX.c4
            refine wp_region_L (fun W => W.cell? ⟨pp, 4, none⟩ = some (.map (some (h + 1))) ∧ W.cell? ⟨w.heap.size, 0, none⟩ = some (.int .i64 (a : Int)) ∧ W.cell? ⟨w.heap.size, 1, none⟩ = some (.int .i64 (b : Int))) [6] rowsKeepO (by kernel_rfl) ⟨by kernel_rfl, by kernel_rfl, by kernel_rfl⟩ ⟨c4X, ckX0, ckX1⟩ (fun hTab hHeld => ?_)
            ((refine tkB hTab (i := 0) hHeld ?_); (try simp only [nP]); (refine tkB hTab (i := 1) hHeld ?_); (try simp only [nP]); (refine tkB hTab (i := 2) hHeld ?_); (try simp only [nP]); (refine tkB hTab (i := 3) hHeld ?_); (try simp only [nP]); (refine tkB hTab (i := 4) hHeld ?_); (try simp only [nP]); (refine tkB hTab (i := 5) hHeld ?_); (try simp only [nP]))
            refine tlB hTab [6] [_] ?_
            clear hTab hHeld
            go_wp2_with (at_mapUpdate; refine store_list rfl _ _ _ 134 rfl 183 4 keyedP Tryz.underlying134 (h + 1) 810000000000 fX rfl (hMX.keep rfl) (by unfold maxLen; omega) (.agg #[.int .i64 (a : Int), .int .i64 (b : Int)]) _ rfl rfl ⟨kl, hkl⟩ ?_; intro wZ hMZ hgZ)
            go_ret
            exact ⟨_, rfl, by simpa using hgeX.out, hgo0.trans (hgoX.trans ((PGo.refl hPX (rd_ext ⟨1, rfl⟩)).trans (PoolAt.orderIn (hPX.ext (rd_ext ⟨1, rfl⟩)) hfX hMZ hgZ ha hb (by simpa using hgeX.out))))⟩

theorem pgeOk : ∀ m, PGeOk m := by
  intro m
  induction m with
  | zero => intro pp h s a b w _ _ _ h; omega
  | succ m ih => exact ge_step ih
theorem pge_any (pp h : Nat) (s : PSt) (a b : Nat) (w : World) (hP : PoolAt w pp h s) (ha : a < s.D.length) (hb : b < s.D.length) : Calls Tryz.prog 217 #[.pointer (some ⟨pp, 0, none⟩), .int .i64 (a : Int), .int .i64 (b : Int)] w (GePost pp h s a b w) :=
  pgeOk (a + b + 1) pp h s a b w hP ha hb (by omega)

end Go.Proofs.YteknjeohbcgpdaaGreatDoor
