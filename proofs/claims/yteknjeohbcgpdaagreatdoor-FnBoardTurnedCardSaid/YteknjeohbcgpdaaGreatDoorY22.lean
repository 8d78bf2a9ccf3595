/-
  Contract of the program's node: the game with some options, each once.
-/
import Derived.Test.YteknjeohbcgpdaaGreatDoorY7
import Derived.Test.YteknjeohbcgpdaaGreatDoorY20
import Derived.Test.YteknjeohbcgpdaaGreatDoorY21
set_option maxRecDepth 100000
namespace Go.Proofs.YteknjeohbcgpdaaGreatDoor
open Go.RowKit
open Cgt (Dag Nd vl Same)

theorem key_made (w : World) (B c : Nat) (hB : B ≤ w.heap.size) (hc : c ≤ maxLen) : (w.alloc (.cells (madeCells #[Value.int .u8 0] c) 5)).ownsRow B 5 1 (.slice (some ⟨w.heap.size, 0, none⟩) 0 c) 0 (u8s (keyP [])) :=
  ⟨by simp [u8s, keyP], .inr ⟨w.heap.size, c, madeCells #[Value.int .u8 0] c, rfl, hB, heap_alloc_new w _, Nat.zero_le _, hc, by rw [size_madeCells]; simp, by simp [u8s, keyP]⟩⟩
theorem u8s_app (a b : List Nat) : u8s (a ++ b) = u8s a ++ u8s b := by simp [u8s]
theorem b36_len : ∀ k n, (b36f k n).length ≤ k
  | 0, n => by simp [b36f]
  | k + 1, n => by
    rw [b36f]; split
    · simp
    · have := b36_len k (n / 36); simp; omega
theorem keyP_len : ∀ l : List Nat, (keyP l).length ≤ 5 * l.length
  | [] => by simp [keyP]
  | i :: l => by
    have := keyP_len l
    have h : (b36 i).length ≤ 4 := b36_len 4 i
    unfold keyP at this ⊢
    rw [List.flatMap_cons, List.length_append, List.length_append]
    simp only [List.length_cons, List.length_nil]
    omega
theorem own_cast {w : World} {B e m n : Nat} {v : Value} {xs ys : List Value} (h : w.ownsRow B e 1 v n xs) (hn : n = m) (hx : xs = ys) : w.ownsRow B e 1 v m ys := by subst hn; subst hx; exact h
theorem key_step {l : List Nat} {k : Nat} (hk : k < l.length) : keyP (l.take (k + 1)) = keyP (l.take k) ++ (b36 l[k] ++ [44]) := by
  rw [List.take_succ_eq_append_getElem hk, keyP_snoc]
theorem key_own1 {w : World} {B : Nat} {v : Value} {l : List Nat} {k : Nat} (hk : k < l.length) (p : List Nat) (h : w.ownsRow B 5 1 v ((p ++ keyP (l.take k)).length + (b36 l[k]).length + 1) (u8s (p ++ keyP (l.take k)) ++ u8s (b36 l[k]) ++ [.int .u8 44])) :
    w.ownsRow B 5 1 v (p ++ keyP (l.take (k + 1))).length (u8s (p ++ keyP (l.take (k + 1)))) := by
  refine own_cast h ?_ ?_
  · rw [key_step hk]; simp; omega
  · rw [key_step hk]; simp [u8s]
theorem key_conv {W : World} {B : Nat} {v : Value} {key : List Nat} (h : W.ownsRow B 5 1 v key.length (u8s key)) (hk : 0 < key.length) :
    ∃ g cap, v = .slice (some ⟨g, 0, none⟩) key.length cap ∧ g < W.heap.size ∧ ∀ W', W'.heap[g]? = W.heap[g]? → (convert 38 9 (.slice (some ⟨g, 0, none⟩) key.length cap)).run Tryz.prog W' = .ok (.string (bytesN key)) W' := by
  obtain ⟨g, cap, e, _, _, hc⟩ := own_at h hk
  have hc0 := hc 0 (by omega)
  rw [u8s, List.getElem?_map, List.getElem?_eq_getElem hk] at hc0
  refine ⟨g, cap, e, lt_of_cell hc0, fun W' hW => ?_⟩
  have := run_convert_bytes_arg (P := Tryz.prog) W' 38 5 Tryz.underlying38 Tryz.underlying5 g 0 key.length cap (toZ key) (by rw [toZ_len]) (fun i hi => by
    rw [World.cell?_of_block (w := W) hW, Nat.zero_add, hc i (by omega), u8s, List.getElem?_map, List.getElem?_eq_getElem hi]
    simp [List.getD, toZ, hi]) 9 Tryz.underlying9
  rw [this]
  have e2 : strOfNums (toZ key) = bytesN key := by
    unfold strOfNums bytesN toZ
    rw [List.map_map]; rfl
  rw [e2]
theorem zeroI (w : World) : (zeroValue 3).run Tryz.prog w = .ok (.int .i64 0) w := by kernel_rfl
theorem info_ints : (Tryz.prog.info? 80).map (fun i => (i.zero, i.size, i.bytes)) = some (some (.slice none 0 0), 1, 24) := by kernel_rfl
theorem slice_cell {a : Option Addr} {n c : Nat} : ∀ u ∈ ([Value.slice a n c] : List Value), u.oneCell' = true := by
  intro u hu; simp at hu; subst hu; rfl
def rowsFind : List Row := [⟨0, [], 77, [0]⟩, ⟨1, [0], 78, [76]⟩, ⟨2, [1], 79, [77]⟩, ⟨3, [2], 80, [78]⟩, ⟨4, [], 81, [7]⟩, ⟨5, [4], 82, [80]⟩, ⟨6, [3, 5], 83, [79, 81]⟩, ⟨7, [6], 76, [82]⟩, ⟨8, [7], 84, [75]⟩, ⟨9, [7], 85, [75]⟩, ⟨10, [8, 0, 1, 2, 3, 4, 5, 6, 7, 8], 14, [83]⟩, ⟨11, [9, 10, 0, 1, 2, 3, 4, 5, 6, 7, 8, 9, 10], 15, [84]⟩]
def rowsKeep : List Row := [⟨0, [], 93, [0]⟩, ⟨1, [0], 94, [92]⟩, ⟨2, [1], 95, [93]⟩, ⟨3, [2], 96, [94]⟩, ⟨4, [], 97, [7]⟩, ⟨5, [4], 98, [96]⟩, ⟨6, [], 99, [15]⟩, ⟨7, [3, 5, 6, 0, 1, 2, 3, 4, 5, 6], 0, [95, 97, 98]⟩]

set_option maxHeartbeats 4000000 in
theorem node_any (pp h : Nat) (s : PSt) (vl_ vr_ : Value) (l r : List Nat) (w : World) (hP : PoolAt w pp h s) (hD : s.D.length + 1 ≤ 900000) (hl : ∀ x, x ∈ l → x < s.D.length) (hr : ∀ x, x ∈ r → x < s.D.length)
    (hln : l.length ≤ 1000000) (hrn : r.length ≤ 1000000) (hvl : Ints w vl_ (toZ l)) (hvr : Ints w vr_ (toZ r)) :
    Calls Tryz.prog 119 #[.pointer (some ⟨pp, 0, none⟩), vl_, vr_] w (PNodePost pp h s l r w) := by
  obtain ⟨i0, hi0, hz0, hz1, hz2⟩ := info_parts info_u8
  obtain ⟨la, lc, rfl, -⟩ := id hvl
  obtain ⟨ra, rc, rfl, -⟩ := id hvr
  go_enter Tryz.func119, Tryz.ntmps119
  have hx00 : Ext w w := Below.refl _ _
  go_upto_region 2 with (go_at_call 168; refine (distinct_any _ _ _ (by first | exact hvl | exact hvr.ext hx1) (by rw [toZ_len]; omega)).mono ?_; rintro e w1 ⟨v1, rfl, hL1, hx1⟩; rw [dstZ_toZ] at hL1)
  rename_i w0 v0 hL0 hx0 K1 a1
  have hE1 := ext_trans hx0 hx1
  obtain ⟨aL, cL, rfl, hcL, _⟩ := own_len hL0
  obtain ⟨aR, cR, rfl, hcR, _⟩ := own_len hL1
  simp only [toZ_len] at *
  have hsl := sortN_len l
  have hsr := sortN_len r
  have hmk := fun w : World => run_make (P := Tryz.prog) w 38 5 i0 (.int .u8 0) Tryz.underlying38 hi0 hz0 .i64 .i64 (0 : Int) (4 * (((sortN l).length : Int) + ((sortN r).length : Int)) + 1) (by omega) (by omega) (by rw [hz2]; omega) (by omega)
  simp only [hz1, Nat.mul_one] at hmk
  go_upto_region 3 with fail
  clear hmk
  have hK0 := key_made w1 w1.heap.size (4 * ((sortN l).length + (sortN r).length) + 1) (Nat.le_refl _) (by unfold maxLen; omega)
  have hx3 : Ext w1 (w1.alloc (.cells (madeCells #[Value.int .u8 0] (4 * ((sortN l).length + (sortN r).length) + 1)) 5)) := by go_grown
  generalize w1.alloc (.cells (madeCells #[Value.int .u8 0] (4 * ((sortN l).length + (sortN r).length) + 1)) 5) = W3 at *
  have hLI := (Ints.of_own hL0 (by rw [toZ_len]; omega)).ext hx1
  have hRI := Ints.of_own hL1 (by rw [toZ_len]; omega)
  have fL : ∀ b, (Value.slice aL (sortN l).length cL).ownBlock = some b → w.heap.size ≤ b ∧ b < w1.heap.size := fun b hb => by have := hL0.lt b hb; have := hx1.size; omega
  have fR : ∀ b, (Value.slice aR (sortN r).length cR).ownBlock = some b → w.heap.size ≤ b ∧ b < w1.heap.size := fun b hb => by have := hL1.lt b hb; have := hx0.size; omega
  have hLm : ∀ x, x ∈ sortN l → x < s.D.length := fun x hx => hl x (sortN_mem.1 hx)
  have hRm : ∀ x, x ∈ sortN r → x < s.D.length := fun x hx => hr x (sortN_mem.1 hx)
  have FL := Lib.hid fL
  have FR := Lib.hid fR
  clear hL0 hL1 fL fR hx1 hx0
  generalize hL : sortN l = L at *
  generalize hR : sortN r = R at *
  go_wp2
  go_loopw [7, 8, 10, 30] (fun kv bn _ ii wr => ∃ k : Nat, k ≤ L.length ∧ ii = .int .i64 (k : Int) ∧ bn = .int .i64 (bornTo s.D (L.take k)) ∧ wr.ownsRow w1.heap.size 5 1 kv ([] ++ keyP (L.take k)).length (u8s ([] ++ keyP (L.take k))) ∧ Ext w1 wr) (fun _ _ _ ii _ => L.length - (intOf ii).toNat)
  case atStart => exact ⟨0, Nat.zero_le _, rfl, rfl, hK0, hx3⟩
  case round =>
    obtain ⟨k, hk, rfl, rfl, hown, hE⟩ := hrel
    by_cases hlt : k < L.length
    · have h1 : ((k : Nat) : Int) < ((L.length : Nat) : Int) := by omega
      obtain ⟨aq, cq, e1, -, -, hcl⟩ := id hLI
      simp only [Value.slice.injEq, toZ_len, true_and] at e1
      obtain ⟨rfl, rfl⟩ := e1
      obtain ⟨b, off, rfl, hcell⟩ := hcl (by rw [toZ_len]; omega)
      have hck := hcell k (by rw [toZ_len]; exact hlt)
      rw [toZ_zat hlt] at hck
      have hck1 := (hE.cell (lt_of_cell hck)).trans hck
      have hxk := hLm (L[k]) (List.getElem_mem hlt)
      obtain ⟨ak, ckk, rfl, hckk, _⟩ := own_len hown
      have hkl := keyP_len (L.take k)
      have hkl2 := List.length_take_le k L
      obtain ⟨gb, gc, c2, hgl, hgm, cb⟩ := (hP.ext hE1).bornAt hxk
      have hbn := bornTo_bd hP.good.wf (L.take k) (fun x hx => hLm x (List.mem_of_mem_take hx))
      have hbx := Cgt.born_vl_le hP.good.wf L[k]
      have HB := Lib.hid (bornTo_snoc s.D hlt)
      have hz := hE.size
      have HO := Lib.hid (fun (v : Value) (W : World) h => key_own1 (w := W) (B := w1.heap.size) (v := v) hlt [] h)
      simp only [List.nil_append] at hown
      clear hcl hcell
      go_wp2_with (first
        | (go_at_call 169; refine (AppendInt_36 L[k] (by omega) _ _ _ _ _ hown (by omega) (by omega)).mono ?_; rintro e w4 ⟨v4, rfl, ho4, hk4, hb4⟩; have hx4 := ext_keep hE hk4 (fun x hx => (hown.lt x hx).1); have hz4 := hk4.size; obtain ⟨a4, c4, rfl, hn4, hm4⟩ := own_len ho4)
        | (at_builtin; refine app_list rfl (.tmp 36) (.tmp 37) 38 rfl w1.heap.size 5 i0 (.int .u8 0) 1 1 Tryz.underlying38 hi0 hz0 hz1 hz2 rfl (by decide) (.slice a4 ((keyP (L.take k)).length + (b36 L[k]).length) c4) _ _ rfl (ho4.alloc _) _ 1 _ [.int .u8 44] rfl rfl (.inr ⟨_, rfl, one_src (new_cell _ _ _)⟩) one_cell (by unfold maxLen; have := b36_len 4 L[k]; unfold b36; omega) (by have := b36_len 4 L[k]; unfold b36; omega) (by rw [World.size_alloc]; omega) ?_
           intro v5 w5 ho5 hg5 hl5
           have hx5 : Ext w1 w5 := ext_grown (ext_alloc hx4 _) hg5 (fun b hb => (ho4.lt b hb).1)
           have c2' := (hx5.cell (lt_of_cell c2)).trans c2
           have cb' := (hx5.cell (lt_of_cell cb)).trans cb))
      go_roundw
      case rel => exact ⟨k + 1, by omega, by go_num, by rw [HB.out], HO.out _ _ ho5, hx5⟩
      case measure => simp [intOf]; omega
    · have h1 : ¬ (((k : Nat) : Int) < ((L.length : Nat) : Int)) := by omega
      have hke : k = L.length := by omega
      subst hke
      simp only [List.take_length, List.nil_append] at hown ⊢
      obtain ⟨ak, ckk, rfl, hckk, _⟩ := own_len hown
      have hkl := keyP_len L
      have hz := hE.size
      go_wp2_with (at_builtin; refine app_list rfl (.tmp 50) (.tmp 51) 38 rfl w1.heap.size 5 i0 (.int .u8 0) 1 1 Tryz.underlying38 hi0 hz0 hz1 hz2 rfl (by decide) (.slice ak (keyP L).length ckk) _ _ rfl (hown.alloc _) _ 1 _ [.int .u8 124] rfl rfl (.inr ⟨_, rfl, one_src (new_cell _ _ _)⟩) one_cell (by unfold maxLen; omega) (by omega) (by rw [World.size_alloc]; omega) ?_
                   intro v5 w5 ho5 hg5 hl5
                   have hx5 : Ext w1 w5 := ext_grown (ext_alloc hE _) hg5 (fun b hb => (hown.lt b hb).1)
                   have ho5' := own_cast ho5 (m := ((keyP L ++ [124]) ++ keyP (R.take 0)).length) (ys := u8s ((keyP L ++ [124]) ++ keyP (R.take 0))) (by simp [keyP]) (by simp [u8s, keyP]))
      clear ho5 hg5 hl5 hown hE
      obtain ⟨wo, rfl⟩ : ∃ wo : World, wo = wr := ⟨_, rfl⟩
      go_loopw [7, 8, 12, 55] (fun kv bn _ ii wr => ∃ k : Nat, k ≤ R.length ∧ ii = .int .i64 (k : Int) ∧ bn = .int .i64 (bornTo s.D (L ++ R.take k)) ∧ wr.ownsRow w1.heap.size 5 1 kv ((keyP L ++ [124]) ++ keyP (R.take k)).length (u8s ((keyP L ++ [124]) ++ keyP (R.take k))) ∧ Ext w1 wr) (fun _ _ _ ii _ => R.length - (intOf ii).toNat)
      case atStart => exact ⟨0, Nat.zero_le _, rfl, by simp, ho5', hx5⟩
      case round =>
        clear ho5' hx5
        obtain ⟨k, hk, rfl, rfl, hown, hE⟩ := hrel
        by_cases hlt : k < R.length
        · have h1 : ((k : Nat) : Int) < ((R.length : Nat) : Int) := by omega
          obtain ⟨aq, cq, e1, -, -, hcl⟩ := id hRI
          simp only [Value.slice.injEq, toZ_len, true_and] at e1
          obtain ⟨rfl, rfl⟩ := e1
          obtain ⟨b, off, rfl, hcell⟩ := hcl (by rw [toZ_len]; omega)
          have hck := hcell k (by rw [toZ_len]; exact hlt)
          rw [toZ_zat hlt] at hck
          have hck1 := (hE.cell (lt_of_cell hck)).trans hck
          have hxk := hRm (R[k]) (List.getElem_mem hlt)
          obtain ⟨ak, ckk, rfl, hckk, _⟩ := own_len hown
          have hkl3 := keyP_len (R.take k)
          have hkl2 := List.length_take_le k R
          obtain ⟨gb, gc, c2, hgl, hgm, cb⟩ := (hP.ext hE1).bornAt hxk
          have hbn := bornTo_bd hP.good.wf (L ++ R.take k) (fun x hx => by rcases List.mem_append.1 hx with hx | hx; exact hLm x hx; exact hRm x (List.mem_of_mem_take hx))
          have hbx := Cgt.born_vl_le hP.good.wf R[k]
          have HB := Lib.hid (bornTo_snoc2 s.D L hlt)
          have hz := hE.size
          have HO := Lib.hid (fun (v : Value) (W : World) h => key_own1 (w := W) (B := w1.heap.size) (v := v) hlt (keyP L ++ [124]) h)
          have hn0 : ((keyP L ++ [124]) ++ keyP (R.take k)).length ≤ 900000000 := by simp; omega
          generalize hK : (keyP L ++ [124]) ++ keyP (R.take k) = K at hown hn0 HO
          clear hcl hcell hK
          go_wp2_with (first
            | (go_at_call 169; refine (AppendInt_36 R[k] (by omega) _ _ _ _ _ hown (by omega) (by omega)).mono ?_; rintro e w4 ⟨v4, rfl, ho4, hk4, hb4⟩; have hx4 := ext_keep hE hk4 (fun x hx => (hown.lt x hx).1); have hz4 := hk4.size; obtain ⟨a4, c4, rfl, hn4, hm4⟩ := own_len ho4)
            | (at_builtin; refine app_list rfl (.tmp 61) (.tmp 62) 38 rfl w1.heap.size 5 i0 (.int .u8 0) 1 1 Tryz.underlying38 hi0 hz0 hz1 hz2 rfl (by decide) (.slice a4 (K.length + (b36 R[k]).length) c4) _ _ rfl (ho4.alloc _) _ 1 _ [.int .u8 44] rfl rfl (.inr ⟨_, rfl, one_src (new_cell _ _ _)⟩) one_cell (by unfold maxLen; have := b36_len 4 R[k]; unfold b36; omega) (by have := b36_len 4 R[k]; unfold b36; omega) (by rw [World.size_alloc]; omega) ?_
               intro v5 w5 ho5 hg5 hl5
               have hx5 : Ext w1 w5 := ext_grown (ext_alloc hx4 _) hg5 (fun b hb => (ho4.lt b hb).1)
               have c2' := (hx5.cell (lt_of_cell c2)).trans c2
               have cb' := (hx5.cell (lt_of_cell cb)).trans cb))
          go_roundw
          case rel => exact ⟨k + 1, by omega, by go_num, by rw [HB.out], HO.out _ _ ho5, hx5⟩
          case measure => simp [intOf]; omega
        · have h1 : ¬ (((k : Nat) : Int) < ((R.length : Nat) : Int)) := by omega
          have hke : k = R.length := by omega
          subst hke
          simp only [List.take_length] at hown ⊢
          have hkey : (keyP L ++ [124]) ++ keyP R = keyN L R := by simp [keyN]
          rw [hkey] at hown
          obtain ⟨gk, ck, rfl, hgk, hcv⟩ := key_conv hown (by simp [keyN]; omega)
          have hEw := ext_trans hE1 hE
          have hPr := hP.ext hEw
          obtain ⟨f, hM, hf1, hf2⟩ := hPr.find
          have hkz : (keyN L R).length ≤ 900000000 := by have := keyP_len L; have := keyP_len R; simp [keyN]; omega
          obtain ⟨kl, hkl⟩ := keyOfS (bytesN (keyN L R)) (by unfold maxLen; simp only [bytesN, ByteArray.size, List.size_toArray, List.length_map]; omega)
          have hlk := fun (W : World) (hW : W.heap[h]? = wr.heap[h]?) => (hM.keep hW).look keyedS Tryz.underlying113 (zeroI W) hkl true
          have c3 := hPr.c3
          have HEL := Lib.hid hE
          clear hown hE
          cases hfk : f (.string (bytesN (keyN L R))) with
          | some v =>
            obtain ⟨i, hi, e1, rfl⟩ := hf2 _ _ hfk
            have HE := Lib.hid e1
            clear e1
            simp only [hfk, Option.getD_some, Option.isSome_some, if_true] at hlk
            go_upto_region 17 with fail
            refine wp_region_L (fun W => W.cell? ⟨pp, 3, none⟩ = some (.map (some h)) ∧ (convert 38 9 (.slice (some ⟨gk, 0, none⟩) (keyN L R).length ck)).run Tryz.prog W = .ok (.string (bytesN (keyN L R))) W ∧ (Instr.lookup 113 (.map (some h)) (.string (bytesN (keyN L R))) true).run Tryz.prog W = .ok (.tuple #[.int .i64 (i : Int), .bool true]) W) [11] rowsFind (by kernel_rfl) ⟨by kernel_rfl, by kernel_rfl, by kernel_rfl⟩ ⟨c3, hcv _ rfl, hlk _ rfl⟩ (fun hTab hHeld => ?_)
            ((refine tkB hTab (i := 0) hHeld ?_); (try simp only [nP]); (refine tkB hTab (i := 1) hHeld ?_); (try simp only [nP]); (refine tkB hTab (i := 2) hHeld ?_); (try simp only [nP]); (refine tkB hTab (i := 3) hHeld ?_); (try simp only [nP]); (refine tkB hTab (i := 4) hHeld ?_); (try simp only [nP]); (refine tkB hTab (i := 5) hHeld ?_); (try simp only [nP]); (refine tkB hTab (i := 6) hHeld ?_); (try simp only [nP]); (refine tkB hTab (i := 7) hHeld ?_); (try simp only [nP]); (refine tkB hTab (i := 8) hHeld ?_); (try simp only [nP]); (refine tkB hTab (i := 9) hHeld ?_); (try simp only [nP]); (refine tkB hTab (i := 10) hHeld ?_); (try simp only [nP]))
            refine tlB hTab [11] [_] ?_
            go_wp2_with fail
            go_ret
            refine ⟨s, i, rfl, PGo.refl hP (ext_trans hEw (rd_ext ⟨_, rfl⟩)), ⟨?_, .inl rfl⟩, rfl⟩
            have hw := hP.good.wf i s.D[i] (List.getElem?_eq_getElem hi)
            have e2 := keyV_inj (a := (L, R)) (b := s.D[i]) (fun x hx => by rcases List.mem_append.1 hx with hx | hx; have := hLm x hx; omega; have := hRm x hx; omega) (fun x hx => by rcases List.mem_append.1 hx with hx | hx; have := hw.1 x hx; omega; have := hw.2 x hx; omega) HE.out
            rw [List.getElem?_eq_getElem hi, ← e2, ← hL, ← hR]
          | none =>
            simp only [hfk, Option.getD_none, Option.isSome_none, if_true] at hlk
            go_upto_region 17 with fail
            refine wp_region_L (fun W => W.cell? ⟨pp, 3, none⟩ = some (.map (some h)) ∧ (convert 38 9 (.slice (some ⟨gk, 0, none⟩) (keyN L R).length ck)).run Tryz.prog W = .ok (.string (bytesN (keyN L R))) W ∧ (Instr.lookup 113 (.map (some h)) (.string (bytesN (keyN L R))) true).run Tryz.prog W = .ok (.tuple #[.int .i64 0, .bool false]) W) [11] rowsFind (by kernel_rfl) ⟨by kernel_rfl, by kernel_rfl, by kernel_rfl⟩ ⟨c3, hcv _ rfl, hlk _ rfl⟩ (fun hTab hHeld => ?_)
            ((refine tkB hTab (i := 0) hHeld ?_); (try simp only [nP]); (refine tkB hTab (i := 1) hHeld ?_); (try simp only [nP]); (refine tkB hTab (i := 2) hHeld ?_); (try simp only [nP]); (refine tkB hTab (i := 3) hHeld ?_); (try simp only [nP]); (refine tkB hTab (i := 4) hHeld ?_); (try simp only [nP]); (refine tkB hTab (i := 5) hHeld ?_); (try simp only [nP]); (refine tkB hTab (i := 6) hHeld ?_); (try simp only [nP]); (refine tkB hTab (i := 7) hHeld ?_); (try simp only [nP]); (refine tkB hTab (i := 8) hHeld ?_); (try simp only [nP]); (refine tkB hTab (i := 9) hHeld ?_); (try simp only [nP]); (refine tkB hTab (i := 10) hHeld ?_); (try simp only [nP]))
            refine tlB hTab [11] [_] ?_
            clear hTab hHeld hlk
            have hPd : PoolAt wr.drew pp h s := hPr.ext (rd_ext ⟨1, rfl⟩)
            obtain ⟨ab, cb, eb, hb1, hb2⟩ := own_len hPd.born
            obtain ⟨xl, hxl, hil⟩ := hPd.left
            obtain ⟨xr, hxr, hir⟩ := hPd.right
            obtain ⟨al, cl, el, hl1, hl2⟩ := own_len hxl
            obtain ⟨ar, cr, er, hr1, hr2⟩ := own_len hxr
            have c2 := hPd.c2
            rw [eb] at c2
            go_upto_region 21 with fail
            have hPd2 : PoolAt wr.drew.drew pp h s := hPd.ext (rd_ext ⟨1, rfl⟩)
            have c3' := hPd2.c3
            refine wp_region_L (fun W => W.cell? ⟨pp, 3, none⟩ = some (.map (some h)) ∧ (convert 38 9 (.slice (some ⟨gk, 0, none⟩) (keyN L R).length ck)).run Tryz.prog W = .ok (.string (bytesN (keyN L R))) W) [7] rowsKeep (by kernel_rfl) ⟨by kernel_rfl, by kernel_rfl, by kernel_rfl⟩ ⟨c3', hcv _ rfl⟩ (fun hTab hHeld => ?_)
            ((refine tkB hTab (i := 0) hHeld ?_); (try simp only [nP]); (refine tkB hTab (i := 1) hHeld ?_); (try simp only [nP]); (refine tkB hTab (i := 2) hHeld ?_); (try simp only [nP]); (refine tkB hTab (i := 3) hHeld ?_); (try simp only [nP]); (refine tkB hTab (i := 4) hHeld ?_); (try simp only [nP]); (refine tkB hTab (i := 5) hHeld ?_); (try simp only [nP]); (refine tkB hTab (i := 6) hHeld ?_); (try simp only [nP]))
            refine tlB hTab [7] [_] ?_
            clear hTab hHeld
            have hbox := hPd2.box
            rw [el, er, eb] at hbox
            have hlpp : (Value.slice al s.D.length cl).ownBlock ≠ some pp := fun e => (hP.ap2 pp (.inl (by rw [el]; exact e))).1 rfl
            have hrpp : (Value.slice ar s.D.length cr).ownBlock ≠ some pp := fun e => (hP.ap2 pp (.inr (.inl (by rw [er]; exact e)))).1 rfl
            have hbpp : (Value.slice ab s.D.length cb).ownBlock ≠ some pp := fun e => (hP.ap2 pp (.inr (.inr (by rw [eb]; exact e)))).1 rfl
            have hlr : ∀ b, (Value.slice ar s.D.length cr).ownBlock = some b → (Value.slice al s.D.length cl).ownBlock ≠ some b := fun b h1 h2 => (hP.ap3 b (by rw [el]; exact h2)).1 (by rw [er]; exact h1)
            have hlb : ∀ b, (Value.slice ab s.D.length cb).ownBlock = some b → (Value.slice al s.D.length cl).ownBlock ≠ some b := fun b h1 h2 => (hP.ap3 b (by rw [el]; exact h2)).2 (by rw [eb]; exact h1)
            have hrb : ∀ b, (Value.slice ab s.D.length cb).ownBlock = some b → (Value.slice ar s.D.length cr).ownBlock ≠ some b := fun b h1 h2 => hP.ap4 b (by rw [er]; exact h2) (by rw [eb]; exact h1)
            have hxl' : wr.drew.drew.ownsRow 0 80 1 (.slice al s.D.length cl) s.D.length xl := by rw [← el]; exact hxl
            have hxr' : wr.drew.drew.ownsRow 0 80 1 (.slice ar s.D.length cr) s.D.length xr := by rw [← er]; exact hxr
            have hxb' : wr.drew.drew.ownsRow 0 3 1 (.slice ab s.D.length cb) s.D.length ((s.D.mapIdx fun i _ => (Cgt.born (vl s.D i) : Int)).map (Value.int .i64)) := by rw [← eb]; exact hPd2.born
            have hM2 : MapIs Tryz.prog 9 wr.drew.drew h s.D.length f := hM.keep rfl
            have hfarm : ∀ b, (Value.slice al s.D.length cl).ownBlock = some b ∨ (Value.slice ar s.D.length cr).ownBlock = some b ∨ (Value.slice ab s.D.length cb).ownBlock = some b → b ≠ h := fun b hb => by
              have := (hP.ap2 b (by rw [el, er, eb]; exact hb)).2; omega
            have hpph : pp ≠ h := by have := hP.ap1; omega
            have FI := Lib.hid (And.intro hil hir)
            have FE := Lib.hid (And.intro el (And.intro er eb))
            have HFK := Lib.hid hfk
            clear hil hir hfk eb el er hPr hPd hM
            obtain ⟨iS, hiS, zS0, zS1, zS2⟩ := info_parts info_ints
            obtain ⟨iI, hiI, zI0, zI1, zI2⟩ := info_parts info_int
            go_wp2_with (first
              | (at_mapUpdate; refine store_list rfl _ _ _ 113 rfl 9 3 keyedS Tryz.underlying113 h s.D.length f rfl hM2 (by unfold maxLen; omega) _ _ rfl rfl ⟨kl, hkl⟩ ?_
                 intro w21 hM21 hg21
                 have hb21 : w21.heap[pp]? = _ := ((keep_grown hg21).block pp (blk_lt hbox) hpph).trans hbox
                 obtain ⟨p1, q1, r1⟩ := box_facts hb21
                 have d10 := q1 0 _ rfl
                 have e10 := r1 0
                 have hxl21 := own_keepG hxl' (keep_grown hg21) (fun b hb => hfarm b (.inl hb))
                 have hxr21 := own_keepG hxr' (keep_grown hg21) (fun b hb => hfarm b (.inr (.inl hb)))
                 have hxb21 := own_keepG hxb' (keep_grown hg21) (fun b hb => hfarm b (.inr (.inr hb)))
                 clear q1 r1)
              | (at_builtin; refine app_list rfl (.tmp 103) (.tmp 105) 137 rfl 0 80 iS (.slice none 0 0) 1 24 Tryz.underlying137 hiS zS0 zS1 zS2 rfl (by decide) (.slice al s.D.length cl) s.D.length xl rfl (hxl21.alloc _) _ 1 _ [.slice aL L.length cL] rfl rfl (.inr ⟨_, rfl, one_src (new_cell _ _ _)⟩) slice_cell (by unfold maxLen; omega) (by omega) (Nat.zero_le _) ?_
                 intro v2 w2 ho2 hg2 hl2
                 have hb2 := (field_app (j := 0) hb21 hlpp hg2 ho2 hl2).1
                 obtain ⟨p2, q2, r2⟩ := box_facts (box_mid hb21 hg2 hlpp)
                 have d20 := q2 0 _ rfl
                 have d21 := q2 1 _ rfl
                 have e20 := r2 0
                 have hxr2 := row_mid hxr21 hg2 hlr
                 have hxb2 := row_mid hxb21 hg2 hlb
                 obtain ⟨a2, k2, rfl, _, _⟩ := own_len ho2
                 clear q2 r2)
              | (at_builtin; refine app_list rfl (.tmp 113) (.tmp 115) 137 rfl 0 80 iS (.slice none 0 0) 1 24 Tryz.underlying137 hiS zS0 zS1 zS2 rfl (by decide) (.slice ar s.D.length cr) s.D.length xr rfl ((ownsRow_setCell_other hxr2 hrpp _).alloc _) _ 1 _ [.slice aR R.length cR] rfl rfl (.inr ⟨_, rfl, one_src (new_cell_set _ _ _ _ _)⟩) slice_cell (by unfold maxLen; omega) (by omega) (Nat.zero_le _) ?_
                 intro v3 w3 ho3 hg3 hl3
                 have hb3 := (field_app (j := 1) hb2 hrpp hg3 ho3 hl3).1
                 obtain ⟨p3, q3, r3⟩ := box_facts (box_mid hb2 hg3 hrpp)
                 have d31 := q3 1 _ rfl
                 have d32 := q3 2 _ rfl
                 have e31 := r3 1
                 have hxb3 := row_mid (ownsRow_setCell_other hxb2 (a := ⟨pp, 0, none⟩) hbpp _) hg3 hrb
                 obtain ⟨a3, k3, rfl, _, _⟩ := own_len ho3
                 clear q3 r3)
              | (at_builtin; refine app_list rfl (.tmp 123) (.tmp 125) 80 rfl 0 3 iI (.int .i64 0) 1 8 Tryz.underlying80 hiI zI0 zI1 zI2 rfl (by decide) (.slice ab s.D.length cb) s.D.length _ rfl ((ownsRow_setCell_other hxb3 hbpp _).alloc _) _ 1 _ [.int .i64 (bornTo s.D (L ++ R))] rfl rfl (.inr ⟨_, rfl, one_src (new_cell_set _ _ _ _ _)⟩) one_cell (by unfold maxLen; omega) (by omega) (Nat.zero_le _) ?_
                 intro v4 w4 ho4 hg4 hl4
                 obtain ⟨p4, q4, r4⟩ := box_facts (box_mid hb3 hg4 hbpp)
                 have d42 := q4 2 _ rfl
                 have e42 := r4 2
                 obtain ⟨a4, k4, rfl, _, _⟩ := own_len ho4
                 clear q4 r4))
            go_ret
            subst hL hR
            have hEd : Ext w wr.drew.drew := ext_trans hEw (rd_ext ⟨2, rfl⟩)
            have hEd1 : Ext w1 wr.drew.drew := ext_trans HEL.out (rd_ext ⟨2, rfl⟩)
            have hz1' := hEd1.size
            have e1 := FE.out.1
            have e2 := FE.out.2.1
            have e3 := FE.out.2.2
            exact node_end hP hEd hD hl hr (hLI.ext hEd1) (hRI.ext hEd1) (fun b hb => ⟨(FL.out b hb).1, Nat.lt_of_lt_of_le (FL.out b hb).2 hz1'⟩) (fun b hb => ⟨(FR.out b hb).1, Nat.lt_of_lt_of_le (FR.out b hb).2 hz1'⟩) hf1 hf2 HFK.out hM21 hg21
              (by rw [e1]; exact hxl') FI.out.1 (by rw [e2]; exact hxr') FI.out.2 (by rw [e1]; exact hg2) ho2 (by rw [e1]; exact hl2) (by rw [e2]; exact hg3) ho3 (by rw [e2]; exact hl3) (by rw [e3]; exact hg4) ho4 (by rw [e3]; exact hl4)

end Go.Proofs.YteknjeohbcgpdaaGreatDoor
