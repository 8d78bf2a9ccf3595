/-
  Contract of the program's newPool. (3 texts.)
-/
import Derived.Test.YteknjeohbcgpdaaGreatDoorY17
import Derived.WideMake
set_option maxRecDepth 100000
namespace Go.Proofs.YteknjeohbcgpdaaGreatDoor
section
open Go.RowKit

def dig36 (n : Nat) : Nat := if n < 10 then 48 + n else 87 + n
def b36f : Nat → Nat → List Nat
  | 0, _ => []
  | k + 1, n => if n < 36 then [dig36 n] else b36f k (n / 36) ++ [dig36 (n % 36)]
def b36 (n : Nat) : List Nat := b36f 4 n
theorem b36f_ne {k n : Nat} (h : n < 36) : b36f (k + 1) n = [dig36 n] := by rw [b36f, if_pos h]
theorem info_u8 : (Tryz.prog.info? 5).map (fun i => (i.zero, i.size, i.bytes)) = some (some (.int .u8 0), 1, 1) := by kernel_rfl

theorem digit36 {r : Nat} (h : r < 36) : (({ data := #[48, 49, 50, 51, 52, 53, 54, 55, 56, 57, 97, 98, 99, 100, 101, 102, 103, 104, 105, 106, 107, 108, 109, 110, 111, 112, 113, 114, 115, 116, 117, 118, 119, 120, 121, 122] } : ByteArray)[r]'h).toNat = dig36 r := by
  have key : ∀ r : Fin 36, (({ data := #[48, 49, 50, 51, 52, 53, 54, 55, 56, 57, 97, 98, 99, 100, 101, 102, 103, 104, 105, 106, 107, 108, 109, 110, 111, 112, 113, 114, 115, 116, 117, 118, 119, 120, 121, 122] } : ByteArray)[r.1]'r.2).toNat = dig36 r.1 := by decide
  exact key ⟨r, h⟩
def u8s (l : List Nat) : List Value := l.map fun (d : Nat) => .int .u8 (d : Int)

theorem set_digit {j : Nat} {ds : List Nat} (d : Nat) : (u8s (List.replicate (j + 1) 0 ++ ds)).set j (.int .u8 (d : Int)) = u8s (List.replicate j 0 ++ d :: ds) := by
  have e : List.replicate (j + 1) 0 ++ ds = List.replicate j 0 ++ 0 :: ds := by rw [List.replicate_succ', List.append_assoc]; rfl
  rw [e, u8s, List.map_append, List.set_append_right _ _ (by simp)]
  simp [u8s]
theorem u8s_one (l : List Nat) : ∀ u ∈ u8s l, u.oneCell' = true := by
  intro u hu; obtain ⟨x, _, rfl⟩ := List.mem_map.1 hu; rfl

set_option maxHeartbeats 2000000 in
theorem formatBits_36 (n : Nat) (hn : n < 1000000) (sv : Value) (m B : Nat) (xs : List Value) (w : World) (hown : w.ownsRow B 5 1 sv m xs) (hB : B ≤ w.heap.size) (hm : m ≤ 1000000000) :
    Calls Tryz.prog 261 #[sv, .int .u64 (n : Int), .int .i64 36, .bool false, .bool true] w fun e w' => ∃ v', e = .returned (.tuple #[v', .string ⟨#[]⟩]) ∧ w'.ownsRow B 5 1 v' (m + (b36 n).length) (xs ++ u8s (b36 n)) ∧ Keep (fun b => sv.ownBlock = some b) w w' ∧ (∀ b, v'.ownBlock = some b → sv.ownBlock = some b ∨ w.heap.size ≤ b) := by
  obtain ⟨i0, hi0, hz0, hz1, hz2⟩ := info_parts info_u8
  obtain ⟨a0, c0, rfl, hmc, _⟩ := own_len hown
  go_enter Tryz.func261, Tryz.ntmps261
  go_wp2
  have hz : (Tryz.zeroCells275).toList = u8s (List.replicate 65 0) := by kernel_rfl
  have hsz : (Tryz.zeroCells275).size = 65 := by kernel_rfl
  have ho0 : (w.alloc (.cells Tryz.zeroCells275 275)).ownsRow w.heap.size 275 1 (.slice (some ⟨w.heap.size, 0, none⟩) 65 65) 65 (u8s (List.replicate 65 0)) := by
    rw [← hz]; exact World.ownsRow_lit w _ _ (Nat.le_refl _) (by decide) (by rw [hsz])
  have hx0 : Ext w (w.alloc (.cells Tryz.zeroCells275 275)) := by go_grown
  generalize w.alloc (.cells Tryz.zeroCells275 275) = W0 at *
  clear hz hsz
  go_loopw [1, 13] (fun uu ii wr => ∃ i u ds, ii = .int .i64 ((i : Nat) : Int) ∧ uu = .int .u64 ((u : Nat) : Int) ∧ 62 ≤ i ∧ i ≤ 65 ∧ u < 36 ^ (i - 61) ∧ Ext w wr ∧ wr.ownsRow w.heap.size 275 1 (.slice (some ⟨w.heap.size, 0, none⟩) 65 65) 65 (u8s (List.replicate i 0 ++ ds)) ∧ Hid (ds.length = 65 - i) ∧ Hid (b36f (i - 61) u ++ ds = b36 n)) (fun _ ii _ => (intOf ii).toNat)
  case atStart => exact ⟨65, n, [], rfl, rfl, by omega, by omega, by omega, hx0, by simpa using ho0, rfl, by simp [Hid, b36]⟩
  case round =>
    clear ho0 hx0
    obtain ⟨i, u, ds, rfl, rfl, hi1, hi2, hu, hE, ho, HL, HB⟩ := hrel
    have hu6 : u < 1679616 := Nat.lt_of_lt_of_le hu (Nat.le_trans (Nat.pow_le_pow_right (by omega) (by omega : i - 61 ≤ 4)) (by decide))
    by_cases hlt : 36 ≤ u
    · have hi3 : 63 ≤ i := by
        by_cases c : i = 62
        · subst c; simp at hu; omega
        · omega
      have h1 : (36 : Int) ≤ (u : Int) := by omega
      obtain ⟨j, rfl⟩ : ∃ j, i = j + 1 := ⟨i - 1, by omega⟩
      have hj1 : ((j + 1 : Nat) : Int) - 1 = (j : Int) := by omega
      have hcl : (u8s (List.replicate (j + 1) 0 ++ ds)).length = 65 := by have := ho.1; simpa using this
      have cj := ho.cellAt j (by omega)
      rw [List.getElem?_eq_getElem (by omega)] at cj
      have fj := ho.frozenAt j
      go_wp2
      go_roundw
      case rel =>
        (repeat apply Exists.intro)
        refine ⟨?_, rfl⟩
        refine ⟨j, u / 36, dig36 (u % 36) :: ds, rfl, ?_, by omega, by omega, ?_, ?_, ?_, ?_, ?_⟩
        · rw [show ((u / 36 : Nat) : Int) = (u : Int) / 36 by omega]
        · have e : j + 1 - 61 = (j - 61) + 1 := by omega
          rw [e, Nat.pow_succ] at hu
          exact Nat.div_lt_of_lt_mul (by rw [Nat.mul_comm]; exact hu)
        · exact hE.setCell (p := ⟨w.heap.size, j, none⟩) (Nat.le_refl _) _
        · rw [digit36 (show u - u / 36 * 36 < 36 by omega), show u - u / 36 * 36 = u % 36 by omega, ← set_digit]
          exact (ho.stored j _).1
        · have := HL.out
          show (dig36 (u % 36) :: ds).length = 65 - j
          rw [List.length_cons]; omega
        · have h := HB.out
          have e : j + 1 - 61 = (j - 61) + 1 := by omega
          rw [e, b36f, if_neg (by omega)] at h
          show b36f (j - 61) (u / 36) ++ dig36 (u % 36) :: ds = b36 n
          rw [← h, List.append_assoc]; rfl
      case measure => simp [intOf]
    · have h1 : ¬ ((36 : Int) ≤ (u : Int)) := by omega
      obtain ⟨j, rfl⟩ : ∃ j, i = j + 1 := ⟨i - 1, by omega⟩
      have hj1 : ((j + 1 : Nat) : Int) - 1 = (j : Int) := by omega
      have hcl : (u8s (List.replicate (j + 1) 0 ++ ds)).length = 65 := by have := ho.1; simpa using this
      have cj := ho.cellAt j (by omega)
      rw [List.getElem?_eq_getElem (by omega)] at cj
      have fj := ho.frozenAt j
      have harr : Tryz.prog.arrayLen 275 = 65 := by kernel_rfl
      have hsl := fun W : World => run_sliceAt_array_l (P := Tryz.prog) W 275 ⟨w.heap.size, 0, none⟩ Tryz.underlying275 .i64 (j : Int) (by omega) (by rw [harr]; omega)
      have hsz := fun W : World => (by kernel_rfl : (sizeOf (Tryz.prog.elem 275)).run Tryz.prog W = .ok 1 W)
      simp only [hsz, Result.andThen_ok, slicedAt, harr, Int.toNat_natCast] at hsl
      rw [if_neg (by omega), show (⟨w.heap.size, 0, none⟩ : Addr).add (j * 1) = ⟨w.heap.size, j, none⟩ by simp [Addr.add]; omega] at hsl
      have hu36 : u < 36 := by omega
      have hd := digit36 hu36
      have HL2 : Hid (u8s (dig36 u :: ds) = ((u8s (List.replicate j 0 ++ dig36 u :: ds)).drop j).take (65 - j)) := by
        have hl := HL.out
        unfold Hid u8s
        rw [List.map_append, List.drop_append_of_le_length (by simp), List.drop_of_length_le (by simp), List.nil_append, List.take_of_length_le (by simp; omega)]
      have hb : b36 n = dig36 u :: ds := by
        have h := HB.out
        obtain ⟨k, hk⟩ : ∃ k, j + 1 - 61 = k + 1 := ⟨j - 61, by omega⟩
        rw [hk, b36f_ne hu36] at h; exact h.symm
      have HBN := Lib.hid hb
      have ho2 : (wr.setCell ⟨w.heap.size, j, none⟩ (.int .u8 (((({ data := #[48, 49, 50, 51, 52, 53, 54, 55, 56, 57, 97, 98, 99, 100, 101, 102, 103, 104, 105, 106, 107, 108, 109, 110, 111, 112, 113, 114, 115, 116, 117, 118, 119, 120, 121, 122] } : ByteArray)[u]'hu36).toNat : Nat) : Int))).ownsRow w.heap.size 275 1 (.slice (some ⟨w.heap.size, 0, none⟩) 65 65) 65 (u8s (List.replicate j 0 ++ dig36 u :: ds)) := by
        rw [hd, ← set_digit]; exact (ho.stored j (.int .u8 ((dig36 u : Nat) : Int))).1
      have hE2 : Ext w (wr.setCell ⟨w.heap.size, j, none⟩ (.int .u8 (((({ data := #[48, 49, 50, 51, 52, 53, 54, 55, 56, 57, 97, 98, 99, 100, 101, 102, 103, 104, 105, 106, 107, 108, 109, 110, 111, 112, 113, 114, 115, 116, 117, 118, 119, 120, 121, 122] } : ByteArray)[u]'hu36).toNat : Nat) : Int))) := hE.setCell (p := ⟨w.heap.size, j, none⟩) (Nat.le_refl _) _
      have HHD := Lib.hid hd
      clear hb hd
      go_upto_region 29 with fail
      generalize wr.setCell ⟨w.heap.size, j, none⟩ (.int .u8 (((({ data := #[48, 49, 50, 51, 52, 53, 54, 55, 56, 57, 97, 98, 99, 100, 101, 102, 103, 104, 105, 106, 107, 108, 109, 110, 111, 112, 113, 114, 115, 116, 117, 118, 119, 120, 121, 122] } : ByteArray)[u]'hu36).toNat : Nat) : Int)) = W2 at *
      have hown2 := own_keep hown hE2
      have hz2' := hE2.size
      have hsrc := row_src ho2 (Below.refl _ _) j (65 - j) (by omega)
      rw [← HL2.out] at hsrc
      have hln : (u8s (dig36 u :: ds)).length = 65 - j := by have := HL.out; simp [u8s]; omega
      have HLN := Lib.hid hln
      clear hln cj fj hE ho
      go_wp2_with (at_builtin; refine app_list rfl (.tmp 95) (.tmp 97) 38 rfl B 5 i0 (.int .u8 0) 1 1 Tryz.underlying38 hi0 hz0 hz1 hz2 rfl (by decide) (.slice a0 m c0) m xs rfl hown2 (some ⟨w.heap.size, j, none⟩) (65 - j) (65 - j) (u8s (dig36 u :: ds)) rfl (by rw [HLN.out, Nat.mul_one]) (.inr ⟨_, rfl, hsrc⟩) (u8s_one _) (by unfold maxLen; omega) (by omega) (by omega) ?_; intro v5 w5 ho5 hg5 hl5)
      go_ret2
      refine ⟨v5, rfl, ?_, ⟨hg5.os.trans hE2.os, hg5.tape.trans hE2.tape, hg5.output.trans hE2.output, by have := hg5.size; omega, fun k hk hn => by rw [hg5.block k (by omega) (fun e => hn e.symm)]; exact hE2.block k hk⟩, fun b hb => by
        rcases hl5 with h | ⟨g, h, h2⟩
        · exact .inl (by rw [← h]; exact hb)
        · rw [h] at hb; injection hb with hb; exact .inr (by omega)⟩
      rw [HBN.out]
      have : (dig36 u :: ds).length = 65 - j := by have := HLN.out; simpa [u8s] using this
      rw [this]; exact ho5

def AppPost (n : Nat) (sv : Value) (m B : Nat) (xs : List Value) (w : World) (e : Ending) (w' : World) : Prop :=
  ∃ v', e = .returned v' ∧ w'.ownsRow B 5 1 v' (m + (b36 n).length) (xs ++ u8s (b36 n)) ∧ Keep (fun b => sv.ownBlock = some b) w w' ∧ (∀ b, v'.ownBlock = some b → sv.ownBlock = some b ∨ w.heap.size ≤ b)

theorem AppendInt_36 (n : Nat) (hn : n < 1000000) (sv : Value) (m B : Nat) (xs : List Value) (w : World) (hown : w.ownsRow B 5 1 sv m xs) (hB : B ≤ w.heap.size) (hm : m ≤ 1000000000) :
    Calls Tryz.prog 169 #[sv, .int .i64 (n : Int), .int .i64 36] w (AppPost n sv m B xs w) := by
  obtain ⟨a0, c0, rfl, hmc, _⟩ := own_len hown
  have h1 : Calls Tryz.prog 237 #[.slice a0 m c0, .int .u64 (n : Int), .int .i64 36] w (AppPost n (.slice a0 m c0) m B xs w) := by
    go_enter Tryz.func237, Tryz.ntmps237
    go_wp2_with (go_at_call 261; refine (formatBits_36 n hn _ m B xs _ hown hB hm).mono ?_; rintro e w1 ⟨v', rfl, h1, h2, h3⟩)
    go_ret
    exact ⟨v', rfl, h1, h2, h3⟩
  have h2 : Calls Tryz.prog 205 #[.slice a0 m c0, .int .i64 (n : Int), .int .i64 36] w (AppPost n (.slice a0 m c0) m B xs w) := by
    go_enter Tryz.func205, Tryz.ntmps205
    go_wp2_with (go_at_call 237; refine h1.mono ?_; rintro e w1 ⟨v', rfl, h1, h2, h3⟩)
    go_ret
    exact ⟨v', rfl, h1, h2, h3⟩
  go_enter Tryz.func169, Tryz.ntmps169
  go_wp2_with (go_at_call 205; refine h2.mono ?_; rintro e w1 ⟨v', rfl, h1, h2, h3⟩)
  go_ret
  exact ⟨v', rfl, h1, h2, h3⟩
end
section
def und (x : Nat) : Nat := if x < 58 then x - 48 else x - 87
theorem und_dig {d : Nat} (h : d < 36) : und (dig36 d) = d := by unfold und dig36; split <;> split <;> omega
theorem dig_range {d : Nat} (h : d < 36) : 48 ≤ dig36 d ∧ dig36 d ≤ 122 := by unfold dig36; split <;> omega
theorem b36f_range : ∀ k n x, x ∈ b36f k n → 48 ≤ x ∧ x ≤ 122
  | 0, n, x, h => by simp [b36f] at h
  | k + 1, n, x, h => by
    rw [b36f] at h
    split at h
    · rename_i hn
      simp at h; subst h; exact dig_range hn
    · rcases List.mem_append.1 h with h | h
      · exact b36f_range k _ x h
      · simp at h; subst h; exact dig_range (Nat.mod_lt _ (by omega))
def dec36 (l : List Nat) : Nat := l.foldl (fun a x => a * 36 + und x) 0
theorem dec_b36f : ∀ k n, n < 36 ^ k → dec36 (b36f k n) = n
  | 0, n, h => by simp at h; subst h; rfl
  | k + 1, n, h => by
    rw [b36f]
    split
    · rename_i hn
      simp [dec36, und_dig hn]
    · have ih := dec_b36f k (n / 36) (by rw [Nat.div_lt_iff_lt_mul (by omega)]; rw [Nat.pow_succ] at h; exact h)
      unfold dec36 at ih ⊢
      rw [List.foldl_append, ih]
      simp only [List.foldl_cons, List.foldl_nil, und_dig (Nat.mod_lt n (show 36 > 0 by omega))]
      omega
theorem b36_inj {n m : Nat} (hn : n < 1000000) (hm : m < 1000000) (h : b36 n = b36 m) : n = m := by
  have e1 := dec_b36f 4 n (by omega)
  have e2 := dec_b36f 4 m (by omega)
  unfold b36 at h
  rw [← e1, ← e2, h]

def keyP (l : List Nat) : List Nat := l.flatMap fun i => b36 i ++ [44]

def keyN (l r : List Nat) : List Nat := keyP l ++ 124 :: keyP r
theorem keyP_snoc (l : List Nat) (i : Nat) : keyP (l ++ [i]) = keyP l ++ (b36 i ++ [44]) := by simp [keyP]
theorem cut_eq {c : Nat} : ∀ {a b x y : List Nat}, c ∉ a → c ∉ b → a ++ c :: x = b ++ c :: y → a = b ∧ x = y
  | [], [], x, y, _, _, h => by simpa using h
  | [], d :: b, x, y, _, hb, h => by simp at h; exact absurd h.1 (fun e => hb (by simp [e]))
  | d :: a, [], x, y, ha, _, h => by simp at h; exact absurd h.1.symm (fun e => ha (by simp [e]))
  | d :: a, e :: b, x, y, ha, hb, h => by
    simp only [List.cons_append, List.cons.injEq] at h
    obtain ⟨rfl, h⟩ := h
    obtain ⟨rfl, h2⟩ := cut_eq (fun k => ha (List.mem_cons_of_mem _ k)) (fun k => hb (List.mem_cons_of_mem _ k)) h
    exact ⟨rfl, h2⟩
def Stop (t : List Nat) : Prop := ∀ x, t.head? = some x → x = 124
theorem b36_head (i : Nat) (x : List Nat) : ¬ Stop (b36 i ++ [44] ++ x) := fun h => by
  cases hb : b36 i with
  | nil => rw [hb] at h; have := h 44 (by simp); omega
  | cons a b =>
    rw [hb] at h
    have := h a (by simp)
    have h2 := b36f_range 4 i a (by show a ∈ b36 i; rw [hb]; simp)
    omega
theorem no44 (i : Nat) : 44 ∉ b36 i := fun h => by have := b36f_range 4 i 44 h; omega
theorem keyP_inj : ∀ {l m t u : List Nat}, (∀ i, i ∈ l → i < 1000000) → (∀ i, i ∈ m → i < 1000000) → Stop t → Stop u → keyP l ++ t = keyP m ++ u → l = m ∧ t = u
  | [], [], t, u, _, _, _, _, h => by simpa [keyP] using h
  | [], j :: m, t, u, _, _, ht, _, h => by
    simp only [keyP, List.flatMap_nil, List.nil_append, List.flatMap_cons] at h
    rw [h, List.append_assoc] at ht
    exact absurd ht (b36_head j _)
  | i :: l, [], t, u, _, _, _, hu, h => by
    simp only [keyP, List.flatMap_nil, List.nil_append, List.flatMap_cons] at h
    rw [← h, List.append_assoc] at hu
    exact absurd hu (b36_head i _)
  | i :: l, j :: m, t, u, hl, hm, ht, hu, h => by
    have e : b36 i ++ 44 :: (keyP l ++ t) = b36 j ++ 44 :: (keyP m ++ u) := by simpa [keyP] using h
    obtain ⟨e1, e2⟩ := cut_eq (no44 i) (no44 j) e
    have := b36_inj (hl i (by simp)) (hm j (by simp)) e1
    obtain ⟨e3, e4⟩ := keyP_inj (fun x hx => hl x (by simp [hx])) (fun x hx => hm x (by simp [hx])) ht hu e2
    exact ⟨by rw [this, e3], e4⟩

theorem keyN_inj {l r m s : List Nat} (h1 : ∀ i, i ∈ l → i < 1000000) (h2 : ∀ i, i ∈ r → i < 1000000) (h3 : ∀ i, i ∈ m → i < 1000000) (h4 : ∀ i, i ∈ s → i < 1000000) (h : keyN l r = keyN m s) : l = m ∧ r = s := by
  have hs : ∀ x : List Nat, Stop (124 :: x) := fun x y hy => by simpa using hy.symm
  obtain ⟨e1, e2⟩ := keyP_inj h1 h3 (hs _) (hs _) h
  simp only [List.cons.injEq, true_and] at e2
  have hn : Stop [] := fun x hx => by simp at hx
  exact ⟨e1, (keyP_inj h2 h4 hn hn (by simpa using e2)).1⟩
theorem keyN_range {l r : List Nat} {x : Nat} (h : x ∈ keyN l r) : x < 128 := by
  have hp : ∀ l : List Nat, x ∈ keyP l → x < 128 := fun l h => by
    obtain ⟨i, _, hi⟩ := List.mem_flatMap.1 h
    rcases List.mem_append.1 hi with h | h
    · have := b36f_range 4 i x h; omega
    · simp at h; omega
  rcases List.mem_append.1 h with h | h
  · exact hp l h
  · rcases List.mem_cons.1 h with h | h
    · omega
    · exact hp r h
end
section
open Go.RowKit

theorem alloc_at {w : World} {X : Obj} {k : Nat} (h : k = w.heap.size) : (w.alloc X).heap[k]? = some X := by subst h; exact heap_alloc_new w X

def NewPost (w : World) (e : Ending) (w' : World) : Prop :=
  ∃ h, h = w.heap.size ∧ e = .returned (.pointer (some ⟨h + 1 + 1 + 1 + 1 + 1, 0, none⟩)) ∧
    w'.heap[h + 1 + 1 + 1 + 1 + 1]? = some (.cells #[.slice none 0 0, .slice none 0 0, .slice none 0 0, .map (some h), .map (some (h + 1)), .map (some (h + 1 + 1)), .map (some (h + 1 + 1 + 1)), .map (some (h + 1 + 1 + 1 + 1))] 139 (0, 0)) ∧
    (∀ m, h ≤ m → m < h + 1 + 1 + 1 + 1 + 1 → w'.heap[m]? = some (.map #[] 0)) ∧ w'.heap.size = h + 6 ∧ Ext w w'

set_option maxHeartbeats 2000000 in
theorem newPool_any (w : World) : Calls Tryz.prog 68 #[] w (NewPost w) := by
  have hm1 := fun w : World => run_makeMap_plain (P := Tryz.prog) (w := w) 113
  have hm2 := fun w : World => run_makeMap_plain (P := Tryz.prog) (w := w) 134
  have hm3 := fun w : World => run_makeMap_plain (P := Tryz.prog) (w := w) 135
  have hm4 := fun w : World => run_makeMap_plain (P := Tryz.prog) (w := w) 136
  go_enter Tryz.func68, Tryz.ntmps68
  go_wp2
  go_ret
  refine ⟨w.heap.size, rfl, rfl, alloc_at (by simp only [World.size_alloc]), fun m h1 h2 => ?_, by simp only [World.size_alloc], by go_grown⟩
  have : m = w.heap.size ∨ m = w.heap.size + 1 ∨ m = w.heap.size + 1 + 1 ∨ m = w.heap.size + 1 + 1 + 1 ∨ m = w.heap.size + 1 + 1 + 1 + 1 := by omega
  rw [Below.heap_alloc _ _ _ (by simp only [World.size_alloc]; omega)]
  rcases this with rfl | rfl | rfl | rfl | rfl
  · rw [Below.heap_alloc _ _ _ (by simp only [World.size_alloc]; omega), Below.heap_alloc _ _ _ (by simp only [World.size_alloc]; omega), Below.heap_alloc _ _ _ (by simp only [World.size_alloc]; omega), Below.heap_alloc _ _ _ (by simp only [World.size_alloc]; omega)]
    exact alloc_at rfl
  · rw [Below.heap_alloc _ _ _ (by simp only [World.size_alloc]; omega), Below.heap_alloc _ _ _ (by simp only [World.size_alloc]; omega), Below.heap_alloc _ _ _ (by simp only [World.size_alloc]; omega)]
    exact alloc_at (by simp only [World.size_alloc])
  · rw [Below.heap_alloc _ _ _ (by simp only [World.size_alloc]; omega), Below.heap_alloc _ _ _ (by simp only [World.size_alloc]; omega)]
    exact alloc_at (by simp only [World.size_alloc])
  · rw [Below.heap_alloc _ _ _ (by simp only [World.size_alloc]; omega)]
    exact alloc_at (by simp only [World.size_alloc])
  · exact alloc_at (by simp only [World.size_alloc])
end
end Go.Proofs.YteknjeohbcgpdaaGreatDoor
