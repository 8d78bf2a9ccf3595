/-
  Plain: trees, their cuts, their games, their texts; no condition.
  Contract of the reference's l1Num at small numbers.
-/
import Derived.Test.YtjkdanmpihildaaGreatDoorQ3
import Derived.Test.YtjkdanmpihildaaGreatDoorQ4
import Derived.WalkSpells
namespace Go.Proofs.YtjkdanmpihildaaGreatDoor
open Go.RowKit
open Cgt (Dag Nd vl Same Gm Canon Eqv)

def cutAt (us : List Int) (s : List UInt8) (e : Nat) : Nat → List Int × List Int × List UInt8
  | 0 => ([], [], [])
  | k + 1 =>
    if k = e ∨ (0 ≤ zat us k ∧ zat (cutAt us s e k).1 (zat us k).toNat = -2) then ((cutAt us s e k).1 ++ [-2], (cutAt us s e k).2.1, (cutAt us s e k).2.2)
    else ((cutAt us s e k).1 ++ [((cutAt us s e k).2.1.length : Int)], (cutAt us s e k).2.1 ++ [if 0 ≤ zat us k then zat (cutAt us s e k).1 (zat us k).toNat else -1], (cutAt us s e k).2.2 ++ [s.getD k 0])
def cutU (us : List Int) (s : List UInt8) (e : Nat) : List Int := (cutAt us s e us.length).2.1
def cutS (us : List Int) (s : List UInt8) (e : Nat) : List UInt8 := (cutAt us s e us.length).2.2

structure GT (us : List Int) (s : List UInt8) : Prop where
  len : us.length = s.length
  small : us.length ≤ 8
  sign : ∀ c, c ∈ s → c = 76 ∨ c = 82
  up : ∀ i, i < us.length → -1 ≤ zat us i ∧ zat us i < (i : Int)

theorem zat_app_lt {l m : List Int} {i : Nat} (h : i < l.length) : zat (l ++ m) i = zat l i := by simp [zat, List.getElem?_append_left h]
theorem zat_app_eq {l : List Int} {x : Int} : zat (l ++ [x]) l.length = x := by simp [zat]

structure CutInv (us : List Int) (s : List UInt8) (e k : Nat) (at_ ou : List Int) (os : List UInt8) : Prop where
  len : at_.length = k
  same : ou.length = os.length
  le : ou.length ≤ k
  lt : e < k → ou.length < k
  pl : ∀ j, j < k → zat at_ j = -2 ∨ (0 ≤ zat at_ j ∧ zat at_ j < (ou.length : Int))
  sign : ∀ c, c ∈ os → c = 76 ∨ c = 82
  up : ∀ i, i < ou.length → -1 ≤ zat ou i ∧ zat ou i < (i : Int)

theorem cut_inv {us : List Int} {s : List UInt8} (h : GT us s) (e : Nat) : ∀ k, k ≤ us.length → CutInv us s e k (cutAt us s e k).1 (cutAt us s e k).2.1 (cutAt us s e k).2.2 := by
  intro k
  induction k with
  | zero => intro _; exact ⟨rfl, rfl, Nat.le_refl _, fun h => absurd h (by omega), fun j h => absurd h (by omega), by simp [cutAt], by simp [cutAt]⟩
  | succ k ih =>
    intro hk
    have I := ih (by omega)
    rw [cutAt]
    generalize (cutAt us s e k).1 = at_ at *
    generalize (cutAt us s e k).2.1 = ou at *
    generalize (cutAt us s e k).2.2 = os at *
    have hl := I.len
    by_cases hc : k = e ∨ (0 ≤ zat us k ∧ zat at_ (zat us k).toNat = -2)
    · rw [if_pos hc]
      refine ⟨by simp [hl], I.same, by have := I.le; dsimp only; omega, fun _ => by have := I.le; dsimp only; omega, fun j hj => ?_, I.sign, I.up⟩
      by_cases hjk : j < k
      · dsimp only; rw [zat_app_lt (by omega)]; exact I.pl j hjk
      · have : j = at_.length := by omega
        subst this; dsimp only; rw [zat_app_eq]; exact .inl rfl
    · rw [if_neg hc]
      have hu := h.up k (by omega)
      have hnew : -1 ≤ (if 0 ≤ zat us k then zat at_ (zat us k).toNat else -1) ∧ (if 0 ≤ zat us k then zat at_ (zat us k).toNat else -1) < (ou.length : Int) := by
        split
        · rename_i h0
          rcases I.pl (zat us k).toNat (by omega) with p | p
          · exact absurd (.inr ⟨h0, p⟩) hc
          · omega
        · omega
      refine ⟨by simp [hl], by simp [I.same], by have := I.le; simp; omega, fun he => by have := I.lt (by omega); simp; omega, fun j hj => ?_, ?_, fun i hi => ?_⟩
      · by_cases hjk : j < k
        · dsimp only; rw [zat_app_lt (by omega)]
          rcases I.pl j hjk with p | p
          · exact .inl p
          · exact .inr ⟨p.1, by simp; omega⟩
        · have : j = at_.length := by omega
          subst this; dsimp only; rw [zat_app_eq]; exact .inr ⟨by omega, by simp; omega⟩
      · intro c hcm
        rcases List.mem_append.1 hcm with p | p
        · exact I.sign c p
        · simp only [List.mem_singleton] at p
          subst p
          refine h.sign _ ?_
          rw [List.getD_eq_getElem?_getD, List.getElem?_eq_getElem (by have := h.len; omega), Option.getD_some]
          exact List.getElem_mem _
      · dsimp only at hi ⊢
        by_cases hio : i < ou.length
        · rw [zat_app_lt hio]; exact I.up i hio
        · have : i = ou.length := by simp at hi; omega
          subst this; rw [zat_app_eq]; exact hnew

theorem cut_good {us : List Int} {s : List UInt8} (h : GT us s) {e : Nat} (he : e < us.length) : GT (cutU us s e) (cutS us s e) ∧ (cutU us s e).length < us.length := by
  have I := cut_inv h e us.length (Nat.le_refl _)
  exact ⟨⟨I.same, by have := I.le; have := h.small; unfold cutU; omega, I.sign, I.up⟩, I.lt he⟩

def edges (s : List UInt8) (left : Bool) (k : Nat) : List Nat := (List.range k).filter fun i => (s.getD i 0 == 76) == left
theorem edges_succ (s : List UInt8) (left : Bool) (k : Nat) : edges s left (k + 1) = if ((s.getD k 0 == 76) == left) = true then edges s left k ++ [k] else edges s left k := by
  simp only [edges, List.range_succ, List.filter_append]
  split <;> simp_all
theorem edges_lt {s : List UInt8} {left : Bool} {k e : Nat} (h : e ∈ edges s left k) : e < k := by
  simp [edges] at h; exact h.1
theorem edges_len (s : List UInt8) (k : Nat) : (edges s true k).length + (edges s false k).length = k := by
  induction k with
  | zero => rfl
  | succ k ih =>
    rw [edges_succ, edges_succ]
    cases hc : (s.getD k 0 == 76) <;> simp <;> omega

def tgF : Nat → List Int → List UInt8 → Gm
  | 0, _, _ => .mk [] []
  | n + 1, us, s => .mk ((edges s true us.length).map fun e => tgF n (cutU us s e) (cutS us s e)) ((edges s false us.length).map fun e => tgF n (cutU us s e) (cutS us s e))
def tg (us : List Int) (s : List UInt8) : Gm := tgF us.length us s
theorem tgF_enough : ∀ n m {us : List Int} {s : List UInt8}, GT us s → us.length ≤ n → us.length ≤ m → tgF n us s = tgF m us s := by
  intro n
  induction n with
  | zero =>
    intro m us s h hn hm
    cases m with
    | zero => rfl
    | succ m => have : us.length = 0 := by omega
                simp [tgF, edges, this]
  | succ n ih =>
    intro m us s h hn hm
    cases m with
    | zero => have : us.length = 0 := by omega
              simp [tgF, edges, this]
    | succ m =>
      rw [tgF, tgF]
      congr 1
      all_goals
        apply List.map_congr_left
        intro e he
        obtain ⟨g, l⟩ := cut_good h (edges_lt he)
        exact ih m g (by omega) (by omega)
theorem tg_eq {us : List Int} {s : List UInt8} (h : GT us s) : tg us s = .mk ((edges s true us.length).map fun e => tg (cutU us s e) (cutS us s e)) ((edges s false us.length).map fun e => tg (cutU us s e) (cutS us s e)) := by
  rw [tg, tgF_enough us.length (us.length + 1) h (Nat.le_refl _) (by omega), tgF]
  congr 1
  all_goals
    apply List.map_congr_left
    intro e he
    obtain ⟨g, l⟩ := cut_good h (edges_lt he)
    exact tgF_enough _ _ g (by omega) (by omega)

def kN : Nat → Nat
  | 0 => 1
  | n + 1 => 1 + (n + 1) * kN n
theorem kN_mono : ∀ {n m : Nat}, n ≤ m → kN n ≤ kN m := by
  have step : ∀ n, kN n ≤ kN (n + 1) := fun n => by
    rw [kN]; have : 1 * kN n ≤ (n + 1) * kN n := Nat.mul_le_mul_right _ (by omega); omega
  intro n m h
  induction m with
  | zero => have : n = 0 := by omega
            subst this; exact Nat.le_refl _
  | succ m ih =>
    by_cases e : n = m + 1
    · subst e; exact Nat.le_refl _
    · exact Nat.le_trans (ih (by omega)) (step m)
theorem kN_8 {n : Nat} (h : n ≤ 8) : kN n ≤ 109601 := Nat.le_trans (kN_mono h) (by decide)
theorem kN_pos (n : Nat) : 1 ≤ kN n := Nat.le_trans (by decide) (kN_mono (Nat.zero_le n))

theorem kN_room {a n : Nat} (h : a + 1 ≤ n) : a * kN (n - 1) + kN (n - 1) + 1 ≤ kN n := by
  obtain ⟨m, rfl⟩ : ∃ m, n = m + 1 := ⟨n - 1, by omega⟩
  rw [Nat.add_sub_cancel, kN, ← Nat.succ_mul]
  have : (a + 1) * kN m ≤ (m + 1) * kN m := Nat.mul_le_mul_right _ h
  rw [Nat.succ_eq_add_one]; omega

def numS (n : Int) : List UInt8 := if n < 0 then [45, 49] else [UInt8.ofNat (48 + n.toNat)]

def txt (c : UInt8) : List Int → List UInt8
  | [] => []
  | u :: us => (c :: numS u) ++ txt c us
theorem txt_snoc (c : UInt8) (us : List Int) (u : Int) : txt c (us ++ [u]) = txt c us ++ (c :: numS u) := by
  induction us with
  | nil => simp [txt]
  | cons a us ih => simp only [List.cons_append, txt, ih, List.append_assoc]
theorem numS_inj {u v : Int} (hu : -1 ≤ u ∧ u < 10) (hv : -1 ≤ v ∧ v < 10) {a b : List UInt8} (h : numS u ++ a = numS v ++ b) : u = v ∧ a = b := by
  have hx : ∀ x : Int, -1 ≤ x ∧ x < 10 → x = -1 ∨ x = 0 ∨ x = 1 ∨ x = 2 ∨ x = 3 ∨ x = 4 ∨ x = 5 ∨ x = 6 ∨ x = 7 ∨ x = 8 ∨ x = 9 := by intro x hx; omega
  rcases hx u hu with rfl | rfl | rfl | rfl | rfl | rfl | rfl | rfl | rfl | rfl | rfl <;> rcases hx v hv with rfl | rfl | rfl | rfl | rfl | rfl | rfl | rfl | rfl | rfl | rfl <;> simp_all [numS]
theorem txt_inj {c : UInt8} : ∀ {us vs : List Int}, (∀ u, u ∈ us → -1 ≤ u ∧ u < 10) → (∀ u, u ∈ vs → -1 ≤ u ∧ u < 10) → txt c us = txt c vs → us = vs := by
  intro us
  induction us with
  | nil => intro vs _ _ h; cases vs with
    | nil => rfl
    | cons v vs => simp [txt] at h
  | cons u us ih =>
    intro vs hu hv h
    cases vs with
    | nil => simp [txt] at h
    | cons v vs =>
      simp only [txt, List.cons_append, List.cons.injEq, true_and] at h
      obtain ⟨e, h2⟩ := numS_inj (hu u (by simp)) (hv v (by simp)) h
      rw [e, ih (fun x hx => hu x (by simp [hx])) (fun x hx => hv x (by simp [hx])) h2]

theorem text_inj {c : UInt8} (hc : c ≠ 76 ∧ c ≠ 82) {us vs : List Int} {s t : List UInt8} (g : GT us s) (k : GT vs t) (h : s ++ txt c us = t ++ txt c vs) : us = vs ∧ s = t := by
  have key : ∀ {s t a b : List UInt8}, (∀ x, x ∈ s → x ≠ c) → (∀ x, x ∈ t → x ≠ c) → (a = [] ∨ ∃ r, a = c :: r) → (b = [] ∨ ∃ r, b = c :: r) → s ++ a = t ++ b → s = t ∧ a = b := by
    intro s
    induction s with
    | nil =>
      intro t a b _ ht ha hb h
      cases t with
      | nil => exact ⟨rfl, h⟩
      | cons x t =>
        simp at h
        rcases ha with rfl | ⟨r, rfl⟩
        · simp at h
        · simp at h; exact absurd h.1.symm (ht x (by simp))
    | cons y s ih =>
      intro t a b hs ht ha hb h
      cases t with
      | nil =>
        simp at h
        rcases hb with rfl | ⟨r, rfl⟩
        · simp at h
        · simp at h; exact absurd h.1 (hs y (by simp))
      | cons x t =>
        simp only [List.cons_append, List.cons.injEq] at h
        obtain ⟨e1, e2⟩ := ih (fun z hz => hs z (by simp [hz])) (fun z hz => ht z (by simp [hz])) ha hb h.2
        exact ⟨by rw [h.1, e1], e2⟩
  have ht : ∀ us : List Int, txt c us = [] ∨ ∃ r, txt c us = c :: r := fun us => by cases us with
    | nil => exact .inl rfl
    | cons u us => exact .inr ⟨_, rfl⟩
  have hs : ∀ {us : List Int} {s : List UInt8}, GT us s → ∀ x, x ∈ s → x ≠ c := fun g x hx e => by
    subst e; rcases g.sign x hx with h | h
    · exact hc.1 h
    · exact hc.2 h
  have hu : ∀ {us : List Int} {s : List UInt8}, GT us s → ∀ u, u ∈ us → -1 ≤ u ∧ u < 10 := fun g u hu => by
    obtain ⟨i, hi, rfl⟩ := List.mem_iff_getElem.1 hu
    have := g.up i hi; have := g.small; rw [zat_lt hi] at *; omega
  obtain ⟨e1, e2⟩ := key (hs g) (hs k) (ht us) (ht vs) h
  exact ⟨txt_inj (hu g) (hu k) e2, e1⟩

def TreeVal (F : Dag) (us : List Int) (s : List UInt8) : Prop := Cgt.IsForm F ∧ ∃ g, Same (Cgt.topOf F) g ∧ Canon g ∧ Eqv g (tg us s)

end Go.Proofs.YtjkdanmpihildaaGreatDoor

namespace Go.Proofs.YtjkdanmpihildaaGreatDoor
open Go.RowKit

def numB (n : Int) : ByteArray := ⟨(numS n).toArray⟩
theorem numB_list (n : Int) : (numB n).data.toList = numS n := by simp [numB]
theorem digit_eq {n : Nat} (h : n < 10) : ({ data := #[48, 49, 50, 51, 52, 53, 54, 55, 56, 57] } : ByteArray).extract n (n + 1) = numB n := by
  have : n = 0 ∨ n = 1 ∨ n = 2 ∨ n = 3 ∨ n = 4 ∨ n = 5 ∨ n = 6 ∨ n = 7 ∨ n = 8 ∨ n = 9 := by omega
  rcases this with rfl | rfl | rfl | rfl | rfl | rfl | rfl | rfl | rfl | rfl <;> decide

theorem l1Num_nat (n : Nat) (hn : n < 10) (w : World) : Calls Tryz.prog 31 #[.int .i64 (n : Int)] w fun e w' => e = .returned (.string (numB n)) ∧ w' = w := by
  go_enter Tryz.func31, Tryz.ntmps31
  go_wp2_with fail
  go_ret
  exact ⟨congrArg (fun t => Ending.returned (.string t)) (digit_eq hn), rfl⟩

theorem l1Num_any (n : Int) (h1 : -1 ≤ n) (h2 : n < 10) (w : World) : Calls Tryz.prog 31 #[.int .i64 n] w fun e w' => e = .returned (.string (numB n)) ∧ w' = w := by
  by_cases h0 : n < 0
  · have e1 : n = -1 := by omega
    subst e1
    go_enter Tryz.func31, Tryz.ntmps31
    go_wp2_with (go_at_call 31; refine (l1Num_nat 1 (by omega) _).mono ?_; rintro e w' ⟨rfl, rfl⟩)
    go_ret
    exact ⟨congrArg (fun t => Ending.returned (.string t)) (by decide), rfl⟩
  · obtain ⟨k, rfl⟩ : ∃ k : Nat, n = k := ⟨n.toNat, by omega⟩
    exact l1Num_nat k (by omega) w

end Go.Proofs.YtjkdanmpihildaaGreatDoor
