/-
  What the walks share: a slice of int that reads as a list; no condition.
  Contracts of small functions of the reference that only read; no condition.
  A region that draws its order: loads are taken first under a condition that the last operations need not keep.
-/
import Derived.Test.YtjkdanmpihildaaGreatDoorProg
import Derived.WalkKit
import Derived.Lib.Hide
import Derived.BigQuiet
import Derived.Deep.QuietTactic
import Derived.Deep.RegionHeld3
namespace Go.Proofs.YtjkdanmpihildaaGreatDoor
open Go.RowKit

theorem gE.{u} {α : Type u} : (∀ (l : List α) (i : Nat), l.toArray[i]? = l[i]?) ∧ (∀ (a : α) (l : List α) (i : Nat), (a :: l)[i + 1]? = l[i]?) ∧ ∀ (a : α) (l : List α), (a :: l)[0]? = some a := ⟨fun _ _ => by simp, fun _ _ _ => by simp, fun _ _ => by simp⟩
theorem nE.{u} {α : Type u} : (∀ (l : List α) (i : Nat) (a : α), l.toArray.setIfInBounds i a = (l.set i a).toArray) ∧ (∀ (a b : α) (l : List α), (a :: l).set 0 b = b :: l) ∧ ∀ (a b : α) (l : List α) (i : Nat), (a :: l).set (i + 1) b = a :: l.set i b := ⟨fun _ _ _ => by simp, fun _ _ _ => by simp, fun _ _ _ _ => by simp⟩

theorem ret_int {k : IntKind} {a b : Int} (h : a = b) : Ending.returned (.int k a) = .returned (.int k b) := by rw [h]
theorem ret_bool {a b : Bool} (h : a = b) : Ending.returned (.bool a) = .returned (.bool b) := by rw [h]

theorem quiet_add {P : Program} {f : FuncId} {args : Array Value} {w : World} {a n : Nat} {v : Value}
    (h : Calls P f args (w.drewN (a + n)) fun e w' => e = .returned v ∧ ∃ m, w' = (w.drewN (a + n)).drewN m) :
    Calls P f args (w.drewN (a + n)) fun e w'' => e = .returned v ∧ ∃ m, w'' = w.drewN (a + m) :=
  h.mono fun _ _ ⟨he, m, hm⟩ => ⟨he, n + m, by rw [hm, World.drewN_drewN, Nat.add_assoc]⟩

def RD (w w' : World) : Prop := ∃ n, w' = w.drewN n
theorem rd0 (w : World) : RD w w := ⟨0, rfl⟩
theorem rd1 (w : World) (n : Nat) : RD w (w.drewN n) := ⟨n, rfl⟩
theorem rd2 (w : World) (n m : Nat) : RD w ((w.drewN n).drewN m) := ⟨n + m, by simp⟩
theorem rd3 (w : World) (n m k : Nat) : RD w (((w.drewN n).drewN m).drewN k) := ⟨n + m + k, by simp⟩
theorem drewN2 (w : World) (n m : Nat) : (w.drewN n).drewN m = w.drewN (n + m) := by simp

def zat (l : List Int) (k : Nat) : Int := l[k]?.getD 0
theorem zat_lt {l : List Int} {k : Nat} (h : k < l.length) : zat l k = l[k] := by simp [zat, h]
theorem zat_mem {l : List Int} {k : Nat} (h : k < l.length) : zat l k ∈ l := by rw [zat_lt h]; exact List.getElem_mem h
theorem take_zat {l : List Int} {k : Nat} (h : k < l.length) : l.take (k + 1) = l.take k ++ [zat l k] := by
  rw [List.take_succ_eq_append_getElem h, zat_lt h]
def hasZ (l : List Int) (n : Int) : Bool := decide (n ∈ l)

def Ints (w : World) (v : Value) (l : List Int) : Prop :=
  ∃ a cap, v = .slice a l.length cap ∧ l.length ≤ cap ∧ l.length ≤ 1152921504606846976 ∧
    (0 < l.length → ∃ b off, a = some ⟨b, off, none⟩ ∧ ∀ i, i < l.length → w.cell? ⟨b, off + i, none⟩ = some (.int .i64 (zat l i)))

end Go.Proofs.YtjkdanmpihildaaGreatDoor

namespace Go.Proofs.YtjkdanmpihildaaGreatDoor
open Go.RowKit

def inB (x a b : Int) : Bool := decide (a ≤ x) && decide (x ≤ b)
theorem l1In_any (x a b : Int) (w : World) : Calls Tryz.prog 30 #[.int .i64 x, .int .i64 a, .int .i64 b] w fun e w' => e = .returned (.bool (inB x a b)) ∧ RD w w' := by
  by_cases h1 : a ≤ x
  · go_enter Tryz.func30, Tryz.ntmps30
    go_wp2
    go_ret
    exact ⟨ret_bool (by simp [inB, h1]), (by first | exact rd0 _ | exact rd1 _ _ | exact rd2 _ _ _ | exact rd3 _ _ _ _)⟩
  · have hd : decide (a ≤ x) = false := by simpa using h1
    go_enter Tryz.func30, Tryz.ntmps30
    go_wp2
    go_ret
    exact ⟨ret_bool (by simp [inB, hd]), (by first | exact rd0 _ | exact rd1 _ _ | exact rd2 _ _ _ | exact rd3 _ _ _ _)⟩

theorem l1Most_any (a b : Int) (w : World) : Calls Tryz.prog 73 #[.int .i64 a, .int .i64 b] w fun e w' => e = .returned (.int .i64 (max a b)) ∧ RD w w' := by
  go_enter Tryz.func73, Tryz.ntmps73
  go_wp2
  all_goals go_ret
  all_goals exact ⟨ret_int (by omega), (by first | exact rd0 _ | exact rd1 _ _ | exact rd2 _ _ _ | exact rd3 _ _ _ _)⟩

theorem hasZ_snoc (l : List Int) (x n : Int) : hasZ (l ++ [x]) n = (hasZ l n || decide (n = x)) := by
  simp [hasZ]

theorem l1Has_any (v : Value) (l : List Int) (n : Int) (w : World) (h : Ints w v l) :
    Calls Tryz.prog 103 #[v, .int .i64 n] w fun e w' => e = .returned (.bool (hasZ l n)) ∧ RD w w' := by
  obtain ⟨a, cap, rfl, hlc, hcap, hc⟩ := h
  go_enter Tryz.func103, Tryz.ntmps103
  go_wp2
  go_loop [5] (fun i => ∃ k : Nat, k ≤ l.length ∧ i = .int .i64 k ∧ Hid (hasZ (l.take k) n = false)) (fun i => l.length - (intOf i).toNat)
  case atStart => exact ⟨0, Nat.zero_le _, rfl, by simp [Hid, hasZ]⟩
  case round =>
    obtain ⟨k, hk, rfl, HN⟩ := hrel
    by_cases hlt : k < l.length
    · obtain ⟨b, off, rfl, hcell⟩ := hc (by omega)
      have hck := hcell k hlt
      clear hcell hc
      go_wp2
      · have heq : (zat l k == n) = true := by assumption
        go_ret
        refine ⟨ret_bool ?_, (by first | exact rd0 _ | exact rd1 _ _ | exact rd2 _ _ _ | exact rd3 _ _ _ _)⟩
        have e : zat l k = n := by simpa using heq
        have := zat_mem hlt
        simp [hasZ, ← e, this]
      · have hne : (zat l k == n) = false := by assumption
        go_round
        case rel =>
          refine ⟨k + 1, by omega, by go_num, ?_⟩
          have := HN.out
          show hasZ _ _ = _
          rw [take_zat hlt, hasZ_snoc, this]
          simp at hne ⊢
          exact fun h => hne h.symm
        case measure => simp [intOf]; omega
    · go_wp2
      go_ret
      refine ⟨ret_bool ?_, (by first | exact rd0 _ | exact rd1 _ _ | exact rd2 _ _ _ | exact rd3 _ _ _ _)⟩
      have := HN.out
      rw [List.take_of_length_le (by omega)] at this
      exact this.symm

def same2 (a b : List Int) : Bool := decide (a = b)
theorem l1Same_any (v u : Value) (l m : List Int) (w : World) (h : Ints w v l) (g : Ints w u m) :
    Calls Tryz.prog 74 #[v, u] w fun e w' => e = .returned (.bool (same2 l m)) ∧ RD w w' := by
  obtain ⟨a, cap, rfl, hlc, hcap, hc⟩ := h
  obtain ⟨a', cap', rfl, hlc', hcap', hc'⟩ := g
  by_cases hll : l.length = m.length
  · have hb : ((l.length : Int) == m.length) = true := by simp [hll]
    have hb' : ((l.length : Int) != m.length) = false := by simp [hll]
    have HL := Lib.hid hll
    have hle : m.length ≤ l.length := by omega
    have hle' : l.length ≤ m.length := by omega
    clear hll
    go_enter Tryz.func74, Tryz.ntmps74
    go_wp2
    go_loopw [5] (fun i wr => ∃ k : Nat, k ≤ l.length ∧ i = .int .i64 k ∧ RD w wr ∧ Hid (l.take k = m.take k)) (fun i _ => l.length - (intOf i).toNat)
    case atStart => exact ⟨0, Nat.zero_le _, rfl, rd0 _, by simp [Hid]⟩
    case round =>
      obtain ⟨k, hk, rfl, ⟨n, rfl⟩, HN⟩ := hrel
      by_cases hlt : k < l.length
      · have hltm : k < m.length := by omega
        obtain ⟨b, off, rfl, hcell⟩ := hc (by omega)
        obtain ⟨b', off', rfl, hcell'⟩ := hc' (by omega)
        have hck := hcell k hlt
        have hck' := hcell' k hltm
        clear hcell hc hcell' hc'
        go_wp2
        go_quiet (fail)
        go_wp2
        · have hne : (zat l k != zat m k) = true := by assumption
          go_ret
          refine ⟨ret_bool ?_, (by first | exact rd0 _ | exact rd1 _ _ | exact rd2 _ _ _ | exact rd3 _ _ _ _)⟩
          have : l ≠ m := fun e => by rw [e] at hne; simp at hne
          simp [same2, this]
        · have hne : (zat l k != zat m k) = false := by assumption
          go_roundw
          case rel =>
            refine ⟨k + 1, by omega, by go_num, (by first | exact rd0 _ | exact rd1 _ _ | exact rd2 _ _ _ | exact rd3 _ _ _ _), ?_⟩
            show _ = _
            rw [take_zat hlt, take_zat hltm, HN.out]
            simp at hne
            rw [hne]
          case measure => simp [intOf]; omega
      · go_wp2
        go_ret
        refine ⟨ret_bool ?_, (by first | exact rd0 _ | exact rd1 _ _ | exact rd2 _ _ _ | exact rd3 _ _ _ _)⟩
        have := HN.out
        rw [List.take_of_length_le (by omega), List.take_of_length_le (by omega)] at this
        simp [same2, this]
  · have hb : ((l.length : Int) == m.length) = false := by simp; omega
    have hb' : ((l.length : Int) != m.length) = true := by simp; omega
    have HL := Lib.hid hll
    clear hll
    go_enter Tryz.func74, Tryz.ntmps74
    go_wp2
    go_ret
    refine ⟨ret_bool ?_, (by first | exact rd0 _ | exact rd1 _ _ | exact rd2 _ _ _ | exact rd3 _ _ _ _)⟩
    have : l ≠ m := fun e => HL.out (by rw [e])
    simp [same2, this]

def risesTo (l : List Int) (lo hi : Int) (k : Nat) : Prop := ∀ j, j < k → lo ≤ zat l j ∧ zat l j ≤ hi ∧ (0 < j → zat l (j - 1) < zat l j)
def rises (l : List Int) (lo hi : Int) : Bool := (List.range l.length).all fun j => decide (lo ≤ zat l j) && decide (zat l j ≤ hi) && decide (0 < j → zat l (j - 1) < zat l j)
theorem rises_iff {l : List Int} {lo hi : Int} : rises l lo hi = true ↔ risesTo l lo hi l.length := by simp [rises, risesTo, and_assoc, Nat.pos_iff_ne_zero, Classical.or_iff_not_imp_left]
theorem rises_no {l : List Int} {lo hi : Int} {k : Nat} (hk : k < l.length) (h : ¬ (lo ≤ zat l k ∧ zat l k ≤ hi ∧ (0 < k → zat l (k - 1) < zat l k))) : rises l lo hi = false := by
  rw [Bool.eq_false_iff]; intro e; exact h (rises_iff.1 e k hk)

set_option maxHeartbeats 400000 in
theorem l1Rising_any (v : Value) (l : List Int) (lo hi : Int) (w : World) (h : Ints w v l) :
    Calls Tryz.prog 53 #[v, .int .i64 lo, .int .i64 hi] w fun e w' => e = .returned (.bool (rises l lo hi)) ∧ RD w w' := by
  obtain ⟨a, cap, rfl, hlc, hcap, hc⟩ := h
  go_enter Tryz.func53, Tryz.ntmps53
  go_wp2
  go_loopw [7] (fun i wr => ∃ k : Nat, k ≤ l.length ∧ i = .int .i64 k ∧ RD w wr ∧ Hid (risesTo l lo hi k)) (fun i _ => l.length - (intOf i).toNat)
  case atStart => exact ⟨0, Nat.zero_le _, rfl, rd0 _, fun j h => absurd h (by omega)⟩
  case round =>
    obtain ⟨k, hk, rfl, ⟨n, rfl⟩, HN⟩ := hrel
    by_cases hlt : k < l.length
    · obtain ⟨b, off, rfl, hcell⟩ := hc (by omega)
      have hck := hcell k hlt
      by_cases hin : inB (zat l k) lo hi = true
      · by_cases h0 : 0 < k
        · have hck1 := hcell (k - 1) (by omega)
          obtain ⟨j, rfl⟩ : ∃ j, k = j + 1 := ⟨k - 1, by omega⟩
          clear hcell hc
          simp only [Nat.add_sub_cancel] at hck1
          by_cases hge : zat l (j + 1) ≤ zat l j
          · go_wp2
            go_quiet ((go_at_call 30; first | exact Calls.quiet_of (l1In_any _ _ _ _) | exact quiet_add (l1In_any _ _ _ _)))
            go_wp2
            go_ret
            exact ⟨ret_bool (rises_no hlt (fun h => by have := h.2.2 (by omega); simp at this; omega)).symm, (by first | exact rd0 _ | exact rd1 _ _ | exact rd2 _ _ _ | exact rd3 _ _ _ _)⟩
          · have hd : decide (zat l (j + 1) ≤ zat l j) = false := by simpa using hge
            go_wp2
            go_quiet ((go_at_call 30; first | exact Calls.quiet_of (l1In_any _ _ _ _) | exact quiet_add (l1In_any _ _ _ _)))
            go_wp2
            go_roundw
            case rel =>
              refine ⟨j + 1 + 1, by omega, by go_num, (by first | exact rd0 _ | exact rd1 _ _ | exact rd2 _ _ _ | exact rd3 _ _ _ _), fun i hi => ?_⟩
              rcases Nat.lt_or_ge i (j + 1) with h | h
              · exact HN.out i h
              · obtain rfl : i = j + 1 := by omega
                have := hin
                simp [inB] at this
                exact ⟨this.1, this.2, fun _ => by simp; omega⟩
            case measure => simp [intOf]; omega
        · have hd0 : decide ((0 : Int) < (k : Int)) = false := by simp; omega
          clear hcell hc
          go_wp2
          go_quiet ((go_at_call 30; first | exact Calls.quiet_of (l1In_any _ _ _ _) | exact quiet_add (l1In_any _ _ _ _)))
          go_wp2
          go_roundw
          case rel =>
            refine ⟨k + 1, by omega, by go_num, (by first | exact rd0 _ | exact rd1 _ _ | exact rd2 _ _ _ | exact rd3 _ _ _ _), fun i hi => ?_⟩
            obtain rfl : i = k := by omega
            have := hin
            simp [inB] at this
            exact ⟨this.1, this.2, fun h => absurd h (by omega)⟩
          case measure => simp [intOf]; omega
      · have hin' : inB (zat l k) lo hi = false := by simpa using hin
        clear hcell hc hin
        go_wp2
        go_quiet ((go_at_call 30; first | exact Calls.quiet_of (l1In_any _ _ _ _) | exact quiet_add (l1In_any _ _ _ _)))
        go_wp2
        go_ret
        refine ⟨ret_bool (rises_no hlt (fun h => ?_)).symm, (by first | exact rd0 _ | exact rd1 _ _ | exact rd2 _ _ _ | exact rd3 _ _ _ _)⟩
        have := hin'
        simp [inB] at this
        omega
    · go_wp2
      go_ret
      refine ⟨ret_bool ?_, (by first | exact rd0 _ | exact rd1 _ _ | exact rd2 _ _ _ | exact rd3 _ _ _ _)⟩
      have := HN.out
      rw [show k = l.length by omega] at this
      exact (rises_iff.2 this).symm

end Go.Proofs.YtjkdanmpihildaaGreatDoor

namespace Go.Proofs.YtjkdanmpihildaaGreatDoor
open Go Go.RowKit

section
variable {P : Program} {ops : Array Oper} {Q : Exit → Act → World → Prop} {md : Region.Mode} {S : World → Prop} {T : List Nat}

def wpAnyT (P : Program) (md : Region.Mode) (ops : Array Oper) (Q : Exit → Act → World → Prop) (S : World → Prop) (T : List Nat) : Nat → Array Bool → Act → World → Prop
  | 0, listed, a, w => Region.ready md ops listed = [] ∧ Q .normal a w
  | fuel + 1, listed, a, w =>
    (Region.ready md ops listed = [] → Q .normal a w) ∧
    ∀ i ∈ Region.ready md ops listed, wpOp P ops Q i (fun a' w' => (T.contains i = false → S w') ∧ wpAnyT P md ops Q S T fuel (listed.setIfInBounds i true) a' w') a w

theorem wpAny_of_T : ∀ (fuel : Nat) (listed : Array Bool) (a : Act) (w : World), wpAnyT P md ops Q S T fuel listed a w → wpAny P md ops Q fuel listed a w
  | 0, _, _, _, h => h
  | fuel + 1, _, _, _, h => ⟨h.1, fun i hi => wpOp_mono (fun a' w' h' => wpAny_of_T fuel _ a' w' h'.2) (h.2 i hi)⟩

theorem unlisted {listed : Array Bool} {u : Nat} (h : listed.getD u true = false) : listed.getD u false = false := by
  rcases Nat.lt_or_ge u listed.size with h' | h'
  · simpa [h'] using h
  · simp [h']

def Waits (md : Region.Mode) (ops : Array Oper) (U : List Nat) (i : Nat) : Prop := ∀ u, u ∈ U → u ≠ i → ∃ o, ops[u]? = some o ∧ ∃ e, e ∈ o.after ∧ Region.binds md e = true ∧ e.on ∈ U

theorem wpAnyT_first {i : Nat} {oi : Oper} {v : Value} {U : List Nat} (hi : ops[i]? = some oi) (hsel : ∀ (j : Nat) (o : Oper) cs b, ops[j]? = some o → o.op ≠ .select cs b)
    (hQ : ∀ c a w, Q (.panic c) (a.put oi.dst v) w → Q (.panic c) a w) (hU : Waits md ops U i) (hT : ∀ t, T.contains t = true → t ∈ U) :
    ∀ (fuel : Nat) (listed : Array Bool) (a : Act) (w : World),
      (∀ j oj, ops[j]? = some oj → j ≠ i → listed.getD j true = false → (∀ e ∈ oj.after, Region.binds md e = true → e.on ≠ i) → oi.apart ops oj = true) →
      (∀ u, u ∈ U → listed.getD u true = false) →
      i ∈ Region.ready md ops listed → YieldsIf P ops S oi v a → S w →
      wpAnyT P md ops Q S T fuel (listed.setIfInBounds i true) (a.put oi.dst v) w → wpAnyT P md ops Q S T (fuel + 1) listed a w := by
  intro fuel
  induction fuel with
  | zero =>
    intro listed a w _ hul hr hy hS H
    refine ⟨fun h => (by rw [h] at hr; cases hr), fun j hj => ?_⟩
    by_cases hji : j = i
    · subst hji; exact hy.wpOp hi hS ⟨fun _ => hS, H⟩
    · have := ready_mono hj hji
      rw [H.1] at this
      cases this
  | succ fuel ih =>
    intro listed a w hfree hul hr hy hS H
    refine ⟨fun h => (by rw [h] at hr; cases hr), fun j hj => ?_⟩
    by_cases hji : j = i
    · subst hji; exact hy.wpOp hi hS ⟨fun _ => hS, H⟩
    · have h1 := H.2 j (ready_mono hj hji)
      obtain ⟨hjun, oj, hoj, hall⟩ := mem_ready.1 hj
      have hjU : j ∉ U := fun h => by
        obtain ⟨o, ho, e, he, hb, hon⟩ := hU j h hji
        obtain rfl : o = oj := by rw [ho] at hoj; injection hoj
        have h2 := hall e he hb
        rw [unlisted (hul _ hon)] at h2
        cases h2
      have hjT : T.contains j = false := by
        cases h : T.contains j with
        | false => rfl
        | true => exact absurd (hT j h) hjU
      have hnot : ∀ e ∈ oj.after, Region.binds md e = true → e.on ≠ i := fun e he hb heq => by
        have h1 := hall e he hb
        have h0 := (mem_ready.1 hr).1
        rw [heq] at h1
        rcases Nat.lt_or_ge i listed.size with h' | h'
        · simp [h'] at h0 h1; rw [h0] at h1; cases h1
        · simp [Array.getElem?_eq_none h'] at h1
      have h2 := wpOp_putIf hoj (hfree j oj hoj hji hjun hnot) (fun cs b => hsel i oi cs b hi) (fun cs b => hsel j oj cs b hoj) hQ hy h1
      have hfree' : ∀ k ok, ops[k]? = some ok → k ≠ i → (listed.setIfInBounds j true).getD k true = false →
          (∀ e ∈ ok.after, Region.binds md e = true → e.on ≠ i) → oi.apart ops ok = true := fun k ok hk hki hun hno => by
        refine hfree k ok hk hki ?_ hno
        by_cases hjk : j = k
        · subst hjk; exact hjun
        · rw [getD_set_ne true hjk] at hun; exact hun
      have hul' : ∀ u, u ∈ U → (listed.setIfInBounds j true).getD u true = false := fun u hu => by
        rw [getD_set_ne true (fun e => hjU (by rw [e]; exact hu))]; exact hul u hu
      refine wpOp_mono (fun a' w' h3 => ⟨fun _ => h3.2.1 hjT, ih (listed.setIfInBounds j true) a' w' hfree' hul' (ready_mono hr (Ne.symm hji)) h3.1 (h3.2.1 hjT) ?_⟩) h2
      rw [Array.setIfInBounds_comm _ _ hji]
      exact h3.2.2

def upOf (md : Region.Mode) (ops : Array Oper) (i : Nat) : List Nat := (List.range ops.size).foldl (fun U j => if (match ops[j]? with | some o => o.after.any (fun e => Region.binds md e && U.contains e.on) | none => false) then U ++ [j] else U) [i]
def waitsB (md : Region.Mode) (ops : Array Oper) (U : List Nat) (i : Nat) : Bool := U.all fun u => u == i || (match ops[u]? with | some o => o.after.any (fun e => Region.binds md e && U.contains e.on) | none => false)
def tookB (md : Region.Mode) (ops : Array Oper) (T : List Nat) (listed : Array Bool) (i : Nat) : Bool :=
  waitsB md ops (upOf md ops i) i && T.all (fun t => (upOf md ops i).contains t) && (upOf md ops i).all (fun u => !listed.getD u true)
theorem waits_spec {U : List Nat} {i : Nat} (h : waitsB md ops U i = true) : Waits md ops U i := by
  intro u hu hne
  have h1 := List.all_eq_true.1 h u hu
  simp only [Bool.or_eq_true, beq_iff_eq, hne, false_or] at h1
  cases ho : ops[u]? with
  | none => simp [ho] at h1
  | some o =>
    simp only [ho] at h1
    obtain ⟨e, he, hb⟩ := Array.any_eq_true'.1 h1
    simp only [Bool.and_eq_true] at hb
    exact ⟨o, rfl, e, he, hb.1, by simpa using hb.2⟩

theorem wpAnyT_take {i : Nat} {oi : Oper} {v : Value} {fuel : Nat} {listed : Array Bool} {a : Act} {w : World} (hi : ops[i]? = some oi)
    (hs : Region.noSelect ops = true) (hf : Region.free md ops listed i = true) (hr : (Region.ready md ops listed).contains i = true) (ht : tookB md ops T listed i = true)
    (hQ : ∀ c a w, Q (.panic c) (a.put oi.dst v) w → Q (.panic c) a w) (hS : S w) (hy : YieldsIf P ops S oi v a)
    (h : wpAnyT P md ops Q S T fuel (listed.setIfInBounds i true) (a.put oi.dst v) w) : wpAnyT P md ops Q S T (fuel + 1) listed a w := by
  simp only [tookB, Bool.and_eq_true] at ht
  obtain ⟨⟨h1, h2⟩, h3⟩ := ht
  refine wpAnyT_first hi (Region.noSelect_spec hs) hQ (waits_spec h1) (fun t ht => ?_) fuel listed a w (Region.free_spec hi hf) (fun u hu => ?_) (by simpa using hr) hy hS h
  · have := List.all_eq_true.1 h2 t (by simpa using ht)
    simpa using this
  · have := List.all_eq_true.1 h3 u hu
    simpa using this

theorem tkT {i : Nat} {oi : Oper} {v : Value} {fuel : Nat} {listed : Array Bool} {a : Act} {w : World} (hi : ops[i]? = some oi) (hS : S w) (hy : YieldsIf P ops S oi v a)
    (h : wpAnyT P md ops Q S T fuel (listed.setIfInBounds i true) (a.put oi.dst v) w)
    (hs : Region.noSelect ops = true := by kernel_rfl) (hf : Region.free md ops listed i = true := by kernel_rfl) (hr : (Region.ready md ops listed).contains i = true := by kernel_rfl) (ht : tookB md ops T listed i = true := by kernel_rfl)
    (hQ : ∀ c a w, Q (.panic c) (a.put oi.dst v) w → Q (.panic c) a w := by exact fun _ _ _ h => h) : wpAnyT P md ops Q S T (fuel + 1) listed a w :=
  wpAnyT_take hi hs hf hr ht hQ hS hy h

theorem wpAnyT_step {i : Nat} {o : Oper} {fuel : Nat} {listed : Array Bool} {a : Act} {w : World} (hr : Region.ready md ops listed = [i]) (ho : ops[i]? = some o)
    (h : ∀ K' : Act → World → Prop, Shut (∀ a w, (T.contains i = false → S w) → wpAnyT P md ops Q S T fuel (listed.setIfInBounds i true) a w → K' a w) → if Region.wanted o (yielded ops a.tmps) = true then Oper.wp P o a w K' Q else K' (a.put o.dst undef) w) :
    wpAnyT P md ops Q S T (fuel + 1) listed a w := by
  refine ⟨fun h0 => (by rw [hr] at h0; cases h0), fun j hj => ?_⟩
  rw [hr] at hj
  obtain rfl : j = i := by simpa using hj
  exact wpOp_step ho (fun K' hK => h K' (fun a w hS hW => hK a w ⟨hS, hW⟩))

def StepT (P : Program) (md : Region.Mode) (ops : Array Oper) (Q : Exit → Act → World → Prop) (S : World → Prop) (T : List Nat) (fuel : Nat) (listed : Array Bool) (a : Act) (w : World) (i : Nat) : Prop :=
  wpOp P ops Q i (fun a' w' => (T.contains i = false → S w') ∧ wpAnyT P md ops Q S T fuel (listed.setIfInBounds i true) a' w') a w
theorem StepT.run {i : Nat} {o : Oper} {fuel : Nat} {listed : Array Bool} {a : Act} {w : World} (ho : ops[i]? = some o)
    (h : ∀ K' : Act → World → Prop, Shut (∀ a w, (T.contains i = false → S w) → wpAnyT P md ops Q S T fuel (listed.setIfInBounds i true) a w → K' a w) → if Region.wanted o (yielded ops a.tmps) = true then Oper.wp P o a w K' Q else K' (a.put o.dst undef) w) :
    StepT P md ops Q S T fuel listed a w i := wpOp_step ho (fun K' hK => h K' (fun a w hS hW => hK a w ⟨hS, hW⟩))
theorem wpAnyT_two {i j : Nat} {fuel : Nat} {listed : Array Bool} {a : Act} {w : World} (hr : Region.ready md ops listed = [i, j]) (h1 : StepT P md ops Q S T fuel listed a w i) (h2 : StepT P md ops Q S T fuel listed a w j) :
    wpAnyT P md ops Q S T (fuel + 1) listed a w := by
  refine ⟨fun h0 => (by rw [hr] at h0; cases h0), fun k hk => ?_⟩
  rw [hr] at hk
  rcases List.mem_cons.1 hk with rfl | hk
  · exact h1
  · obtain rfl : k = j := by simpa using hk
    exact h2

def chainB (md : Region.Mode) (ops : Array Oper) : List Nat → Array Bool → Bool
  | [], listed => Region.ready md ops listed == []
  | i :: rs, listed => Region.ready md ops listed == [i] && chainB md ops rs (listed.setIfInBounds i true)
theorem wpAnyT_tail : ∀ (rs : List Nat) (os : List Oper) (fuel : Nat) (listed : Array Bool) (a : Act) (w : World), rs.length ≤ fuel → chainB md ops rs listed = true → rs.all (fun i => T.contains i) = true → rs.map (fun i => ops[i]?) = os.map some →
    wpList P ops Q os a w → wpAnyT P md ops Q S T fuel listed a w
  | [], [], 0, listed, a, w, _, hc, _, _, h => ⟨by simpa [chainB] using hc, h⟩
  | [], [], fuel + 1, listed, a, w, _, hc, _, _, h => ⟨fun _ => h, fun j hj => by have h0 : Region.ready md ops listed = [] := (by simpa [chainB] using hc); rw [h0] at hj; cases hj⟩
  | i :: rs, o :: os, fuel + 1, listed, a, w, hl, hc, hT, hm, h => by
    simp only [chainB, Bool.and_eq_true, beq_iff_eq] at hc
    simp only [List.all_cons, Bool.and_eq_true] at hT
    simp only [List.map_cons, List.cons.injEq] at hm
    refine ⟨fun h0 => (by rw [hc.1] at h0; cases h0), fun j hj => ?_⟩
    rw [hc.1] at hj
    obtain rfl : j = i := by simpa using hj
    unfold wpOp
    simp only [hm.1]
    have ih := fun a w hw => wpAnyT_tail rs os fuel (listed.setIfInBounds j true) a w (by simpa using hl) hc.2 hT.2 hm.2 hw
    unfold wpList at h
    by_cases hw : Region.wanted o (yielded ops a.tmps) = true
    · rw [if_pos hw] at h
      rw [if_pos hw]
      exact h.imp (Oper.wp_mono fun a' w' hh => ⟨fun hn => (by rw [hT.1] at hn; cases hn), ih a' w' hh⟩) id
    · rw [if_neg hw] at h
      rw [if_neg hw]
      exact ⟨fun hn => (by rw [hT.1] at hn; cases hn), ih _ _ h⟩
  | [], _ :: _, _, _, _, _, _, _, _, hm, _ => by simp at hm
  | _ :: _, [], _, _, _, _, _, _, _, hm, _ => by simp at hm
  | _ :: _, _ :: _, 0, _, _, _, hl, _, _, _, _ => by simp at hl

theorem wp_region_T {id : Nat} {a : Act} {w : World} (S : World → Prop) (T : List Nat) (hm : P.follows .mixedOrders = true) (hS : S w.drew)
    (h : S w.drew → wpAnyT P .any ops Q S T ops.size (Array.replicate ops.size false) a w.drew) : (Code.region id ops true).wp P Q a w :=
  wp_region_any hm (wpAny_of_T _ _ _ _ (h hS))

end
end Go.Proofs.YtjkdanmpihildaaGreatDoor
