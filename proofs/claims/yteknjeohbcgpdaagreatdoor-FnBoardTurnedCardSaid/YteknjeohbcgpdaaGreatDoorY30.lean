/-
  Contract of the program's dominated. (2 texts.)
-/
import Derived.Test.YteknjeohbcgpdaaGreatDoorY5
import Derived.Test.YteknjeohbcgpdaaGreatDoorY29
set_option maxRecDepth 100000
namespace Go.Proofs.YteknjeohbcgpdaaGreatDoor
section
open Go.RowKit
open Cgt (Dag Nd vl Same Ge)

def ThruL (D : Dag) (root : Nat) (left : Bool) (l : List Nat) (v : Int) : Prop := (v = -1 ∧ ∀ y, y ∈ l → ¬ GeS D left root y) ∨ ∃ y, y ∈ l ∧ v = (y : Int) ∧ GeS D left root y
theorem thru_past {D : Dag} {root : Nat} {left : Bool} {l : List Nat} {k : Nat} (hk : k < l.length) (h : Hid (∀ j (h : j < l.length), j < k → ¬ GeS D left root l[j])) (hn : ¬ GeS D left root l[k]) : Hid (∀ j (h : j < l.length), j < k + 1 → ¬ GeS D left root l[j]) := by
  intro j hj hjk
  by_cases e : j = k
  · subst e; exact hn
  · exact h j hj (by omega)
theorem thru_end {D : Dag} {root : Nat} {left : Bool} {l : List Nat} (h : Hid (∀ j (h : j < l.length), j < l.length → ¬ GeS D left root l[j])) : ThruL D root left l (-1) :=
  .inl ⟨rfl, fun y hy => by obtain ⟨j, hj, rfl⟩ := List.mem_iff_getElem.1 hy; exact h j hj hj⟩

theorem SInts.at {T : Nat → Prop} {w : World} {a : Option Addr} {n c : Nat} {l : List Nat} (h : SInts T w (.slice a n c) l) : n = l.length ∧ l.length ≤ 1152921504606846976 ∧ (0 < l.length → ∃ b off, a = some ⟨b, off, none⟩ ∧ ∀ k (hk : k < l.length), w.cell? ⟨b, off + k, none⟩ = some (.int .i64 (l[k] : Int))) := by
  obtain ⟨a', c', e, -, hln, hcl⟩ := h.out
  simp only [Value.slice.injEq, toZ_len] at e
  obtain ⟨rfl, rfl, rfl⟩ := e
  rw [toZ_len] at hln hcl
  refine ⟨rfl, hln, fun h0 => ?_⟩
  obtain ⟨b, off, e, hc⟩ := hcl h0
  exact ⟨b, off, e, fun k hk => by rw [hc k hk, toZ_zat hk]⟩

set_option maxHeartbeats 2000000 in
theorem through_any (pp h : Nat) (s : PSt) (root x : Nat) (left : Bool) (v : Value) (l : List Nat) (T : Nat → Prop) (w : World) (hP : PoolAt w pp h s) (hr : root < s.D.length) (hl : ∀ x, x ∈ l → x < s.D.length) (hT : Off pp h s w T) (hv : SInts T w v l) :
    Calls Tryz.prog 196 #[.pointer (some ⟨pp, 0, none⟩), .int .i64 (root : Int), .int .i64 (x : Int), .bool left, v] w fun e w' => ∃ z : Int, e = .returned (.int .i64 z) ∧ ThruL s.D root left l z ∧ PGo pp h s w s w' := by
  have hds := hP.small
  obtain ⟨av, cv, rfl, -⟩ := id hv.out
  rw [toZ_len] at hv ⊢
  go_enter Tryz.func196, Tryz.ntmps196
  go_wp2
  go_loopw [12, 15] (fun _ ii wr => ∃ k : Nat, k ≤ l.length ∧ ii = .int .i64 ((k : Nat) : Int) ∧ PGo pp h s w s wr ∧ Hid (∀ j (h : j < l.length), j < k → ¬ GeS s.D left root l[j])) (fun _ ii _ => l.length - (intOf ii).toNat)
  case atStart => exact ⟨0, Nat.zero_le _, rfl, PGo.refl hP (Below.refl _ _), fun j _ h => absurd h (by omega)⟩
  case round =>
    obtain ⟨k, hk, rfl, hgo, HN⟩ := hrel
    obtain ⟨-, hln, hcl⟩ := SInts.at (Sup.go hv hT hgo)
    by_cases hlt : k < l.length
    · have h1 : ((k : Nat) : Int) < ((l.length : Nat) : Int) := by omega
      obtain ⟨b, off, rfl, hcell⟩ := hcl (by omega)
      have hck := hcell k hlt
      have hxl := hl _ (List.getElem_mem hlt)
      have HV := Lib.hid hv
      clear hcl hcell hv
      cases left with
      | true =>
        have IH := Lib.hid (pge_any pp h s root l[k] wr hgo.pool hr hxl)
        by_cases hge : GeS s.D true root l[k]
        · have HGE := Lib.hid hge
          clear hge
          go_wp2_with (go_at_call 217; refine IH.out.mono ?_; rintro e wX ⟨g, rfl, hg, hgo2⟩
                       obtain rfl : g = true := hg.2 (by simpa [GeS] using HGE.out)
                       clear hg)
          go_ret
          exact ⟨_, rfl, .inr ⟨l[k], List.getElem_mem hlt, rfl, HGE.out⟩, hgo.trans hgo2⟩
        · have HGE := Lib.hid hge
          clear hge
          go_wp2_with (go_at_call 217; refine IH.out.mono ?_; rintro e wX ⟨g, rfl, hg, hgo2⟩
                       obtain rfl : g = false := Bool.eq_false_iff.2 (fun e => HGE.out (by simpa [GeS] using hg.1 e))
                       clear hg)
          go_roundw
          case rel => exact ⟨k + 1, by omega, by go_num, hgo.trans hgo2, thru_past hlt HN HGE.out⟩
          case measure => simp [intOf]; omega
      | false =>
        have IH := Lib.hid (pge_any pp h s l[k] root wr hgo.pool hxl hr)
        by_cases hge : GeS s.D false root l[k]
        · have HGE := Lib.hid hge
          clear hge
          go_wp2_with (go_at_call 217; refine IH.out.mono ?_; rintro e wX ⟨g, rfl, hg, hgo2⟩
                       obtain rfl : g = true := hg.2 (by simpa [GeS] using HGE.out)
                       clear hg)
          go_ret
          exact ⟨_, rfl, .inr ⟨l[k], List.getElem_mem hlt, rfl, HGE.out⟩, hgo.trans hgo2⟩
        · have HGE := Lib.hid hge
          clear hge
          go_wp2_with (go_at_call 217; refine IH.out.mono ?_; rintro e wX ⟨g, rfl, hg, hgo2⟩
                       obtain rfl : g = false := Bool.eq_false_iff.2 (fun e => HGE.out (by simpa [GeS] using hg.1 e))
                       clear hg)
          go_roundw
          case rel => exact ⟨k + 1, by omega, by go_num, hgo.trans hgo2, thru_past hlt HN HGE.out⟩
          case measure => simp [intOf]; omega
    · have h1 : ¬ (((k : Nat) : Int) < ((l.length : Nat) : Int)) := by omega
      have hke : k = l.length := by omega
      subst hke
      go_wp2
      go_ret
      exact ⟨_, rfl, thru_end HN, hgo⟩
end
section
open Go.RowKit
open Cgt (Dag Nd vl Same Ge)

theorem PGo.side {pp h : Nat} {s s' : PSt} {w w1 w2 : World} {G : Nat → Prop} (k : PGo pp h s w s' w1) (hk : Keep G w1 w2) (hG : ∀ b, G b → w.heap.size ≤ b ∧ ¬ POwn pp h s' b ∧ ¬ s'.S b) : PGo pp h s w s' w2 :=
  ⟨k.pool.keep hk (fun b hb hg => (hG b hg).2.1 hb) (fun b hb hg => (hG b hg).2.2 hb), k.keep.trans hk (fun x hx hg => by have := (hG x hg).1; omega), k.own, k.old, k.lists, k.more, k.known⟩

def Clr (pp h : Nat) (s : PSt) (w : World) (T : Nat → Prop) : Prop := ∀ b, T b → b < w.heap.size ∧ ¬ POwn pp h s b ∧ ¬ s.S b
theorem Clr.go {w w' : World} {pp h : Nat} {s s' : PSt} {T : Nat → Prop} (o : Clr pp h s w T) (k : PGo pp h s w s' w') : Clr pp h s' w' T := fun b hb => by
  have h1 := o b hb
  have hz := k.keep.size
  refine ⟨by omega, fun h2 => ?_, fun h2 => ?_⟩
  · rcases k.own b h2 with h3 | h3
    · exact h1.2.1 h3
    · omega
  · rcases k.lists b h2 with h3 | h3
    · exact h1.2.2 h3
    · omega
theorem Clr.off {w : World} {pp h : Nat} {s : PSt} {T : Nat → Prop} (o : Clr pp h s w T) : Off pp h s w T := fun b hb => ⟨(o b hb).1, (o b hb).2.1⟩
theorem PoolAt.new {w : World} {pp h : Nat} {s : PSt} (k : PoolAt w pp h s) {b : Nat} (hb : w.heap.size ≤ b) : ¬ POwn pp h s b ∧ ¬ s.S b := ⟨fun hc => by have := k.ownLt hc; omega, fun hc => by have := k.listLt hc; omega⟩

theorem DomInv.hit {D : Dag} {left : Bool} {l : List Nat} {z : List Int} {i : Nat} (h : DomInv D left l z i 0) (hi : i < l.length) (hd : Dom D left l i) : DomInv D left l (z ++ [(i : Int)]) (i + 1) 0 := by
  have hlt : ∀ y, y ∈ z → y < i := fun y hy => by
    obtain ⟨h0, _⟩ := h.bd y hy
    obtain ⟨j, rfl⟩ : ∃ j : Nat, y = (j : Int) := ⟨y.toNat, by omega⟩
    rcases (h.mem j).1 hy with ⟨a, _⟩ | ⟨_, k', b, _⟩
    · omega
    · omega
  refine ⟨?_, fun y hy => ?_, fun j => ?_⟩
  · rw [List.pairwise_append]
    exact ⟨h.asc, by simp, fun x hx y hy => by simp at hy; subst hy; exact hlt x hx⟩
  · rcases List.mem_append.1 hy with hy | hy
    · exact h.bd y hy
    · simp at hy; omega
  · rw [List.mem_append, h.mem]
    simp only [List.mem_singleton]
    constructor
    · rintro ((⟨a, b⟩ | ⟨_, k', b, _⟩) | a)
      · exact .inl ⟨by omega, b⟩
      · omega
      · obtain rfl : j = i := by omega
        exact .inl ⟨by omega, hd⟩
    · rintro (⟨a, b⟩ | ⟨_, k', b, _⟩)
      · rcases Nat.lt_or_ge j i with c | c
        · exact .inl (.inl ⟨c, b⟩)
        · exact .inr (by omega)
      · omega
theorem DomInv.miss {D : Dag} {left : Bool} {l : List Nat} {z : List Int} {i : Nat} (h : DomInv D left l z i 0) (hd : ¬ Dom D left l i) : DomInv D left l z (i + 1) 0 := by
  refine ⟨h.asc, h.bd, fun j => ?_⟩
  rw [h.mem]
  constructor
  · rintro (⟨a, b⟩ | ⟨_, k', b, _⟩)
    · exact .inl ⟨by omega, b⟩
    · omega
  · rintro (⟨a, b⟩ | ⟨_, k', b, _⟩)
    · rcases Nat.lt_or_ge j i with c | c
      · exact .inl ⟨c, b⟩
      · obtain rfl : j = i := by omega
        exact absurd b hd
    · omega
theorem boolOf (p : Prop) : ∃ g : Bool, g = true ↔ p := by
  by_cases h : p
  · exact ⟨true, by simp [h]⟩
  · exact ⟨false, by simp [h]⟩
theorem dom_past {D : Dag} {left : Bool} {l : List Nat} {i k : Nat} (h : Hid (∀ j, j < k → ¬ DomBy D left l i j)) (hn : ¬ DomBy D left l i k) : Hid (∀ j, j < k + 1 → ¬ DomBy D left l i j) := by
  intro j hj
  by_cases e : j = k
  · subst e; exact hn
  · exact h j (by omega)
theorem dom_by {D : Dag} {left gB gW : Bool} {l : List Nat} {i k : Nat} (hi : i < l.length) (hk : k < l.length) (hne : k ≠ i) (hB : gB = true ↔ Ge (vl D l[k]) (vl D l[i])) (hW : gW = true ↔ Ge (vl D l[i]) (vl D l[k])) :
    DomBy D left l i k ↔ (if left then gB else gW) = true ∧ ((if left then gW else gB) = false ∨ k < i) := by
  unfold DomBy GeS
  simp only [List.getD, List.getElem?_eq_getElem hi, List.getElem?_eq_getElem hk, Option.getD_some]
  cases left
  · simp only [Bool.false_eq_true, if_false, ← hB, ← hW, hne, ne_eq, not_false_eq_true, true_and, Bool.not_eq_true]
  · simp only [if_true, ← hB, ← hW, hne, ne_eq, not_false_eq_true, true_and, Bool.not_eq_true]

theorem PGo.app {pp h : Nat} {s s' : PSt} {w w1 w2 : World} {X : Obj} {ov : Value} {e : TypeId} {size n : Nat} {xs : List Value} (k : PGo pp h s w s' w1) (ho : w1.ownsRow w.heap.size e size ov n xs) (hg : (w1.alloc X).grownBy w2 ov.ownBlock)
    (hc : ∀ b, ov.ownBlock = some b → ¬ POwn pp h s' b ∧ ¬ s'.S b) : PGo pp h s w s' w2 :=
  (k.ext (ext_alloc (Below.refl _ _) X)).side (keep_grownO hg) fun b hb => ⟨(ho.lt b hb).1, hc b hb⟩

def PDomPost (pp h : Nat) (s : PSt) (left : Bool) (l : List Nat) (w : World) (e : Ending) (w' : World) : Prop := ∃ v' z, e = .returned v' ∧ w'.ownsRow w.heap.size 3 1 v' z.length (z.map (Value.int .i64)) ∧ DomInv s.D left l z l.length 0 ∧ PGo pp h s w s w'
set_option maxHeartbeats 4000000 in
theorem dominated_any (pp h : Nat) (s : PSt) (left : Bool) (v : Value) (l : List Nat) (T : Nat → Prop) (w : World) (hP : PoolAt w pp h s) (hl : ∀ x, x ∈ l → x < s.D.length) (hll : l.length ≤ 1000000) (hT : Off pp h s w T) (hv : SInts T w v l) :
    Calls Tryz.prog 198 #[.pointer (some ⟨pp, 0, none⟩), v, .bool left] w (PDomPost pp h s left l w) := by
  have hds := hP.small
  obtain ⟨i0, hi0, hz0, hz1, hz2⟩ := info_parts info_int
  obtain ⟨av, cv, rfl, -⟩ := id hv.out
  rw [toZ_len] at hv ⊢
  have hown : ∀ {ov : Value} {W : World} {n : Nat} {xs : List Value}, W.ownsRow w.heap.size 3 1 ov n xs → ∀ b, ov.ownBlock = some b → ¬ POwn pp h s b ∧ ¬ s.S b := fun ho b hb => hP.new (ho.lt b hb).1
  go_enter Tryz.func198, Tryz.ntmps198
  have hr0 := own_empty w w.heap.size (Nat.le_refl _) 3
  have hx0 : Ext w (w.alloc (.cells #[] 3)) := by go_grown
  go_wp2
  generalize w.alloc (.cells #[] 3) = W0 at *
  go_loopw [7, 8, 9, 17] (fun ov _ _ ii wr => ∃ (i : Nat) (z : List Int), i ≤ l.length ∧ ii = .int .i64 ((i : Nat) : Int) ∧ wr.ownsRow w.heap.size 3 1 ov z.length (z.map (Value.int .i64)) ∧ DomInv s.D left l z i 0 ∧ PGo pp h s w s wr) (fun _ _ _ ii _ => l.length - (intOf ii).toNat)
  case atStart => exact ⟨0, [], Nat.zero_le _, rfl, hr0, DomInv.nil _ _ _, PGo.refl hP hx0⟩
  case round =>
    clear hr0 hx0
    obtain ⟨i, z, hi, rfl, hO, hI, hgo⟩ := hrel
    by_cases hlt : i < l.length
    · have h1 : ((i : Nat) : Int) < ((l.length : Nat) : Int) := by omega
      obtain ⟨-, hln, hcl⟩ := SInts.at (Sup.go hv hT hgo)
      obtain ⟨b, off, rfl, hcell⟩ := hcl (by omega)
      have hci := hcell i hlt
      have hxi := hl _ (List.getElem_mem hlt)
      have hzl := hI.len
      obtain ⟨ao, co, rfl, hco, _⟩ := own_len hO
      obtain ⟨xi, hxi'⟩ : ∃ x, x = l[i] := ⟨_, rfl⟩
      rw [← hxi'] at hci hxi
      have HXI := Lib.hid hxi'
      have HD := Lib.hid hI
      have HV := Lib.hid hv
      clear hcl hcell hxi' hI hv
      obtain ⟨wo, rfl⟩ : ∃ wo : World, wo = wr := ⟨_, rfl⟩
      go_wp2
      go_loopw [7, 10, 11, 12, 13, 24] (fun ov _ _ _ _ kk wr => ∃ k : Nat, k ≤ l.length ∧ kk = .int .i64 ((k : Nat) : Int) ∧ ov = .slice ao z.length co ∧ wr.ownsRow w.heap.size 3 1 (.slice ao z.length co) z.length (z.map (Value.int .i64)) ∧ PGo pp h s w s wr ∧ Hid (∀ j, j < k → ¬ DomBy s.D left l i j)) (fun _ _ _ _ _ kk _ => l.length - (intOf kk).toNat)
      case atStart => exact ⟨0, Nat.zero_le _, rfl, rfl, hO, hgo, fun j h => absurd h (by omega)⟩
      case round =>
        clear hO hgo hci
        obtain ⟨k, hk, rfl, rfl, hO, hgo, HN⟩ := hrel
        by_cases hkt : k < l.length
        · have h2 : ((k : Nat) : Int) < ((l.length : Nat) : Int) := by omega
          obtain ⟨-, -, hcl⟩ := SInts.at (Sup.go HV.out hT hgo)
          obtain ⟨b', off', e, hcell⟩ := hcl (by omega)
          simp only [Option.some.injEq, Addr.mk.injEq, and_true] at e
          obtain ⟨rfl, rfl⟩ := e
          have hck := hcell k hkt
          have hxk := hl _ (List.getElem_mem hkt)
          by_cases hki : k = i
          · subst hki
            clear hcl hcell
            go_wp2
            go_roundw
            case rel => exact ⟨k + 1, by omega, by go_num, rfl, hO, hgo, dom_past HN (fun h => h.1 rfl)⟩
            case measure => simp [intOf]; omega
          · have h3 : ((k : Int) == (i : Int)) = false := by simp; omega
            obtain ⟨xk, hxk'⟩ : ∃ x, x = l[k] := ⟨_, rfl⟩
            rw [← hxk'] at hck hxk
            obtain ⟨gB, hB⟩ : ∃ g : Bool, g = true ↔ Ge (vl s.D xk) (vl s.D xi) := boolOf _
            obtain ⟨gW, hW⟩ : ∃ g : Bool, g = true ↔ Ge (vl s.D xi) (vl s.D xk) := boolOf _
            have HDB := Lib.hid (dom_by (left := left) hlt hkt hki (by rw [← hxk', ← HXI.out]; exact hB) (by rw [← hxk', ← HXI.out]; exact hW))
            have q1 : ∀ W, PGo pp h s w s W → Calls Tryz.prog 217 #[.pointer (some ⟨pp, 0, none⟩), .int .i64 (xk : Int), .int .i64 (xi : Int)] W fun e W' => e = .returned (.bool gB) ∧ PGo pp h s w s W' ∧ PGo pp h s W s W' := fun W hW' => (pge_any pp h s xk xi W hW'.pool hxk hxi).mono (by rintro e W' ⟨g, rfl, hg, hg2⟩; exact ⟨by rw [Bool.eq_iff_iff.2 (hg.trans hB.symm)], hW'.trans hg2, hg2⟩)
            have q2 : ∀ W, PGo pp h s w s W → Calls Tryz.prog 217 #[.pointer (some ⟨pp, 0, none⟩), .int .i64 (xi : Int), .int .i64 (xk : Int)] W fun e W' => e = .returned (.bool gW) ∧ PGo pp h s w s W' ∧ PGo pp h s W s W' := fun W hW' => (pge_any pp h s xi xk W hW'.pool hxi hxk).mono (by rintro e W' ⟨g, rfl, hg, hg2⟩; exact ⟨by rw [Bool.eq_iff_iff.2 (hg.trans hW.symm)], hW'.trans hg2, hg2⟩)
            have Q1 := Lib.hid q1
            have Q2 := Lib.hid q2
            clear hcl hcell hB hW q1 q2 hxk'
            have hno := hown hO
            go_upto_region 10 with (first
              | (go_at_call 217; refine (Q2.out _ hgo1).mono ?_; rintro e w2 ⟨rfl, hgo2, hst2⟩)
              | (go_at_call 217; refine (Q1.out _ hgo).mono ?_; rintro e w1 ⟨rfl, hgo1, hst1⟩))
            have hO2 := own_keepG (own_keepG hO hst1.keep (fun b hb => (hno b hb).1)) hst2.keep (fun b hb => (hno b hb).1)
            clear hO hgo hgo1 hst1 hst2
            rcases Nat.lt_or_ge k i with hki2 | hki2
            · have h4 : ((k : Nat) : Int) < ((i : Nat) : Int) := by omega
              cases left with
              | true =>
                cases gB with
                | true =>
                  cases gW with
                  | true =>
                    have hd := Lib.hid (show Dom s.D _ l i from ⟨k, hkt, HDB.out.2 (by simp <;> omega)⟩)
                    go_wp2_with (at_builtin; refine app_list rfl (.tmp 54) (.tmp 56) 80 rfl w.heap.size 3 i0 (.int .i64 0) 1 8 Tryz.underlying80 hi0 hz0 hz1 hz2 rfl (by decide) (.slice ao z.length co) z.length (z.map (Value.int .i64)) rfl (hO2.alloc _) _ 1 _ [.int .i64 (i : Int)] rfl rfl (.inr ⟨_, rfl, one_src (new_cell _ _ _)⟩) one_cell (by unfold maxLen; omega) (by omega) (by rw [World.size_alloc]; have := hgo2.keep.size; omega) ?_; intro v5 w5 ho5 hg5 hl5)
                    go_roundw
                    case rel => exact ⟨i + 1, z ++ [(i : Int)], by omega, by go_num, by rw [List.length_append, List.map_append]; exact ho5, DomInv.hit HD.out hlt hd.out, PGo.app hgo2 hO2 hg5 (hown hO2)⟩
                    case measure => simp [intOf]; omega
                  | false =>
                    have hd := Lib.hid (show Dom s.D _ l i from ⟨k, hkt, HDB.out.2 (by simp <;> omega)⟩)
                    go_wp2_with (at_builtin; refine app_list rfl (.tmp 54) (.tmp 56) 80 rfl w.heap.size 3 i0 (.int .i64 0) 1 8 Tryz.underlying80 hi0 hz0 hz1 hz2 rfl (by decide) (.slice ao z.length co) z.length (z.map (Value.int .i64)) rfl (hO2.alloc _) _ 1 _ [.int .i64 (i : Int)] rfl rfl (.inr ⟨_, rfl, one_src (new_cell _ _ _)⟩) one_cell (by unfold maxLen; omega) (by omega) (by rw [World.size_alloc]; have := hgo2.keep.size; omega) ?_; intro v5 w5 ho5 hg5 hl5)
                    go_roundw
                    case rel => exact ⟨i + 1, z ++ [(i : Int)], by omega, by go_num, by rw [List.length_append, List.map_append]; exact ho5, DomInv.hit HD.out hlt hd.out, PGo.app hgo2 hO2 hg5 (hown hO2)⟩
                    case measure => simp [intOf]; omega
                | false =>
                  cases gW with
                  | true =>
                    have hn := Lib.hid (show ¬ DomBy s.D _ l i k by intro h; have := HDB.out.1 h; simp at this <;> omega)
                    go_wp2
                    go_roundw
                    case rel => exact ⟨k + 1, by omega, by go_num, rfl, hO2, hgo2, dom_past HN hn.out⟩
                    case measure => simp [intOf]; omega
                  | false =>
                    have hn := Lib.hid (show ¬ DomBy s.D _ l i k by intro h; have := HDB.out.1 h; simp at this <;> omega)
                    go_wp2
                    go_roundw
                    case rel => exact ⟨k + 1, by omega, by go_num, rfl, hO2, hgo2, dom_past HN hn.out⟩
                    case measure => simp [intOf]; omega
              | false =>
                cases gB with
                | true =>
                  cases gW with
                  | true =>
                    have hd := Lib.hid (show Dom s.D _ l i from ⟨k, hkt, HDB.out.2 (by simp <;> omega)⟩)
                    go_wp2_with (at_builtin; refine app_list rfl (.tmp 54) (.tmp 56) 80 rfl w.heap.size 3 i0 (.int .i64 0) 1 8 Tryz.underlying80 hi0 hz0 hz1 hz2 rfl (by decide) (.slice ao z.length co) z.length (z.map (Value.int .i64)) rfl (hO2.alloc _) _ 1 _ [.int .i64 (i : Int)] rfl rfl (.inr ⟨_, rfl, one_src (new_cell _ _ _)⟩) one_cell (by unfold maxLen; omega) (by omega) (by rw [World.size_alloc]; have := hgo2.keep.size; omega) ?_; intro v5 w5 ho5 hg5 hl5)
                    go_roundw
                    case rel => exact ⟨i + 1, z ++ [(i : Int)], by omega, by go_num, by rw [List.length_append, List.map_append]; exact ho5, DomInv.hit HD.out hlt hd.out, PGo.app hgo2 hO2 hg5 (hown hO2)⟩
                    case measure => simp [intOf]; omega
                  | false =>
                    have hn := Lib.hid (show ¬ DomBy s.D _ l i k by intro h; have := HDB.out.1 h; simp at this <;> omega)
                    go_wp2
                    go_roundw
                    case rel => exact ⟨k + 1, by omega, by go_num, rfl, hO2, hgo2, dom_past HN hn.out⟩
                    case measure => simp [intOf]; omega
                | false =>
                  cases gW with
                  | true =>
                    have hd := Lib.hid (show Dom s.D _ l i from ⟨k, hkt, HDB.out.2 (by simp <;> omega)⟩)
                    go_wp2_with (at_builtin; refine app_list rfl (.tmp 54) (.tmp 56) 80 rfl w.heap.size 3 i0 (.int .i64 0) 1 8 Tryz.underlying80 hi0 hz0 hz1 hz2 rfl (by decide) (.slice ao z.length co) z.length (z.map (Value.int .i64)) rfl (hO2.alloc _) _ 1 _ [.int .i64 (i : Int)] rfl rfl (.inr ⟨_, rfl, one_src (new_cell _ _ _)⟩) one_cell (by unfold maxLen; omega) (by omega) (by rw [World.size_alloc]; have := hgo2.keep.size; omega) ?_; intro v5 w5 ho5 hg5 hl5)
                    go_roundw
                    case rel => exact ⟨i + 1, z ++ [(i : Int)], by omega, by go_num, by rw [List.length_append, List.map_append]; exact ho5, DomInv.hit HD.out hlt hd.out, PGo.app hgo2 hO2 hg5 (hown hO2)⟩
                    case measure => simp [intOf]; omega
                  | false =>
                    have hn := Lib.hid (show ¬ DomBy s.D _ l i k by intro h; have := HDB.out.1 h; simp at this <;> omega)
                    go_wp2
                    go_roundw
                    case rel => exact ⟨k + 1, by omega, by go_num, rfl, hO2, hgo2, dom_past HN hn.out⟩
                    case measure => simp [intOf]; omega
            · have h4 : ¬ (((k : Nat) : Int) < ((i : Nat) : Int)) := by omega
              cases left with
              | true =>
                cases gB with
                | true =>
                  cases gW with
                  | true =>
                    have hn := Lib.hid (show ¬ DomBy s.D _ l i k by intro h; have := HDB.out.1 h; simp at this <;> omega)
                    go_wp2
                    go_roundw
                    case rel => exact ⟨k + 1, by omega, by go_num, rfl, hO2, hgo2, dom_past HN hn.out⟩
                    case measure => simp [intOf]; omega
                  | false =>
                    have hd := Lib.hid (show Dom s.D _ l i from ⟨k, hkt, HDB.out.2 (by simp <;> omega)⟩)
                    go_wp2_with (at_builtin; refine app_list rfl (.tmp 54) (.tmp 56) 80 rfl w.heap.size 3 i0 (.int .i64 0) 1 8 Tryz.underlying80 hi0 hz0 hz1 hz2 rfl (by decide) (.slice ao z.length co) z.length (z.map (Value.int .i64)) rfl (hO2.alloc _) _ 1 _ [.int .i64 (i : Int)] rfl rfl (.inr ⟨_, rfl, one_src (new_cell _ _ _)⟩) one_cell (by unfold maxLen; omega) (by omega) (by rw [World.size_alloc]; have := hgo2.keep.size; omega) ?_; intro v5 w5 ho5 hg5 hl5)
                    go_roundw
                    case rel => exact ⟨i + 1, z ++ [(i : Int)], by omega, by go_num, by rw [List.length_append, List.map_append]; exact ho5, DomInv.hit HD.out hlt hd.out, PGo.app hgo2 hO2 hg5 (hown hO2)⟩
                    case measure => simp [intOf]; omega
                | false =>
                  cases gW with
                  | true =>
                    have hn := Lib.hid (show ¬ DomBy s.D _ l i k by intro h; have := HDB.out.1 h; simp at this <;> omega)
                    go_wp2
                    go_roundw
                    case rel => exact ⟨k + 1, by omega, by go_num, rfl, hO2, hgo2, dom_past HN hn.out⟩
                    case measure => simp [intOf]; omega
                  | false =>
                    have hn := Lib.hid (show ¬ DomBy s.D _ l i k by intro h; have := HDB.out.1 h; simp at this <;> omega)
                    go_wp2
                    go_roundw
                    case rel => exact ⟨k + 1, by omega, by go_num, rfl, hO2, hgo2, dom_past HN hn.out⟩
                    case measure => simp [intOf]; omega
              | false =>
                cases gB with
                | true =>
                  cases gW with
                  | true =>
                    have hn := Lib.hid (show ¬ DomBy s.D _ l i k by intro h; have := HDB.out.1 h; simp at this <;> omega)
                    go_wp2
                    go_roundw
                    case rel => exact ⟨k + 1, by omega, by go_num, rfl, hO2, hgo2, dom_past HN hn.out⟩
                    case measure => simp [intOf]; omega
                  | false =>
                    have hn := Lib.hid (show ¬ DomBy s.D _ l i k by intro h; have := HDB.out.1 h; simp at this <;> omega)
                    go_wp2
                    go_roundw
                    case rel => exact ⟨k + 1, by omega, by go_num, rfl, hO2, hgo2, dom_past HN hn.out⟩
                    case measure => simp [intOf]; omega
                | false =>
                  cases gW with
                  | true =>
                    have hd := Lib.hid (show Dom s.D _ l i from ⟨k, hkt, HDB.out.2 (by simp <;> omega)⟩)
                    go_wp2_with (at_builtin; refine app_list rfl (.tmp 54) (.tmp 56) 80 rfl w.heap.size 3 i0 (.int .i64 0) 1 8 Tryz.underlying80 hi0 hz0 hz1 hz2 rfl (by decide) (.slice ao z.length co) z.length (z.map (Value.int .i64)) rfl (hO2.alloc _) _ 1 _ [.int .i64 (i : Int)] rfl rfl (.inr ⟨_, rfl, one_src (new_cell _ _ _)⟩) one_cell (by unfold maxLen; omega) (by omega) (by rw [World.size_alloc]; have := hgo2.keep.size; omega) ?_; intro v5 w5 ho5 hg5 hl5)
                    go_roundw
                    case rel => exact ⟨i + 1, z ++ [(i : Int)], by omega, by go_num, by rw [List.length_append, List.map_append]; exact ho5, DomInv.hit HD.out hlt hd.out, PGo.app hgo2 hO2 hg5 (hown hO2)⟩
                    case measure => simp [intOf]; omega
                  | false =>
                    have hn := Lib.hid (show ¬ DomBy s.D _ l i k by intro h; have := HDB.out.1 h; simp at this <;> omega)
                    go_wp2
                    go_roundw
                    case rel => exact ⟨k + 1, by omega, by go_num, rfl, hO2, hgo2, dom_past HN hn.out⟩
                    case measure => simp [intOf]; omega
        · have h2 : ¬ (((k : Nat) : Int) < ((l.length : Nat) : Int)) := by omega
          have hke : k = l.length := by omega
          subst hke
          have HNE := Lib.hid (show ¬ Dom s.D left l i from fun ⟨j, hj, hd⟩ => HN j hj hd)
          go_wp2
          go_roundw
          case rel => exact ⟨i + 1, z, by omega, by go_num, hO, DomInv.miss HD.out HNE.out, hgo⟩
          case measure => simp [intOf]; omega
    · have h1 : ¬ (((i : Nat) : Int) < ((l.length : Nat) : Int)) := by omega
      have hke : i = l.length := by omega
      subst hke
      go_wp2
      go_ret
      exact ⟨_, z, rfl, hO, hI, hgo⟩
end
end Go.Proofs.YteknjeohbcgpdaaGreatDoor
