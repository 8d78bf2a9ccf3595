/-
  Memory of the program's reduced; what it yields; the law of canon. (2 texts.)
-/
import Derived.Test.YteknjeohbcgpdaaGreatDoorY5
import Derived.Test.YteknjeohbcgpdaaGreatDoorY19
import Derived.Test.YteknjeohbcgpdaaGreatDoorY21
import Derived.Test.YteknjeohbcgpdaaGreatDoorY30
set_option maxRecDepth 100000
namespace Go.Proofs.YteknjeohbcgpdaaGreatDoor
section
open Go.RowKit

theorem wo_has {z : List Int} (ha : z.Pairwise (· < ·)) {d k : Nat} (h1 : ∀ y, y ∈ z.take d → y < (k : Int)) (h2 : ∀ y, y ∈ z.drop d → (k : Int) ≤ y) : hasZ z (k : Int) = true ↔ ∃ zs, z.drop d = (k : Int) :: zs := by
  unfold hasZ
  rw [decide_eq_true_iff]
  constructor
  · intro h
    rw [← List.take_append_drop d z] at h
    rcases List.mem_append.1 h with h | h
    · have := h1 _ h; omega
    · cases hd : z.drop d with
      | nil => rw [hd] at h; cases h
      | cons y zs =>
        rw [hd] at h
        rcases List.mem_cons.1 h with h | h
        · exact ⟨zs, by rw [h]⟩
        · have hp := ha.sublist (List.drop_sublist d z)
          rw [hd] at hp
          have q1 := (List.pairwise_cons.1 hp).1 _ h
          have q2 := h2 y (by rw [hd]; simp)
          omega
  · rintro ⟨zs, e⟩
    exact List.mem_of_mem_drop (i := d) (by rw [e]; simp)
theorem wo_next1 {z : List Int} (ha : z.Pairwise (· < ·)) {d k : Nat} {zs : List Int} (h1 : ∀ y, y ∈ z.take d → y < (k : Int)) (e : z.drop d = (k : Int) :: zs) : z.drop (d + 1) = zs ∧ (∀ y, y ∈ z.take (d + 1) → y < ((k + 1 : Nat) : Int)) ∧ ∀ y, y ∈ z.drop (d + 1) → ((k + 1 : Nat) : Int) ≤ y := by
  have e1 : z.drop (d + 1) = zs := by rw [← List.drop_drop, e]; rfl
  refine ⟨e1, fun y hy => ?_, fun y hy => ?_⟩
  · have hlt : d < z.length := by
      rcases Nat.lt_or_ge d z.length with c | c
      · exact c
      · rw [List.drop_eq_nil_of_le c] at e; cases e
    rw [List.take_succ_eq_append_getElem hlt] at hy
    rcases List.mem_append.1 hy with hy | hy
    · have := h1 y hy; omega
    · simp at hy
      have : z[d] = (k : Int) := by
        have q := List.drop_eq_getElem_cons hlt
        rw [e] at q; injection q with q; exact q.symm
      omega
  · rw [e1] at hy
    have hp := ha.sublist (List.drop_sublist d z)
    rw [e] at hp
    have := (List.pairwise_cons.1 hp).1 y hy
    omega
theorem wo_next0 {z : List Int} {d k : Nat} (h1 : ∀ y, y ∈ z.take d → y < (k : Int)) (h2 : ∀ y, y ∈ z.drop d → (k : Int) ≤ y) (hn : hasZ z (k : Int) = false) : (∀ y, y ∈ z.take d → y < ((k + 1 : Nat) : Int)) ∧ ∀ y, y ∈ z.drop d → ((k + 1 : Nat) : Int) ≤ y := by
  refine ⟨fun y hy => by have := h1 y hy; omega, fun y hy => ?_⟩
  have := h2 y hy
  have hne : y ≠ (k : Int) := fun e => by
    subst e
    have : hasZ z (k : Int) = true := by unfold hasZ; rw [decide_eq_true_iff]; exact List.mem_of_mem_drop hy
    rw [this] at hn; cases hn
  omega

def WoPost (l z : List Int) (w : World) (e : Ending) (w' : World) : Prop := ∃ v', e = .returned v' ∧ w'.ownsRow w.heap.size 3 1 v' (withoutZ l z).length ((withoutZ l z).map (Value.int .i64)) ∧ Ext w w'

theorem ints_tail {w : World} {b off q cap : Nat} {y : Int} {zs : List Int} (h : Ints w (.slice (some ⟨b, off, none⟩) (q + 1) cap) (y :: zs)) : Ints w (.slice (some ⟨b, off + 1, none⟩) q (cap - 1)) zs := by
  obtain ⟨a, c, e, h1, h2, h3⟩ := h
  simp only [Value.slice.injEq, List.length_cons, Nat.add_right_cancel_iff] at e
  obtain ⟨rfl, rfl, rfl⟩ := e
  simp only [List.length_cons] at h1 h2 h3
  obtain ⟨b', off', e, hc⟩ := h3 (by omega)
  simp only [Option.some.injEq, Addr.mk.injEq, and_true] at e
  obtain ⟨rfl, rfl⟩ := e
  refine ⟨_, _, rfl, by omega, by omega, fun _ => ⟨_, _, rfl, fun i hi => ?_⟩⟩
  have := hc (i + 1) (by omega)
  rw [show off + 1 + i = off + (i + 1) by omega, this]
  simp [zat]

set_option maxHeartbeats 2000000 in
theorem without_any (v u : Value) (l z : List Int) (w : World) (h : Ints w v l) (g : Ints w u z) (hz : z.Pairwise (· < ·)) (hz0' : ∀ y, y ∈ z → 0 ≤ y) (hsz : l.length ≤ 1000000000) :
    Calls Tryz.prog 197 #[v, u] w (WoPost l z w) := by
  obtain ⟨a, cap, rfl, hlc, hcap, hc⟩ := h
  obtain ⟨i0, hi, hz0, hz1, hz2⟩ := info_parts info_int
  go_enter Tryz.func197, Tryz.ntmps197
  go_wp2
  go_loopw [1, 5, 6, 7, 11] (fun pv o _ _ i wr => ∃ k d : Nat, k ≤ l.length ∧ i = .int .i64 k ∧ wr.ownsRow w.heap.size 3 1 o (woK l z k).length ((woK l z k).map (Value.int .i64)) ∧ Ext w wr ∧ Ints w pv (z.drop d) ∧ (∀ y, y ∈ z.take d → y < (k : Int)) ∧ ∀ y, y ∈ z.drop d → (k : Int) ≤ y) (fun _ _ _ _ i _ => l.length - (intOf i).toNat)
  case atStart => exact ⟨0, 0, Nat.zero_le _, rfl, own_empty w _ (Nat.le_refl _) _, (Below.refl _ _).alloc (Nat.le_refl _) _, g, by simp, fun y hy => hz0' y (by simpa using hy)⟩
  case round =>
    obtain ⟨k, d, hk, rfl, hown, hext, hI, hT, hD⟩ := hrel
    by_cases hlt : k < l.length
    · obtain ⟨b, off, rfl, hcell⟩ := hc (by omega)
      have hck := hcell k hlt
      have hck1 := (hext.cell (lt_of_cell hck)).trans hck
      have hwl := woK_len l z k
      obtain ⟨ao, co, rfl, _, _⟩ := own_len hown
      clear hcell hc hck
      by_cases hin : hasZ z (k : Int) = true
      · obtain ⟨zs, e⟩ := (wo_has hz hT hD).1 hin
        have HW := Lib.hid (woK_in l z k hin)
        have HN := Lib.hid (wo_next1 hz hT e)
        rw [e] at hI
        have HI := Lib.hid hI
        obtain ⟨pa, pc, rfl, hpc, hpl, hpcell⟩ := hI
        obtain ⟨q, hq⟩ : ∃ q, q = zs.length := ⟨_, rfl⟩
        have hq1 : ((k : Int) :: zs).length = q + 1 := by rw [hq]; rfl
        rw [hq1] at hpc hpl hpcell HI ⊢
        obtain ⟨bp, op, rfl, hcp⟩ := hpcell (by omega)
        have hc0 := (hext.cell (lt_of_cell (hcp 0 (by omega)))).trans (hcp 0 (by omega))
        have e0 : zat ((k : Int) :: zs) 0 = (k : Int) := by simp [zat]
        rw [e0, Nat.add_zero] at hc0
        have HZ := Lib.hid hz
        have HQ := Lib.hid hq
        clear hcp hpcell e e0 hin hT hD hz hq1 hq
        by_cases hq0 : q = 0
        · subst hq0
          go_wp2
          go_roundw
          case rel => exact ⟨k + 1, d + 1, by omega, by go_num, by rw [HW.out]; exact hown, hext, by rw [HN.out.1, List.eq_nil_of_length_eq_zero HQ.out.symm]; exact Ints.nil _ _ _, HN.out.2.1, HN.out.2.2⟩
          case measure => simp [intOf]; omega
        · have hq1 : ¬ (q + 1 = 1) := by omega
          go_wp2
          go_roundw
          case rel => exact ⟨k + 1, d + 1, by omega, by go_num, by rw [HW.out]; exact hown, hext, by rw [HN.out.1]; exact ints_tail HI.out, HN.out.2.1, HN.out.2.2⟩
          case measure => simp [intOf]; omega
      · have hin' : hasZ z (k : Int) = false := by simpa using hin
        have HW := Lib.hid (woK_out l z k hin')
        have HN := Lib.hid (wo_next0 hT hD hin')
        have HI := Lib.hid hI
        have HZ := Lib.hid hz
        obtain ⟨pa, pc, rfl, hpc, hpl, hpcell⟩ := hI
        cases hd : z.drop d with
        | nil =>
          rw [hd] at HI
          clear hpcell hT hD hin hz
          go_wp2_with (at_builtin; refine app_list rfl (.tmp 28) (.tmp 30) 80 rfl w.heap.size 3 i0 (.int .i64 0) 1 8 Tryz.underlying80 hi hz0 hz1 hz2 rfl (by decide) (.slice ao (woK l z k).length co) _ _ rfl (hown.alloc _) _ 1 _ [Value.int .i64 (zat l k)] rfl rfl (.inr ⟨_, rfl, one_src (new_cell _ _ _)⟩) one_cell (by unfold maxLen; omega) (by omega) (by have := hext.size; simp; omega) ?_; intro v1 w1 ho1 hg1 _)
          go_roundw
          case rel =>
            refine ⟨k + 1, d, by omega, by go_num, ?_, ext_app hext hown hg1, by rw [hd]; exact HI.out, HN.out.1, HN.out.2⟩
            rw [HW.out]; simpa using ho1
          case measure => simp [intOf]; omega
        | cons y zs =>
          rw [hd] at HI hpc hpl hpcell
          have hyk : ¬ (y = (k : Int)) := fun e => by
            have := (wo_has HZ.out hT hD).2 ⟨zs, by rw [hd, e]⟩
            rw [hin'] at this; cases this
          have hyk' : (y == (k : Int)) = false := by simpa using hyk
          obtain ⟨q, hq⟩ : ∃ q, q = zs.length := ⟨_, rfl⟩
          have hq1 : (y :: zs).length = q + 1 := by rw [hq]; rfl
          rw [hq1] at hpc hpl hpcell HI ⊢
          obtain ⟨bp, op, rfl, hcp⟩ := hpcell (by omega)
          have hc0 := (hext.cell (lt_of_cell (hcp 0 (by omega)))).trans (hcp 0 (by omega))
          have e0 : zat (y :: zs) 0 = y := by simp [zat]
          rw [e0, Nat.add_zero] at hc0
          have HQ := Lib.hid hd
          clear hpcell hcp e0 hT hD hin hz hq1 hq hyk hd
          go_wp2_with (at_builtin; refine app_list rfl (.tmp 28) (.tmp 30) 80 rfl w.heap.size 3 i0 (.int .i64 0) 1 8 Tryz.underlying80 hi hz0 hz1 hz2 rfl (by decide) (.slice ao (woK l z k).length co) _ _ rfl (hown.alloc _) _ 1 _ [Value.int .i64 (zat l k)] rfl rfl (.inr ⟨_, rfl, one_src (new_cell _ _ _)⟩) one_cell (by unfold maxLen; omega) (by omega) (by have := hext.size; simp; omega) ?_; intro v1 w1 ho1 hg1 _)
          go_roundw
          case rel =>
            refine ⟨k + 1, d, by omega, by go_num, ?_, ext_app hext hown hg1, by rw [HQ.out]; exact HI.out, HN.out.1, HN.out.2⟩
            rw [HW.out]; simpa using ho1
          case measure => simp [intOf]; omega
    · go_wp2
      go_ret
      have e : k = l.length := by omega
      subst e
      exact ⟨_, rfl, hown, hext⟩
end
section
open Go.RowKit
open Cgt (Dag Nd vl Same Ge)

theorem own_of {w : World} {B e n : Nat} {v : Value} {l : List Nat} {m : Nat} {ys : List Value} (h : w.ownsRow B e 1 v n ys) (hn : n = m) (hy : ys = (toZ l).map (Value.int .i64)) : w.ownsRow B e 1 v m ((toZ l).map (Value.int .i64)) := by subst hn; rw [← hy]; exact h
theorem toZ_app (a b : List Nat) : toZ (a ++ b) = toZ a ++ toZ b := by simp [toZ]

structure RedMem (pp h : Nat) (s : PSt) (w wr : World) (mb : Nat) (qv kv : Value) (q B line : List Nat) : Prop where
  q : wr.ownsRow w.heap.size 3 1 qv q.length ((toZ q).map (Value.int .i64))
  k : wr.ownsRow w.heap.size 3 1 kv B.length ((toZ B).map (Value.int .i64))
  seen : ∃ f, MapIs Tryz.prog 3 wr mb line.length f ∧ ∀ x : Nat, f (.int .i64 (x : Int)) = if x ∈ line then some (.bool true) else none
  mb0 : w.heap.size ≤ mb
  a1 : qv.ownBlock ≠ some mb
  a2 : kv.ownBlock ≠ some mb
  a3 : ∀ b, qv.ownBlock = some b → kv.ownBlock ≠ some b
  clr : Clr pp h s wr (fun b => b = mb ∨ qv.ownBlock = some b ∨ kv.ownBlock = some b)

theorem RedMem.keep {pp h : Nat} {s s' : PSt} {w wr w2 : World} {mb : Nat} {qv kv : Value} {q B line : List Nat} {G : Nat → Prop} (m : RedMem pp h s w wr mb qv kv q B line) (hk : Keep G wr w2) (hG : ∀ b, b = mb ∨ qv.ownBlock = some b ∨ kv.ownBlock = some b → ¬ G b)
    (hc : Clr pp h s' w2 (fun b => b = mb ∨ qv.ownBlock = some b ∨ kv.ownBlock = some b)) : RedMem pp h s' w w2 mb qv kv q B line := by
  obtain ⟨f, f1, f2⟩ := m.seen
  exact ⟨own_keepG m.q hk (fun b hb => hG b (.inr (.inl hb))), own_keepG m.k hk (fun b hb => hG b (.inr (.inr hb))), ⟨f, f1.keep (hk.block _ f1.lt (hG mb (.inl rfl))), f2⟩, m.mb0, m.a1, m.a2, m.a3, hc⟩
theorem RedMem.go {pp h : Nat} {s s' : PSt} {w wr w2 : World} {mb : Nat} {qv kv : Value} {q B line : List Nat} (m : RedMem pp h s w wr mb qv kv q B line) (g : PGo pp h s wr s' w2) : RedMem pp h s' w w2 mb qv kv q B line :=
  m.keep g.keep (fun b hb => (m.clr b hb).2.1) (m.clr.go g)
theorem Clr.ext {pp h : Nat} {s : PSt} {w w' : World} {T : Nat → Prop} (c : Clr pp h s w T) (hx : Ext w w') : Clr pp h s w' T := fun b hb => ⟨Nat.lt_of_lt_of_le (c b hb).1 hx.size, (c b hb).2⟩
theorem RedMem.ext {pp h : Nat} {s : PSt} {w wr w2 : World} {mb : Nat} {qv kv : Value} {q B line : List Nat} (m : RedMem pp h s w wr mb qv kv q B line) (hx : Ext wr w2) : RedMem pp h s w w2 mb qv kv q B line :=
  m.keep (keep_ext (F := fun _ => False) hx) (fun _ _ => id) (m.clr.ext hx)

theorem RedMem.push {pp h : Nat} {s : PSt} {w wr wa w2 : World} {mb : Nat} {qv qv' kv : Value} {q news B line : List Nat} {n : Nat} {ys : List Value} (m : RedMem pp h s w wr mb qv kv q B line) (hP : PoolAt wr pp h s) (hx : Ext wr wa) (hg : wa.grownBy w2 qv.ownBlock)
    (ho : w2.ownsRow w.heap.size 3 1 qv' n ys) (hn : n = (q ++ news).length) (hy : ys = (toZ (q ++ news)).map (Value.int .i64)) (hl : Lies wa qv qv') : RedMem pp h s w w2 mb qv' kv (q ++ news) B line := by
  have hz := hx.size
  have hz2 := hg.size
  have hL : ∀ b, qv'.ownBlock = some b → qv.ownBlock = some b ∨ wr.heap.size ≤ b := fun b hb => by
    rcases hl with e | ⟨g, e, k⟩
    · exact .inl (e ▸ hb)
    · rw [e] at hb; injection hb with hb; exact .inr (by omega)
  have m1 := m.ext hx
  obtain ⟨f, f1, f2⟩ := m1.seen
  have hkg := keep_grownO hg
  have hcm := m.clr
  refine ⟨own_of ho hn hy, own_keepG m1.k hkg (fun b hb hq => m.a3 b hq hb), ⟨f, f1.keep (hkg.block _ f1.lt (fun e => m.a1 e)), f2⟩, m.mb0, fun e => ?_, m.a2, fun b hb hc => ?_, fun b hb => ?_⟩
  · rcases hL mb e with h1 | h1
    · exact m.a1 h1
    · have := (hcm mb (.inl rfl)).1; omega
  · rcases hL b hb with h1 | h1
    · exact m.a3 b h1 hc
    · have := (hcm b (.inr (.inr hc))).1; omega
  · have hlt := ho.lt
    rcases hb with rfl | hb | hb
    · have := hcm _ (.inl rfl); exact ⟨by omega, this.2⟩
    · refine ⟨(hlt b hb).2, ?_⟩
      rcases hL b hb with h1 | h1
      · exact (hcm b (.inr (.inl h1))).2
      · exact hP.new h1
    · have := hcm b (.inr (.inr hb)); exact ⟨by omega, this.2⟩

theorem RedMem.add {pp h : Nat} {s : PSt} {w wr wa w2 : World} {mb : Nat} {qv kv kv' : Value} {q B line : List Nat} {i n : Nat} {ys : List Value} (m : RedMem pp h s w wr mb qv kv q B line) (hP : PoolAt wr pp h s) (hx : Ext wr wa) (hg : wa.grownBy w2 kv.ownBlock)
    (ho : w2.ownsRow w.heap.size 3 1 kv' n ys) (hn : n = (B ++ [i]).length) (hy : ys = (toZ (B ++ [i])).map (Value.int .i64)) (hl : Lies wa kv kv') : RedMem pp h s w w2 mb qv kv' q (B ++ [i]) line := by
  have hz := hx.size
  have hz2 := hg.size
  have hL : ∀ b, kv'.ownBlock = some b → kv.ownBlock = some b ∨ wr.heap.size ≤ b := fun b hb => by
    rcases hl with e | ⟨g, e, k⟩
    · exact .inl (e ▸ hb)
    · rw [e] at hb; injection hb with hb; exact .inr (by omega)
  have m1 := m.ext hx
  obtain ⟨f, f1, f2⟩ := m1.seen
  have hkg := keep_grownO hg
  have hcm := m.clr
  refine ⟨own_keepG m1.q hkg (fun b hb hq => m.a3 b hb hq), own_of ho hn hy, ⟨f, f1.keep (hkg.block _ f1.lt (fun e => m.a2 e)), f2⟩, m.mb0, m.a1, fun e => ?_, fun b hb hc => ?_, fun b hb => ?_⟩
  · rcases hL mb e with h1 | h1
    · exact m.a2 h1
    · have := (hcm mb (.inl rfl)).1; omega
  · rcases hL b hc with h1 | h1
    · exact m.a3 b hb h1
    · have := (hcm b (.inr (.inl hb))).1; omega
  · have hlt := ho.lt
    rcases hb with rfl | hb | hb
    · have := hcm _ (.inl rfl); exact ⟨by omega, this.2⟩
    · have := hcm b (.inr (.inl hb)); exact ⟨by omega, this.2⟩
    · refine ⟨(hlt b hb).2, ?_⟩
      rcases hL b hb with h1 | h1
      · exact (hcm b (.inr (.inr h1))).2
      · exact hP.new h1

theorem RedMem.mark {pp h : Nat} {s : PSt} {w wr w2 : World} {mb : Nat} {qv kv : Value} {q B line : List Nat} {i : Nat} {f : Value → Option Value} (m : RedMem pp h s w wr mb qv kv q B line) (hf : ∀ x : Nat, f (.int .i64 (x : Int)) = if x ∈ line then some (.bool true) else none)
    (hM : MapIs Tryz.prog 3 w2 mb (line.length + 1) (upd (fun _ _ => Classical.propDecidable _) f (.int .i64 (i : Int)) (.bool true))) (hg : wr.grownBy w2 (some mb)) : RedMem pp h s w w2 mb qv kv q B (line ++ [i]) := by
  have hk := keep_grown hg
  have hz := hg.size
  refine ⟨own_keepG m.q hk (fun b hb e => m.a1 (e ▸ hb)), own_keepG m.k hk (fun b hb e => m.a2 (e ▸ hb)), ⟨_, by rw [List.length_append]; exact hM, fun x => ?_⟩, m.mb0, m.a1, m.a2, m.a3, fun b hb => ⟨by have := (m.clr b hb).1; omega, (m.clr b hb).2⟩⟩
  by_cases e : x = i
  · subst e; rw [upd_same]; simp
  · rw [upd_ne (by simp; omega), hf x]; simp [e]

theorem RedMem.pop {pp h : Nat} {s : PSt} {w wr : World} {mb g c : Nat} {kv : Value} {q B line : List Nat} {i : Nat} (m : RedMem pp h s w wr mb (.slice (some ⟨g, 0, none⟩) (q ++ [i]).length c) kv (q ++ [i]) B line) : RedMem pp h s w wr mb (.slice (some ⟨g, 0, none⟩) q.length c) kv q B line := by
  refine ⟨?_, m.k, m.seen, m.mb0, m.a1, m.a2, m.a3, m.clr⟩
  have := own_shrink (k := q.length) m.q (by simp)
  rw [toZ_app, List.take_append_of_le_length (by rw [toZ_len]; omega), List.take_of_length_le (by rw [toZ_len]; omega)] at this
  exact this
theorem RedMem.look {pp h : Nat} {s : PSt} {w wr : World} {mb : Nat} {qv kv : Value} {q B line : List Nat} (m : RedMem pp h s w wr mb qv kv q B line) {x : Nat} (hx : x < 1000000000) (W : World) (hW : W.heap[mb]? = wr.heap[mb]?) :
    (Instr.lookup 187 (.map (some mb)) (.int .i64 (x : Int)) false).run Tryz.prog W = .ok (.bool (decide (x ∈ line))) W := by
  obtain ⟨f, f1, f2⟩ := m.seen
  obtain ⟨kl, hkl⟩ := keyOfI x hx
  have := (f1.keep hW).look keyedI Tryz.underlying187 (zeroB W) hkl false
  rw [this, f2]
  by_cases e : x ∈ line <;> simp [e]

def Grow (s : PSt) (f : Nat) (s' : PSt) : Prop := (∀ N, f < N → N ≤ s.D.length → s'.D.length + miss N s'.cn ≤ s.D.length + miss N s.cn) ∧ (∀ x, x < s.D.length → s.cn x = none → (s'.cn x).isSome → Cgt.born (vl s.D x) ≤ Cgt.born (vl s.D f)) ∧ ∀ x, s.D.length ≤ x → x < s'.D.length → (s'.cn x).isSome
def GrowR (s : PSt) (f : Nat) (s' : PSt) : Prop := (∀ N, f < N → N ≤ s.D.length → s'.D.length + miss N s'.cn ≤ s.D.length + miss N s.cn) ∧ (∀ x, x < s.D.length → s.cn x = none → (s'.cn x).isSome → Cgt.born (vl s.D x) < Cgt.born (vl s.D f)) ∧ ∀ x, s.D.length ≤ x → x < s'.D.length → (s'.cn x).isSome
theorem GrowR.refl (s : PSt) (f : Nat) : GrowR s f s := ⟨fun _ _ _ => Nat.le_refl _, fun x _ h k => (by rw [h] at k; cases k), fun x a b => absurd b (by omega)⟩
theorem GrowR.same {s s1 s2 : PSt} {f : Nat} (g : GrowR s f s1) (hD : s2.D = s1.D) (hc : s2.cn = s1.cn) : GrowR s f s2 := ⟨fun N a b => by rw [hD, hc]; exact g.1 N a b, fun x a b c => g.2.1 x a b (by rw [← hc]; exact c), fun x a b => by rw [hc]; exact g.2.2 x a (by rw [← hD]; exact b)⟩

def clist (D : Dag) (cn : Nat → Option Nat) (left : Bool) (f : Nat) : List Nat := (opt D left f).map fun x => (cn x).getD 0
def RedFact (D : Dag) (cn : Nat → Option Nat) (f : Nat) (left : Bool) (F : List Nat) : Prop := (∀ x, x ∈ opt D left f → (cn x).isSome) ∧ ∃ line B, OpenInv D f left (clist D cn left f) line B line.length ∧ Tops D left B F
end
end Go.Proofs.YteknjeohbcgpdaaGreatDoor
