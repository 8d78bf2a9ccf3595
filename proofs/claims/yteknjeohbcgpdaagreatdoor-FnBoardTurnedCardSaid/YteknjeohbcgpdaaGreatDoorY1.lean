/-
  The lift of a law whose premise is what the listed variables read as, with the world's shape beside it. (6 texts.)
-/
import Derived.Test.YteknjeohbcgpdaaGreatDoorProg
import Derived.WalkKit
import Derived.Lib.Hide
import Derived.BigQuiet
import Derived.Deep.QuietTactic
import Derived.Deep.RegionHeld3
import Derived.HandedShaped
import Derived.Handed
import Derived.LaidMore
import Derived.ProofKit
import Derived.OpenShut
import Derived.ChangeSlices
import Derived.WideShapes
import Derived.Carry
import Derived.SizedLaws
import Derived.ReadAgain
set_option maxRecDepth 100000
namespace Go.Proofs.YteknjeohbcgpdaaGreatDoor
section
open Go.RowKit

theorem gE.{u} {α : Type u} : (∀ (l : List α) (i : Nat), l.toArray[i]? = l[i]?) ∧ (∀ (a : α) (l : List α) (i : Nat), (a :: l)[i + 1]? = l[i]?) ∧ ∀ (a : α) (l : List α), (a :: l)[0]? = some a := ⟨fun _ _ => by simp, fun _ _ _ => by simp, fun _ _ => by simp⟩
theorem nE.{u} {α : Type u} : (∀ (l : List α) (i : Nat) (a : α), l.toArray.setIfInBounds i a = (l.set i a).toArray) ∧ (∀ (a b : α) (l : List α), (a :: l).set 0 b = b :: l) ∧ ∀ (a b : α) (l : List α) (i : Nat), (a :: l).set (i + 1) b = a :: l.set i b := ⟨fun _ _ _ => by simp, fun _ _ _ => by simp, fun _ _ _ _ => by simp⟩

theorem nP : (∀ (a : Act) (i : Nat) (v : Value), a.put (some i) v = { a with tmps := a.tmps.setIfInBounds i v }) ∧ (∀ (a : Act) (v : Value), a.put none v = a) ∧ (∀ (l : List Value) (i : Nat) (a : Value), l.toArray.setIfInBounds i a = (l.set i a).toArray) ∧ (∀ (a b : Value) (l : List Value), (a :: l).set 0 b = b :: l) ∧ ∀ (a b : Value) (l : List Value) (i : Nat), (a :: l).set (i + 1) b = a :: l.set i b := ⟨fun _ _ _ => rfl, fun _ _ => rfl, fun _ _ _ => by simp, fun _ _ _ => by simp, fun _ _ _ _ => by simp⟩

theorem ret_int {k : IntKind} {a b : Int} (h : a = b) : Ending.returned (.int k a) = .returned (.int k b) := by rw [h]
theorem ret_bool {a b : Bool} (h : a = b) : Ending.returned (.bool a) = .returned (.bool b) := by rw [h]

def RD (w w' : World) : Prop := ∃ n, w' = w.drewN n
theorem rd0 (w : World) : RD w w := ⟨0, rfl⟩
theorem rd1 (w : World) (n : Nat) : RD w (w.drewN n) := ⟨n, rfl⟩
theorem rd2 (w : World) (n m : Nat) : RD w ((w.drewN n).drewN m) := ⟨n + m, by simp⟩
theorem rd3 (w : World) (n m k : Nat) : RD w (((w.drewN n).drewN m).drewN k) := ⟨n + m + k, by simp⟩
def zat (l : List Int) (k : Nat) : Int := l[k]?.getD 0
theorem zat_lt {l : List Int} {k : Nat} (h : k < l.length) : zat l k = l[k] := by simp [zat, h]
theorem zat_mem {l : List Int} {k : Nat} (h : k < l.length) : zat l k ∈ l := by rw [zat_lt h]; exact List.getElem_mem h
def hasZ (l : List Int) (n : Int) : Bool := decide (n ∈ l)

def Ints (w : World) (v : Value) (l : List Int) : Prop :=
  ∃ a cap, v = .slice a l.length cap ∧ l.length ≤ cap ∧ l.length ≤ 1152921504606846976 ∧
    (0 < l.length → ∃ b off, a = some ⟨b, off, none⟩ ∧ ∀ i, i < l.length → w.cell? ⟨b, off + i, none⟩ = some (.int .i64 (zat l i)))
end
section
open Go.RowKit

def inB (x a b : Int) : Bool := decide (a ≤ x) && decide (x ≤ b)
theorem l1In_any (x a b : Int) (w : World) : Calls Tryz.prog 60 #[.int .i64 x, .int .i64 a, .int .i64 b] w fun e w' => e = .returned (.bool (inB x a b)) ∧ RD w w' := by
  by_cases h1 : a ≤ x
  · go_enter Tryz.func60, Tryz.ntmps60
    go_wp2
    go_ret
    exact ⟨ret_bool (by simp [inB, h1]), (by first | exact rd0 _ | exact rd1 _ _ | exact rd2 _ _ _ | exact rd3 _ _ _ _)⟩
  · have hd : decide (a ≤ x) = false := by simpa using h1
    go_enter Tryz.func60, Tryz.ntmps60
    go_wp2
    go_ret
    exact ⟨ret_bool (by simp [inB, hd]), (by first | exact rd0 _ | exact rd1 _ _ | exact rd2 _ _ _ | exact rd3 _ _ _ _)⟩
end
section
open Go.RowKit

abbrev Ext (w w' : World) : Prop := Below w.heap.size w w'

theorem ext_trans {a b c : World} (h : Ext a b) (k : Ext b c) : Ext a c := h.trans (k.mono h.size)
theorem rd_ext {w w' : World} (h : RD w w') : Ext w w' := by obtain ⟨n, rfl⟩ := h; exact ⟨rfl, rfl, rfl, Nat.le_refl _, fun _ _ => rfl⟩
theorem below_dn {B : Nat} {a w : World} (h : Below B a w) (n : Nat) : Below B a (w.drewN n) := ⟨h.os, h.tape, h.output, h.size, h.block⟩

theorem Ints.nil (w : World) (a : Option Addr) (cap : Nat) : Ints w (.slice a 0 cap) [] :=
  ⟨a, cap, rfl, Nat.zero_le _, Nat.zero_le _, fun h => absurd h (by simp)⟩

theorem lt_of_cell {w : World} {a : Addr} {v : Value} (h : w.cell? a = some v) : a.block < w.heap.size := World.block_lt_of_cell? w a h

theorem Ints.keep {w w' : World} {v : Value} {l : List Int} (h : Ints w v l) (hk : ∀ b, l ≠ [] → v.ownBlock = some b → w'.heap[b]? = w.heap[b]?) : Ints w' v l := by
  obtain ⟨a, cap, rfl, h1, h2, h3⟩ := h
  refine ⟨a, cap, rfl, h1, h2, fun h0 => ?_⟩
  obtain ⟨b, off, rfl, hc⟩ := h3 h0
  refine ⟨b, off, rfl, fun i hi => ?_⟩
  rw [World.cell?_of_block (w := w) (hk b (by intro e; simp [e] at h0) rfl)]
  exact hc i hi
theorem Ints.blk {w : World} {v : Value} {l : List Int} (h : Ints w v l) {b : Nat} (hl : l ≠ []) (hb : v.ownBlock = some b) : b < w.heap.size := by
  obtain ⟨a, cap, rfl, h1, h2, h3⟩ := h
  obtain ⟨b', off, rfl, hc⟩ := h3 (List.length_pos_iff.2 hl)
  simp [Value.ownBlock] at hb
  subst hb
  exact lt_of_cell (hc 0 (List.length_pos_iff.2 hl))
theorem Ints.ext {w w' : World} {v : Value} {l : List Int} (h : Ints w v l) (hk : Ext w w') : Ints w' v l :=
  h.keep fun b hl hb => hk.block b (h.blk hl hb)

theorem Ints.of_own {w : World} {B : Nat} {e : TypeId} {v : Value} {n : Nat} {l : List Int} (h : w.ownsRow B e 1 v n (l.map (Value.int .i64))) (hn : l.length ≤ 1152921504606846976) : Ints w v l := by
  obtain ⟨hlen, h⟩ := h
  simp at hlen
  rcases h with ⟨rfl, hn0⟩ | ⟨g, cap, cur, rfl, _, hg, hnc, hcm, hcs, ht⟩
  · subst hn0
    have : l = [] := List.eq_nil_of_length_eq_zero (by omega)
    subst this
    exact Ints.nil _ _ _
  · subst hlen
    refine ⟨_, cap, rfl, hnc, hn, fun h0 => ⟨g, 0, rfl, fun i hi => ?_⟩⟩
    rw [cell_of_row w g (0 + i) cur e (0, 0) hg]
    have e1 : cur.toList[0 + i]? = (l.map (Value.int .i64))[i]? := by
      rw [← ht, List.getElem?_take, if_pos (by omega)]; simp
    rw [Array.getElem?_toList] at e1
    rw [e1]
    simp [hi, zat]

theorem own_keep {w w' : World} {B : Nat} {e : TypeId} {size : Nat} {v : Value} {n : Nat} {xs : List Value} (h : w.ownsRow B e size v n xs) (hk : Ext w w') : w'.ownsRow B e size v n xs :=
  h.kept (row := none) ⟨hk.os, hk.tape, hk.output, hk.size, fun k hk' _ => hk.block k hk'⟩ (by cases v.ownBlock <;> simp)
theorem own_drewN {w : World} {B : Nat} {e : TypeId} {size : Nat} {v : Value} {n : Nat} {xs : List Value} (h : w.ownsRow B e size v n xs) (k : Nat) : (w.drewN k).ownsRow B e size v n xs := h

theorem info_int : (Tryz.prog.info? 3).map (fun i => (i.zero, i.size, i.bytes)) = some (some (.int .i64 0), 1, 8) := by kernel_rfl

theorem ext_app {W wr w1 : World} {e : TypeId} {size n : Nat} {o : Value} {xs : List Value} {x : Obj} (hext : Ext W wr) (hown : wr.ownsRow W.heap.size e size o n xs) (hg : (wr.alloc x).grownBy w1 o.ownBlock) : Ext W w1 :=
  (hext.alloc hext.size x).grown hg (by have := hext.size; simp; omega) (fun k hk => (hown.lt k hk).1)

theorem own_empty (w : World) (B : Nat) (hB : B ≤ w.heap.size) (e : TypeId) : (w.alloc (.cells #[] e)).ownsRow B e 1 (.slice (some ⟨w.heap.size, 0, none⟩) 0 0) 0 [] :=
  World.ownsRow_made w #[] 0 hB (by decide) (by simp)

theorem src_of {w W : World} {b off : Nat} {l : List Int} (hc : ∀ i, i < l.length → w.cell? ⟨b, off + i, none⟩ = some (.int .i64 (zat l i))) (hE : Ext w W) (s m : Nat) (hsm : s + m ≤ l.length) :
    ∀ j u, (((l.drop s).take m).map (Value.int .i64))[j]? = some u → W.cell? ((⟨b, off + s, none⟩ : Addr).add j) = some u := by
  intro j u hu
  rw [List.getElem?_map, List.getElem?_take] at hu
  split at hu
  · rename_i hj
    rw [List.getElem?_drop] at hu
    have hlt : s + j < l.length := by omega
    rw [List.getElem?_eq_getElem hlt] at hu
    simp at hu
    have h0 := hc (s + j) hlt
    have e : ((⟨b, off + s, none⟩ : Addr).add j) = ⟨b, off + (s + j), none⟩ := by
      unfold Addr.add; split <;> simp_all [Nat.add_assoc]
    rw [e, hE.cell (lt_of_cell h0), h0, zat_lt hlt, hu]
  · simp at hu
theorem one_src {W : World} {B : Nat} {v : Value} (h : W.cell? ⟨B, 0, none⟩ = some v) : ∀ j u, ([v] : List Value)[j]? = some u → W.cell? ((⟨B, 0, none⟩ : Addr).add j) = some u := by
  intro j u hj
  cases j with
  | zero => simp at hj; subst hj; simpa [Addr.add] using h
  | succ j => simp at hj
theorem one_cell {k : IntKind} {n : Int} : ∀ u ∈ ([Value.int k n] : List Value), u.oneCell' = true := by
  intro u hu; simp at hu; subst hu; rfl
theorem new_cell (w : World) (v : Value) (e : TypeId) : (w.alloc (.cells #[v] e)).cell? ⟨w.heap.size, 0, none⟩ = some v := by
  rw [World.cell?_alloc_at _ _ _ _ rfl]; rfl
theorem ints_onecell (l : List Int) : ∀ u ∈ l.map (Value.int .i64), u.oneCell' = true := by
  intro u hu; obtain ⟨x, _, rfl⟩ := List.mem_map.1 hu; rfl
theorem ext_grown {W wr w1 : World} {o : Option Nat} (hext : Ext W wr) (hg : wr.grownBy w1 o) (ho : ∀ k, o = some k → W.heap.size ≤ k) : Ext W w1 :=
  hext.grown hg hext.size ho
theorem ext_alloc {W wr : World} (hext : Ext W wr) (x : Obj) : Ext W (wr.alloc x) := hext.alloc hext.size x
theorem ext_drewN {W wr : World} (hext : Ext W wr) (n : Nat) : Ext W (wr.drewN n) := below_dn hext n
end
section
open Go Go.RowKit

section
variable {P : Program} {ops : Array Oper} {Q : Exit → Act → World → Prop} {md : Region.Mode} {S : World → Prop} {T : List Nat}

def wpAnyT (P : Program) (md : Region.Mode) (ops : Array Oper) (Q : Exit → Act → World → Prop) (S : World → Prop) (T : List Nat) : Nat → Array Bool → Act → World → Prop
  | 0, listed, a, w => Region.ready md ops listed = [] ∧ Q .normal a w
  | fuel + 1, listed, a, w =>
    (Region.ready md ops listed = [] → Q .normal a w) ∧
    ∀ i ∈ Region.ready md ops listed, wpOp P ops Q i (fun a' w' => (T.contains i = false → S w') ∧ wpAnyT P md ops Q S T fuel (listed.setIfInBounds i true) a' w') a w

theorem wpAny_of_T : ∀ (fuel : Nat) (listed : Array Bool) (a : Act) (w : World), wpAnyT P md ops Q S T fuel listed a w → wpAny P md ops Q fuel listed a w
  | 0, _, _, _, h => h
  | fuel + 1, _, _, _, h => ⟨h.1, fun i hi => wpOp_mono (fun a' w' h' => wpAny_of_T fuel _ a' w' h'.2) (h.2 i hi)⟩

theorem unlisted {listed : Array Bool} {u : Nat} (h : listed.getD u true = false) : listed.getD u false = false := by
  rcases Nat.lt_or_ge u listed.size with h' | h'
  · simpa [h'] using h
  · simp [h']

def Waits (md : Region.Mode) (ops : Array Oper) (U : List Nat) (i : Nat) : Prop := ∀ u, u ∈ U → u ≠ i → ∃ o, ops[u]? = some o ∧ ∃ e, e ∈ o.after ∧ Region.binds md e = true ∧ e.on ∈ U

theorem wpAnyT_first {i : Nat} {oi : Oper} {v : Value} {U : List Nat} (hi : ops[i]? = some oi) (hsel : ∀ (j : Nat) (o : Oper) cs b, ops[j]? = some o → o.op ≠ .select cs b)
    (hQ : ∀ c a w, Q (.panic c) (a.put oi.dst v) w → Q (.panic c) a w) (hU : Waits md ops U i) (hT : ∀ t, T.contains t = true → t ∈ U) :
    ∀ (fuel : Nat) (listed : Array Bool) (a : Act) (w : World),
      (∀ j oj, ops[j]? = some oj → j ≠ i → listed.getD j true = false → (∀ e ∈ oj.after, Region.binds md e = true → e.on ≠ i) → oi.apart ops oj = true) →
      (∀ u, u ∈ U → listed.getD u true = false) →
      i ∈ Region.ready md ops listed → YieldsIf P ops S oi v a → S w →
      wpAnyT P md ops Q S T fuel (listed.setIfInBounds i true) (a.put oi.dst v) w → wpAnyT P md ops Q S T (fuel + 1) listed a w := by
  intro fuel
  induction fuel with
  | zero =>
    intro listed a w _ hul hr hy hS H
    refine ⟨fun h => (by rw [h] at hr; cases hr), fun j hj => ?_⟩
    by_cases hji : j = i
    · subst hji; exact hy.wpOp hi hS ⟨fun _ => hS, H⟩
    · have := ready_mono hj hji
      rw [H.1] at this
      cases this
  | succ fuel ih =>
    intro listed a w hfree hul hr hy hS H
    refine ⟨fun h => (by rw [h] at hr; cases hr), fun j hj => ?_⟩
    by_cases hji : j = i
    · subst hji; exact hy.wpOp hi hS ⟨fun _ => hS, H⟩
    · have h1 := H.2 j (ready_mono hj hji)
      obtain ⟨hjun, oj, hoj, hall⟩ := mem_ready.1 hj
      have hjU : j ∉ U := fun h => by
        obtain ⟨o, ho, e, he, hb, hon⟩ := hU j h hji
        obtain rfl : o = oj := by rw [ho] at hoj; injection hoj
        have h2 := hall e he hb
        rw [unlisted (hul _ hon)] at h2
        cases h2
      have hjT : T.contains j = false := by
        cases h : T.contains j with
        | false => rfl
        | true => exact absurd (hT j h) hjU
      have hnot : ∀ e ∈ oj.after, Region.binds md e = true → e.on ≠ i := fun e he hb heq => by
        have h1 := hall e he hb
        have h0 := (mem_ready.1 hr).1
        rw [heq] at h1
        rcases Nat.lt_or_ge i listed.size with h' | h'
        · simp [h'] at h0 h1; rw [h0] at h1; cases h1
        · simp [Array.getElem?_eq_none h'] at h1
      have h2 := wpOp_putIf hoj (hfree j oj hoj hji hjun hnot) (fun cs b => hsel i oi cs b hi) (fun cs b => hsel j oj cs b hoj) hQ hy h1
      have hfree' : ∀ k ok, ops[k]? = some ok → k ≠ i → (listed.setIfInBounds j true).getD k true = false →
          (∀ e ∈ ok.after, Region.binds md e = true → e.on ≠ i) → oi.apart ops ok = true := fun k ok hk hki hun hno => by
        refine hfree k ok hk hki ?_ hno
        by_cases hjk : j = k
        · subst hjk; exact hjun
        · rw [getD_set_ne true hjk] at hun; exact hun
      have hul' : ∀ u, u ∈ U → (listed.setIfInBounds j true).getD u true = false := fun u hu => by
        rw [getD_set_ne true (fun e => hjU (by rw [e]; exact hu))]; exact hul u hu
      refine wpOp_mono (fun a' w' h3 => ⟨fun _ => h3.2.1 hjT, ih (listed.setIfInBounds j true) a' w' hfree' hul' (ready_mono hr (Ne.symm hji)) h3.1 (h3.2.1 hjT) ?_⟩) h2
      rw [Array.setIfInBounds_comm _ _ hji]
      exact h3.2.2

theorem wpAnyT_step {i : Nat} {o : Oper} {fuel : Nat} {listed : Array Bool} {a : Act} {w : World} (hr : Region.ready md ops listed = [i]) (ho : ops[i]? = some o)
    (h : ∀ K' : Act → World → Prop, Shut (∀ a w, (T.contains i = false → S w) → wpAnyT P md ops Q S T fuel (listed.setIfInBounds i true) a w → K' a w) → if Region.wanted o (yielded ops a.tmps) = true then Oper.wp P o a w K' Q else K' (a.put o.dst undef) w) :
    wpAnyT P md ops Q S T (fuel + 1) listed a w := by
  refine ⟨fun h0 => (by rw [hr] at h0; cases h0), fun j hj => ?_⟩
  rw [hr] at hj
  obtain rfl : j = i := by simpa using hj
  exact wpOp_step ho (fun K' hK => h K' (fun a w hS hW => hK a w ⟨hS, hW⟩))

def StepT (P : Program) (md : Region.Mode) (ops : Array Oper) (Q : Exit → Act → World → Prop) (S : World → Prop) (T : List Nat) (fuel : Nat) (listed : Array Bool) (a : Act) (w : World) (i : Nat) : Prop :=
  wpOp P ops Q i (fun a' w' => (T.contains i = false → S w') ∧ wpAnyT P md ops Q S T fuel (listed.setIfInBounds i true) a' w') a w
theorem StepT.run {i : Nat} {o : Oper} {fuel : Nat} {listed : Array Bool} {a : Act} {w : World} (ho : ops[i]? = some o)
    (h : ∀ K' : Act → World → Prop, Shut (∀ a w, (T.contains i = false → S w) → wpAnyT P md ops Q S T fuel (listed.setIfInBounds i true) a w → K' a w) → if Region.wanted o (yielded ops a.tmps) = true then Oper.wp P o a w K' Q else K' (a.put o.dst undef) w) :
    StepT P md ops Q S T fuel listed a w i := wpOp_step ho (fun K' hK => h K' (fun a w hS hW => hK a w ⟨hS, hW⟩))
theorem wpAnyT_two {i j : Nat} {fuel : Nat} {listed : Array Bool} {a : Act} {w : World} (hr : Region.ready md ops listed = [i, j]) (h1 : StepT P md ops Q S T fuel listed a w i) (h2 : StepT P md ops Q S T fuel listed a w j) :
    wpAnyT P md ops Q S T (fuel + 1) listed a w := by
  refine ⟨fun h0 => (by rw [hr] at h0; cases h0), fun k hk => ?_⟩
  rw [hr] at hk
  rcases List.mem_cons.1 hk with rfl | hk
  · exact h1
  · obtain rfl : k = j := by simpa using hk
    exact h2

def chainB (md : Region.Mode) (ops : Array Oper) : List Nat → Array Bool → Bool
  | [], listed => Region.ready md ops listed == []
  | i :: rs, listed => Region.ready md ops listed == [i] && chainB md ops rs (listed.setIfInBounds i true)
theorem wpAnyT_tail : ∀ (rs : List Nat) (os : List Oper) (fuel : Nat) (listed : Array Bool) (a : Act) (w : World), rs.length ≤ fuel → chainB md ops rs listed = true → rs.all (fun i => T.contains i) = true → rs.map (fun i => ops[i]?) = os.map some →
    wpList P ops Q os a w → wpAnyT P md ops Q S T fuel listed a w
  | [], [], 0, listed, a, w, _, hc, _, _, h => ⟨by simpa [chainB] using hc, h⟩
  | [], [], fuel + 1, listed, a, w, _, hc, _, _, h => ⟨fun _ => h, fun j hj => by have h0 : Region.ready md ops listed = [] := (by simpa [chainB] using hc); rw [h0] at hj; cases hj⟩
  | i :: rs, o :: os, fuel + 1, listed, a, w, hl, hc, hT, hm, h => by
    simp only [chainB, Bool.and_eq_true, beq_iff_eq] at hc
    simp only [List.all_cons, Bool.and_eq_true] at hT
    simp only [List.map_cons, List.cons.injEq] at hm
    refine ⟨fun h0 => (by rw [hc.1] at h0; cases h0), fun j hj => ?_⟩
    rw [hc.1] at hj
    obtain rfl : j = i := by simpa using hj
    unfold wpOp
    simp only [hm.1]
    have ih := fun a w hw => wpAnyT_tail rs os fuel (listed.setIfInBounds j true) a w (by simpa using hl) hc.2 hT.2 hm.2 hw
    unfold wpList at h
    by_cases hw : Region.wanted o (yielded ops a.tmps) = true
    · rw [if_pos hw] at h
      rw [if_pos hw]
      exact h.imp (Oper.wp_mono fun a' w' hh => ⟨fun hn => (by rw [hT.1] at hn; cases hn), ih a' w' hh⟩) id
    · rw [if_neg hw] at h
      rw [if_neg hw]
      exact ⟨fun hn => (by rw [hT.1] at hn; cases hn), ih _ _ h⟩
  | [], _ :: _, _, _, _, _, _, _, _, hm, _ => by simp at hm
  | _ :: _, [], _, _, _, _, _, _, _, hm, _ => by simp at hm
  | _ :: _, _ :: _, 0, _, _, _, hl, _, _, _, _ => by simp at hl
theorem wp_region_T {id : Nat} {a : Act} {w : World} (S : World → Prop) (T : List Nat) (hm : P.follows .mixedOrders = true) (hS : S w.drew)
    (h : S w.drew → wpAnyT P .any ops Q S T ops.size (Array.replicate ops.size false) a w.drew) : (Code.region id ops true).wp P Q a w :=
  wp_region_any hm (wpAny_of_T _ _ _ _ (h hS))

end
end
section
open Go.RowKit

def Vals (w : World) (v : Value) (xs : List Value) : Prop :=
  ∃ a cap, v = .slice a xs.length cap ∧ xs.length ≤ cap ∧ xs.length ≤ 1152921504606846976 ∧ (0 < xs.length → ∃ b off, a = some ⟨b, off, none⟩ ∧ ∀ i (h : i < xs.length), w.cell? ⟨b, off + i, none⟩ = some xs[i])

theorem Vals.nil (w : World) (a : Option Addr) (cap : Nat) : Vals w (.slice a 0 cap) [] := ⟨a, cap, rfl, Nat.zero_le _, Nat.zero_le _, fun h => absurd h (by simp)⟩
theorem Vals.keep {w w' : World} {v : Value} {xs : List Value} (h : Vals w v xs) (hk : ∀ b, 0 < xs.length → v.ownBlock = some b → w'.heap[b]? = w.heap[b]?) : Vals w' v xs := by
  obtain ⟨a, cap, rfl, h1, h2, h3⟩ := h
  refine ⟨a, cap, rfl, h1, h2, fun h0 => ?_⟩
  obtain ⟨b, off, rfl, hc⟩ := h3 h0
  refine ⟨b, off, rfl, fun i hi => ?_⟩
  rw [World.cell?_of_block (w := w) (hk b h0 rfl)]
  exact hc i hi
theorem Vals.blk {w : World} {v : Value} {xs : List Value} (h : Vals w v xs) {b : Nat} (hl : 0 < xs.length) (hb : v.ownBlock = some b) : b < w.heap.size := by
  obtain ⟨a, cap, rfl, h1, h2, h3⟩ := h
  obtain ⟨b', off, rfl, hc⟩ := h3 hl
  simp [Value.ownBlock] at hb
  subst hb
  exact lt_of_cell (hc 0 hl)
theorem Vals.ext {w w' : World} {v : Value} {xs : List Value} (h : Vals w v xs) (hk : Ext w w') : Vals w' v xs := h.keep fun b hl hb => hk.block b (h.blk hl hb)
theorem Vals.of_own {w : World} {B : Nat} {e : TypeId} {v : Value} {n : Nat} {xs : List Value} (h : w.ownsRow B e 1 v n xs) (hn : xs.length ≤ 1152921504606846976) : Vals w v xs := by
  obtain ⟨hlen, h⟩ := h
  simp at hlen
  rcases h with ⟨rfl, hn0⟩ | ⟨g, cap, cur, rfl, _, hg, hnc, hcm, hcs, ht⟩
  · subst hn0
    have : xs = [] := List.eq_nil_of_length_eq_zero (by omega)
    subst this
    exact Vals.nil _ _ _
  · subst hlen
    refine ⟨_, cap, rfl, hnc, hn, fun h0 => ⟨g, 0, rfl, fun i hi => ?_⟩⟩
    rw [cell_of_row w g (0 + i) cur e (0, 0) hg]
    have e1 : cur.toList[0 + i]? = xs[i]? := by
      conv => rhs; rw [← ht]
      rw [List.getElem?_take, if_pos (by omega)]; simp
    rw [Array.getElem?_toList] at e1
    rw [e1, List.getElem?_eq_getElem hi]
theorem Vals.sup {w : World} {v : Value} {xs : List Value} (h : Vals w v xs) {S : Nat → Prop} (hv : ∀ b, 0 < xs.length → v.ownBlock = some b → S b) : ∀ w', (∀ b, S b → w'.heap[b]? = w.heap[b]?) → Vals w' v xs :=
  fun _ h2 => h.keep fun b h0 hb => h2 b (hv b h0 hb)

def Strs (w : World) (v : Value) (ss : List ByteArray) : Prop := Vals w v (ss.map Value.string)
theorem Strs.ext {w w' : World} {v : Value} {ss : List ByteArray} (h : Strs w v ss) (hk : Ext w w') : Strs w' v ss := Vals.ext h hk
theorem Strs.open {w : World} {v : Value} {ss : List ByteArray} (h : Strs w v ss) : ∃ a cap, v = .slice a ss.length cap ∧ ss.length ≤ cap ∧ ss.length ≤ 1152921504606846976 := by
  obtain ⟨a, cap, rfl, h1, h2, _⟩ := h
  simp only [List.length_map] at h1 h2
  exact ⟨a, cap, by rw [List.length_map], h1, h2⟩
theorem Strs.at {w : World} {a : Option Addr} {n cap : Nat} {ss : List ByteArray} (h : Strs w (.slice a n cap) ss) {i : Nat} (hi : i < ss.length) : ∃ b off, a = some ⟨b, off, none⟩ ∧ ∀ j (hj : j < ss.length), w.cell? ⟨b, off + j, none⟩ = some (.string ss[j]) := by
  obtain ⟨a', cap', e, h1, h2, h3⟩ := h
  simp only [Value.slice.injEq] at e
  obtain ⟨rfl, -, rfl⟩ := e
  obtain ⟨b, off, rfl, hc⟩ := h3 (by simp; omega)
  exact ⟨b, off, rfl, fun j hj => by rw [hc j (by simpa using hj)]; simp⟩
theorem Strs.of_own {w : World} {B : Nat} {e : TypeId} {v : Value} {n : Nat} {ss : List ByteArray} (h : w.ownsRow B e 1 v n (ss.map Value.string)) (hn : ss.length ≤ 1152921504606846976) : Strs w v ss := Vals.of_own h (by simpa using hn)
end
section
open Go.RowKit Go.ChangeShapes Go.WideShapes Go.ChangeAt

theorem lift_shaped {H : Type} {enc : TypeId × Value → H} {a : Assume} {C : Checked} {os : Os} {f : FuncId} {fn : Func} {s : ChangeSpec} {conds : List PathCond} {apart fresh handsOn again : Bool} {X : World → Array Value → Prop}
    (hX : ∀ (w w' : World) (args : Array Value), w.heap = w'.heap → X w args → X w' args)
    (own : ownKnob C.prog.godebug = none) (started : os.Started) (noInit : C.prog.inits.idxOf? f = none) (hfn : C.prog.funcs[f]? = some fn)
    (witness : ∃ (w : World) (tape : Tape) (i : Input), w.os = os ∧ (w.forCall tape i).Shaped C.prog ∧ i.vars = [] ∧ Input.okWide C.prog (w.forCall tape i) .any w.heap.size f i ∧
      ((s.pre enc C.prog fn conds apart (w.forCall tape i).memory i.args ∧ X (w.forCall tape i).memory i.args) ∧ sizedMet enc C.prog fn (OpenSpec.ofChange s) apart (w.forCall tape i).memory i.args) ∧ a.holds C.prog (lone (Frame.enter C.prog f i.args .normal) [] (w.forCall tape i)))
    (contract : ∀ (W : World) (base : Nat) (args : Array Value) (ds gs : List (DataW H)) (before : List MemPlace),
      (∀ (j : Nat) t v, fn.params[j]? = some t → args[j]? = some v → Value.okWide C.prog W .any base t v) →
      DataW.Whole enc C.prog fn.params.toList s.vars apart W args.toList ds gs before →
      conds.all (PathCond.test C.prog ⟨fn.params.toList, ds, s.plain.varTypes C.prog, gs⟩) = true →
      (DataW.weightsEach C.prog (fn.params.toList ++ s.plain.varTypes C.prog) (ds ++ gs)).all (· ≤ reachBytes) = true → X W args → W.ShapedOpen C.prog →
      a.holds C.prog (lone (Frame.enter C.prog f args .normal) [] W) →
      Calls C.prog f args W fun e W' => ∃ v, e = .returned v ∧ s.post enc C.prog fn apart fresh handsOn again W args v W') :
    ReturnsInHanded a C os f .any (fun w args => (s.pre enc C.prog fn conds apart w args ∧ X w args) ∧ sizedMet enc C.prog fn (OpenSpec.ofChange s) apart w args) (s.post enc C.prog fn apart fresh handsOn again) := by
  refine returnsInHanded_of_calls own started noInit witness ?_
  intro w tape i _ hsh _ hok hpre hholds
  obtain ⟨_, _, _, fn', hfn', _, _, _, _, hval⟩ := hok
  have e : fn' = fn := Option.some.inj (hfn'.symm.trans hfn)
  subst e
  obtain ⟨⟨⟨ds, gs, before, hw, hc⟩, hx⟩, hz⟩ := hpre
  have hw' := DataW.Whole.of_heap (w' := w.forCall tape i) (by rfl) hw
  refine (contract (w.forCall tape i) w.heap.size i.args ds gs before hval hw' hc (hz.weights hw) (hX _ _ _ (by rfl) hx) hsh hholds).mono fun e W' ⟨v, he, hp⟩ => ?_
  subst he
  exact ChangeSpec.post_blind hp
end
end Go.Proofs.YteknjeohbcgpdaaGreatDoor
