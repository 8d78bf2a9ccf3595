/-
  A map of the call's own as a function from keys to values; no condition.
  Maps keyed by strings, ints and pairs of ints: the keys' laws; a look-up and a store at the operation; how many entries there are.
-/
import Derived.Test.YtjkdanmpihildaaGreatDoorQ25
import Derived.Maps.OwnOps
import Derived.WideKeyArgs
import Derived.DeepKeys4
import Derived.NoCompiler
import Derived.Maps.Keyed
namespace Go.Proofs.YtjkdanmpihildaaGreatDoor
open Go.RowKit
open Go.Maps (Keyed)
open Go.ChangeMaps (setBlock heap_setBlock_same heap_setBlock_other)

def upd (dq : ∀ a b : Value, Decidable (a = b)) (f : Value → Option Value) (key val : Value) : Value → Option Value := fun x => match dq x key with | .isTrue _ => some val | .isFalse _ => f x
theorem upd_same {dq : ∀ a b : Value, Decidable (a = b)} (f : Value → Option Value) (key val : Value) : upd dq f key val key = some val := by
  unfold upd; cases dq key key with | isTrue _ => rfl | isFalse h => exact absurd rfl h
theorem upd_ne {dq : ∀ a b : Value, Decidable (a = b)} {f : Value → Option Value} {key val x : Value} (h : x ≠ key) : upd dq f key val x = f x := by
  unfold upd; cases dq x key with | isTrue e => exact absurd e h | isFalse _ => rfl

def MapIs (P : Program) (k : TypeId) (w : World) (b n : Nat) (f : Value → Option Value) : Prop :=
  ∃ es clock, w.heap[b]? = some (.map es clock) ∧ es.size ≤ n ∧ (∀ x ∈ es.toList, ∃ l, keyOf P k x.key = some l) ∧ (∀ x ∈ es.toList, f x.key = some x.val) ∧ (∀ key v, f key = some v → (∃ x ∈ es.toList, x.key = key ∧ x.val = v)) ∧ es.toList.Pairwise (fun x y => x.key ≠ y.key)

theorem MapIs.made (P : Program) (k : TypeId) {w : World} {b : Nat} {c : Nat} (h : w.heap[b]? = some (.map #[] c)) : MapIs P k w b 0 fun _ => none :=
  ⟨#[], c, h, Nat.le_refl _, by simp, by simp, (fun _ _ h => by cases h), by simp⟩
theorem MapIs.lt {P : Program} {k : TypeId} {w : World} {b n : Nat} {f : Value → Option Value} (h : MapIs P k w b n f) : b < w.heap.size := by
  obtain ⟨es, c, hb, _⟩ := h; exact (Array.getElem?_eq_some_iff.1 hb).1
theorem MapIs.keep {P : Program} {k : TypeId} {w w' : World} {b n : Nat} {f : Value → Option Value} (h : MapIs P k w b n f) (hb : w'.heap[b]? = w.heap[b]?) : MapIs P k w' b n f := by
  obtain ⟨es, c, h1, h2⟩ := h; exact ⟨es, c, hb.trans h1, h2⟩
theorem MapIs.mono {P : Program} {k : TypeId} {w : World} {b n m : Nat} {f : Value → Option Value} (h : MapIs P k w b n f) (hn : n ≤ m) : MapIs P k w b m f := by
  obtain ⟨es, c, h1, h2, h3⟩ := h; exact ⟨es, c, h1, by omega, h3⟩

theorem MapIs.look {P : Program} {k e t : TypeId} {w : World} {b n : Nat} {f : Value → Option Value} (h : MapIs P k w b n f) (K : Keyed P k) (ht : P.underlying t = some (.map k e)) {z : Value} (hz : (zeroValue e).run P w = .ok z w) {key : Value} {kl : Lit} (hkey : keyOf P k key = some kl) (c : Bool) :
    (Instr.lookup t (.map (some b)) key c).run P w = .ok (if c then .tuple #[(f key).getD z, .bool (f key).isSome] else (f key).getD z) w := by
  obtain ⟨es, clock, hb, _, hk, h1, h2, _⟩ := h
  rcases K.find w hkey es.toList hk with ⟨e1, e2⟩ | ⟨j, x, e1, e2, e3⟩
  · have hn : f key = none := by
      cases hf : f key with
      | none => rfl
      | some v => obtain ⟨x, hx, hxk, _⟩ := h2 key v hf; exact absurd hxk (e2 x hx)
    simp [Instr.lookup, run_underlying ht, MapKept.run_getObj_map hb, K.check w _ hkey, e1, hz, Result.andThen, hn]
  · have hm : x ∈ es.toList := List.mem_of_getElem? e2
    have hf := h1 x hm
    rw [e3] at hf
    simp [Instr.lookup, run_underlying ht, MapKept.run_getObj_map hb, K.check w _ hkey, e1, Result.andThen, hf]

theorem MapIs.store {P : Program} {k e t : TypeId} {w : World} {b n : Nat} {f : Value → Option Value} (h : MapIs P k w b n f) (K : Keyed P k) (ht : P.underlying t = some (.map k e)) (hn : n < maxLen) {key val : Value} {kl : Lit} (hkey : keyOf P k key = some kl) :
    ∃ w', (Instr.mapUpdate t (.map (some b)) key val).run P w = .ok () w' ∧ MapIs P k w' b (n + 1) (upd (fun _ _ => Classical.propDecidable _) f key val) ∧ w.grownBy w' (some b) := by
  obtain ⟨es, clock, hb, hs, hk, h1, h2, h3⟩ := h
  have hroom : es.size < maxLen := by omega
  rcases K.find w hkey es.toList hk with ⟨e1, e2⟩ | ⟨j, x, e1, e2, e3⟩
  · refine ⟨setBlock w b (.map (es.push ⟨key, val, clock⟩) (clock + 1)), ?_, ⟨es.push ⟨key, val, clock⟩, clock + 1, heap_setBlock_same hb _, by simp; omega, fun x hx => ?_, fun x hx => ?_, fun ky v hv => ?_, ?_⟩, ⟨rfl, rfl, rfl, by simp [setBlock], fun i _ hi => heap_setBlock_other hb _ (fun e => hi (by rw [e]))⟩⟩
    · simp [Instr.mapUpdate, run_underlying ht, MapKept.run_getObj_map hb, K.check w false hkey, e1, MapKept.run_setObj_map _ hb, Result.andThen, setBlock]
    · simp only [Array.toList_push, List.mem_append, List.mem_singleton] at hx
      rcases hx with hx | rfl
      · exact hk x hx
      · exact ⟨kl, hkey⟩
    · simp only [Array.toList_push, List.mem_append, List.mem_singleton] at hx
      rcases hx with hx | rfl
      · rw [upd_ne (e2 x hx)]; exact h1 x hx
      · exact upd_same _ _ _
    · by_cases c : ky = key
      · subst c; rw [upd_same] at hv; injection hv with hv; subst hv
        exact ⟨⟨_, _, clock⟩, by simp, rfl, rfl⟩
      · rw [upd_ne c] at hv
        obtain ⟨x, hx, a, d⟩ := h2 ky v hv
        exact ⟨x, by simp only [Array.toList_push, List.mem_append]; exact .inl hx, a, d⟩
    · rw [Array.toList_push, List.pairwise_append]
      exact ⟨h3, by simp, fun x hx y hy => by simp only [List.mem_singleton] at hy; subst hy; exact e2 x hx⟩
  · have hjl : j < es.toList.length := (List.getElem?_eq_some_iff.1 e2).1
    have hxe : es.toList[j] = x := by rw [List.getElem?_eq_getElem hjl] at e2; injection e2
    have hlist : (es.modify j (fun e' => { e' with key := key, val := val })).toList = es.toList.set j { x with key := key, val := val } := by
      apply List.ext_getElem?
      intro i
      rw [Array.getElem?_toList, Array.getElem?_modify, List.getElem?_set, Array.getElem?_toList]
      by_cases c : j = i
      · subst c
        have : es[j]? = some x := by simpa using e2
        simp [this]; omega
      · simp [c]
    have hmem : ∀ y, y ∈ es.toList.set j { x with key := key, val := val } → (y.key = key ∧ y.val = val) ∨ (y ∈ es.toList ∧ y.key ≠ key) := by
      intro y hy
      obtain ⟨i, hi, rfl⟩ := List.mem_iff_getElem.1 hy
      rw [List.getElem_set]
      split
      · exact .inl ⟨rfl, rfl⟩
      · rename_i c
        rw [List.length_set] at hi
        refine .inr ⟨List.getElem_mem _, fun e => ?_⟩
        rcases Nat.lt_or_ge i j with l | l
        · exact List.pairwise_iff_getElem.1 h3 i j hi hjl l (by rw [hxe, e3]; exact e)
        · exact List.pairwise_iff_getElem.1 h3 j i hjl hi (by omega) (by rw [hxe, e3]; exact e.symm)
    have hmem2 : ∀ y, y ∈ es.toList → y.key ≠ key → y ∈ es.toList.set j { x with key := key, val := val } := by
      intro y hy hne
      obtain ⟨i, hi, rfl⟩ := List.mem_iff_getElem.1 hy
      have c : j ≠ i := fun c => by subst c; exact hne (by rw [hxe]; exact e3)
      refine List.mem_iff_getElem.2 ⟨i, by rw [List.length_set]; exact hi, ?_⟩
      rw [List.getElem_set_ne c]
    refine ⟨setBlock w b (.map (es.modify j (fun e' => { e' with key := key, val := val })) clock), ?_, ⟨es.modify j (fun e' => { e' with key := key, val := val }), clock, heap_setBlock_same hb _, by simp; omega, ?_, ?_, ?_, ?_⟩, ⟨rfl, rfl, rfl, by simp [setBlock], fun i _ hi => heap_setBlock_other hb _ (fun e => hi (by rw [e]))⟩⟩
    · have hj : es[j]? = some x := by simpa using e2
      simp [Instr.mapUpdate, run_underlying ht, MapKept.run_getObj_map hb, K.check w false hkey, e1, hj, e3, K.stays w hkey, MapKept.run_setObj_map _ hb, Result.andThen, setBlock]
    · rw [hlist]; intro y hy
      rcases hmem y hy with h | h
      · exact ⟨kl, by rw [h.1]; exact hkey⟩
      · exact hk y h.1
    · rw [hlist]; intro y hy
      rcases hmem y hy with h | h
      · rw [h.1, h.2]; exact upd_same _ _ _
      · rw [upd_ne h.2]; exact h1 y h.1
    · rw [hlist]; intro ky v hv
      by_cases c : ky = key
      · subst c; rw [upd_same] at hv; injection hv with hv; subst hv
        exact ⟨_, List.mem_iff_getElem.2 ⟨j, by rw [List.length_set]; exact hjl, rfl⟩, by rw [List.getElem_set_self], by rw [List.getElem_set_self]⟩
      · rw [upd_ne c] at hv
        obtain ⟨y, hy, a, d⟩ := h2 ky v hv
        exact ⟨y, hmem2 y hy (by rw [a]; exact c), a, d⟩
    · rw [hlist, List.pairwise_iff_getElem]
      intro a c ha hc hac
      rw [List.length_set] at ha hc
      have hne := List.pairwise_iff_getElem.1 h3 a c ha hc hac
      rw [List.getElem_set, List.getElem_set]
      by_cases d1 : j = a
      · subst d1
        rw [if_pos rfl, if_neg (by omega)]
        rw [hxe, e3] at hne; exact hne
      · rw [if_neg d1]
        by_cases d2 : j = c
        · subst d2
          rw [if_pos rfl]; rw [hxe, e3] at hne; exact hne
        · rw [if_neg d2]; exact hne

end Go.Proofs.YtjkdanmpihildaaGreatDoor

namespace Go.Proofs.YtjkdanmpihildaaGreatDoor
open Go.RowKit
open Go.Maps (Keyed)

theorem keyedS : Keyed Tryz.prog 9 := Go.Maps.string_keyed Tryz.underlying9
theorem keyedI : Keyed Tryz.prog 3 := Go.Maps.int_keyed Tryz.underlying3
theorem laidO : laidOutB Tryz.prog = true := by kernel_rfl
theorem rowP : (214 : TypeId) < (Tryz.prog).types.size := of_decide_eq_true (by kernel_rfl)
theorem typesP : ∃ m, (Tryz.prog).types.size = m + 1 := by
  have h := rowP
  revert h
  generalize (Tryz.prog).types.size = q
  intro h
  cases q with
  | zero => exact absurd h (Nat.not_lt_zero _)
  | succ m => exact ⟨m, rfl⟩
theorem keyTypeAtP : (Tryz.prog).keyTypeAt 2 214 = true := by kernel_rfl
theorem keyedP : Keyed Tryz.prog 214 := Keyed.of_law (deep_law_laid laidO (m := 2) (by decide) rowP keyTypeAtP (by rw [Tryz.underlying214]))
theorem cellsP : (Tryz.prog).cellsOf 214 = 2 := by kernel_rfl
theorem cellsI : (Tryz.prog).cellsOf 3 = 1 := by kernel_rfl
theorem keyTypeP : (Tryz.prog).keyType 214 = true := by kernel_rfl

theorem int_wf {i : Nat} (h : i < 1000000000) : (Lit.int .i64 (i : Int)).wf = true := by
  have h1 : IntKind.min .i64 = -9223372036854775808 := by rfl
  have h2 : IntKind.max .i64 = 9223372036854775807 := by rfl
  simp only [Lit.wf, Bool.and_eq_true, decide_eq_true_eq, h1, h2]; omega
theorem keyOfS (s : ByteArray) (h : s.size ≤ maxLen) : ∃ l, keyOf Tryz.prog 9 (.string s) = some l := by
  exact ⟨_, by simp [keyOf, Tryz.underlying9, mapKey, h]; rfl⟩
theorem keyOfI (i : Nat) (h : i < 1000000000) : ∃ l, keyOf Tryz.prog 3 (.int .i64 (i : Int)) = some l :=
  ⟨_, Go.Maps.keyOf_int_mk Tryz.underlying3 (int_wf h)⟩
theorem keyLitI (d : Nat) (i : Nat) (h : i < 1000000000) : (Tryz.prog).keyLits (d + 1) 3 [.int .i64 (i : Int)] = some [.int .i64 (i : Int)] := by
  simp [Program.keyLits, Tryz.underlying3, int_wf h]
theorem keyOfP (a b : Nat) (ha : a < 1000000000) (hb : b < 1000000000) : ∃ l, keyOf Tryz.prog 214 (.agg #[.int .i64 (a : Int), .int .i64 (b : Int)]) = some l := by
  have hf : (Value.agg #[.int .i64 (a : Int), .int .i64 (b : Int)]).formed Tryz.prog 214 = true := by simp [Value.formed, Tryz.underlying214, cellsP]
  obtain ⟨m, hm⟩ := typesP
  have hl : (Tryz.prog).keyLits (m + 1 + 1) 214 [.int .i64 (a : Int), .int .i64 (b : Int)] = some [.int .i64 (a : Int), .int .i64 (b : Int)] := by
    unfold Program.keyLits
    simp only [Tryz.underlying214, cellsP, cellsI, List.length_cons, List.length_nil]
    simp [List.range, List.range.loop, keyLitI m a ha, keyLitI m b hb]
  exact ⟨_, by simp only [keyOf, Tryz.underlying214, hf, keyTypeP, Value.cells, hm, hl]; rfl⟩

section
variable {P : Program} {w : World} {ops : Array Oper} {rest : List Oper} {o : Oper} {a : Act} {Q : Exit → Act → World → Prop}

theorem look_list (hg : o.guard = none) (m x : Operand) (t : TypeId) (c : Bool) (hop : o.op = Op.lookup t m x c) (k e : TypeId) (K : Keyed P k) (ht : P.underlying t = some (.map k e)) (z : Value) (hz : (zeroValue e).run P w = .ok z w) (b n : Nat) (f : Value → Option Value)
    (hm : a.eval m = .map (some b)) (h : MapIs P k w b n f) (key : Value) (hx : a.eval x = key) (hkey : ∃ kl, keyOf P k key = some kl)
    (hK : wpList P ops Q rest (a.put o.dst (if c then .tuple #[(f key).getD z, .bool (f key).isSome] else (f key).getD z)) w) : wpList P ops Q (o :: rest) a w := by
  refine wpList_plain hg fun K' hK' => ?_
  obtain ⟨kl, hkl⟩ := hkey
  have hrun := h.look K ht hz hkl c
  unfold Oper.wp
  simp [execOp, hop, hm, hx, hrun, Result.andThen]
  exact hK' _ _ (by simpa using hK)

theorem store_list (hg : o.guard = none) (m x v : Operand) (t : TypeId) (hop : o.op = Op.mapUpdate t m x v) (k e : TypeId) (K : Keyed P k) (ht : P.underlying t = some (.map k e)) (b n : Nat) (f : Value → Option Value)
    (hm : a.eval m = .map (some b)) (h : MapIs P k w b n f) (hn : n < maxLen) (key val : Value) (hx : a.eval x = key) (hv : a.eval v = val) (hkey : ∃ kl, keyOf P k key = some kl)
    (hK : ∀ w', MapIs P k w' b (n + 1) (upd (fun _ _ => Classical.propDecidable _) f key val) → w.grownBy w' (some b) → wpList P ops Q rest (a.put o.dst undef) w') : wpList P ops Q (o :: rest) a w := by
  refine wpList_plain hg fun K' hK' => ?_
  obtain ⟨kl, hkl⟩ := hkey
  obtain ⟨w', hrun, r1, r2⟩ := h.store K ht hn hkl (val := val)
  unfold Oper.wp
  simp [execOp, hop, hm, hx, hv, hrun, Result.andThen]
  exact hK' _ _ (hK w' r1 r2)
end

theorem MapIs.room {P : Program} {k : TypeId} {w : World} {b n : Nat} {f : Value → Option Value} (h : MapIs P k w b n f) (L : List Value) (hL : ∀ key v, f key = some v → key ∈ L) : MapIs P k w b L.length f := by
  obtain ⟨es, c, h1, h2, h3, h4, h5, h6⟩ := h
  refine ⟨es, c, h1, ?_, h3, h4, h5, h6⟩
  have hn : (es.toList.map (·.key)).Nodup := by rw [List.Nodup, List.pairwise_map]; exact h6
  have hs : ∀ x, x ∈ es.toList.map (·.key) → x ∈ L := fun x hx => by
    obtain ⟨y, hy, rfl⟩ := List.mem_map.1 hx
    exact hL _ _ (h4 y hy)
  have := hn.length_le_of_subset hs
  simpa using this

end Go.Proofs.YtjkdanmpihildaaGreatDoor
