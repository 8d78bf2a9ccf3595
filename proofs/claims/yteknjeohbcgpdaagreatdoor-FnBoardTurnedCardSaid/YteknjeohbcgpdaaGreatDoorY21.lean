/-
  Contract of the program's distinct.
-/
import Derived.Test.YteknjeohbcgpdaaGreatDoorY4
import Derived.Test.YteknjeohbcgpdaaGreatDoorY8
import Derived.Test.YteknjeohbcgpdaaGreatDoorY15
import Derived.Test.YteknjeohbcgpdaaGreatDoorY18
set_option maxRecDepth 100000
namespace Go.Proofs.YteknjeohbcgpdaaGreatDoor
open Go.RowKit

theorem mapBlock_heap (w : World) (g : Nat) (f : Array Value → Array Value) {cur : Array Value} {e : TypeId} {fr : Nat × Nat} (h : w.heap[g]? = some (.cells cur e fr)) : (Go.Sort.mapBlock w g f).heap[g]? = some (.cells (f cur) e fr) := by
  simp [Go.Sort.mapBlock, Array.getElem?_modify, h, Go.Sort.onCells]
theorem mapBlock_other (w : World) (g k : Nat) (f : Array Value → Array Value) (h : k ≠ g) : (Go.Sort.mapBlock w g f).heap[k]? = w.heap[k]? := by
  simp [Go.Sort.mapBlock, Array.getElem?_modify, Ne.symm h]
theorem grow_heap (w : World) (os : Array Obj) {k : Nat} (h : k < w.heap.size) : (Go.Sort.grow w os).heap[k]? = w.heap[k]? := by
  simp [Go.Sort.grow, Array.getElem?_append_left h]

theorem own_put {w : World} {base e g n cap : Nat} {l l' : List Int} (h : w.ownsRow base e 1 (.slice (some ⟨g, 0, none⟩) n cap) n (l.map (Value.int .i64))) (hl : l'.length = l.length) (m : Nat) (os : Array Obj) :
    (Go.Sort.grow (Go.Sort.putRow (Value.int .i64) (Go.Sort.ahead w m) g 0 l'.toArray) os).ownsRow base e 1 (.slice (some ⟨g, 0, none⟩) n cap) n (l'.map (Value.int .i64)) ∧ Keep (fun b => b = g) w (Go.Sort.grow (Go.Sort.putRow (Value.int .i64) (Go.Sort.ahead w m) g 0 l'.toArray) os) := by
  obtain ⟨hlen, h⟩ := h
  rw [List.length_map] at hlen
  have hgl : g < w.heap.size := by
    rcases h with ⟨h, _⟩ | ⟨g', cap', cur, h1, h2, h3, _⟩
    · simp at h
    · simp only [Value.slice.injEq, Option.some.injEq, Addr.mk.injEq, and_true, true_and] at h1
      obtain ⟨rfl, rfl⟩ := h1; exact blk_lt h3
  have hsz : (Go.Sort.putRow (Value.int .i64) (Go.Sort.ahead w m) g 0 l'.toArray).heap.size = w.heap.size := by rw [Go.Sort.size_putRow]; rfl
  refine ⟨⟨by rw [List.length_map]; omega, ?_⟩, rfl, rfl, rfl, by simp [Go.Sort.grow, hsz], fun k hk hn => ?_⟩
  · rcases h with ⟨h, _⟩ | ⟨g', cap', cur, h1, h2, h3, h4, h5, h6, h7⟩
    · simp at h
    · simp only [Value.slice.injEq, Option.some.injEq, Addr.mk.injEq, and_true, true_and] at h1
      obtain ⟨rfl, rfl⟩ := h1
      refine .inr ⟨g, cap, Go.Sort.putCells (Value.int .i64) 0 l'.toArray cur, rfl, h2, ?_, h4, h5, by simp [Go.Sort.putCells, h6], ?_⟩
      · rw [grow_heap _ _ (by rw [hsz]; exact hgl)]
        exact mapBlock_heap _ _ _ h3
      · apply List.ext_getElem?
        intro i
        rw [List.getElem?_take]
        by_cases c : i < n * 1
        · rw [if_pos c, Array.getElem?_toList]
          have hc : i < cur.size := by rw [h6]; have := Nat.mul_le_mul_right 1 h4; omega
          have hi : i < l'.length := by omega
          rw [List.getElem?_map, List.getElem?_eq_getElem hi]
          simp only [Go.Sort.putCells, Array.getElem?_mapIdx, Array.getElem?_eq_getElem hc, Option.map_some]
          rw [if_pos (by simp; omega)]
          simp [hi]
        · rw [if_neg c, List.getElem?_eq_none (by rw [List.length_map]; omega)]
  · rw [grow_heap _ _ (by rw [hsz]; exact hk)]
    exact mapBlock_other (Go.Sort.ahead w m) g k _ hn
theorem own_holds {w : World} {base e g n cap : Nat} {l : List Int} (h : w.ownsRow base e 1 (.slice (some ⟨g, 0, none⟩) n cap) n (l.map (Value.int .i64))) : Go.Sort.Holds (Value.int .i64) w g 0 l.toArray := by
  intro j hj
  have hl := h.1
  rw [List.length_map] at hl
  have hj' : j < l.length := by simpa using hj
  rw [Nat.zero_add]
  refine ⟨?_, h.frozenAt j⟩
  rw [int_cell h (by omega), zat_lt hj']
  simp [hj']

theorem own_shrink {w : World} {base e g n cap k : Nat} {l : List Int} (h : w.ownsRow base e 1 (.slice (some ⟨g, 0, none⟩) n cap) n (l.map (Value.int .i64))) (hk : k ≤ n) : w.ownsRow base e 1 (.slice (some ⟨g, 0, none⟩) k cap) k ((l.take k).map (Value.int .i64)) := by
  obtain ⟨hlen, h⟩ := h
  rw [List.length_map] at hlen
  refine ⟨by rw [List.length_map, List.length_take]; omega, ?_⟩
  rcases h with ⟨h, _⟩ | ⟨g', cap', cur, h1, h2, h3, h4, h5, h6, h7⟩
  · simp at h
  · simp only [Value.slice.injEq, Option.some.injEq, Addr.mk.injEq, and_true, true_and] at h1
    obtain ⟨rfl, rfl⟩ := h1
    refine .inr ⟨g, cap, cur, rfl, h2, h3, by omega, h5, h6, ?_⟩
    rw [List.map_take, ← h7, List.take_take]; congr 1; omega

def dstZ (l : List Int) : List Int := Lib.compact (l.mergeSort fun x y => decide (x ≤ y))
def DistPost (l : List Int) (w : World) (e : Ending) (w' : World) : Prop := ∃ v', e = .returned v' ∧ w'.ownsRow w.heap.size 3 1 v' (dstZ l).length ((dstZ l).map (Value.int .i64)) ∧ Ext w w'

theorem distinct_any (v : Value) (l : List Int) (w : World) (h : Ints w v l) (hl : l.length ≤ 1000000000) : Calls Tryz.prog 168 #[v] w (DistPost l w) := by
  obtain ⟨a, cap, rfl, hlc, hcap, hc⟩ := id h
  rcases Nat.eq_zero_or_pos l.length with hz | hz
  · have hln : l = [] := List.eq_nil_of_length_eq_zero hz
    subst hln
    have hd : dstZ [] = [] := by simp [dstZ, Lib.compact, Lib.compactUpTo]
    cases a with
    | none =>
      go_enter Tryz.func168, Tryz.ntmps168
      go_wp2_with (first
        | (go_at_call 203; refine (Tryz.slices_Clone_int_nil _ _ _).mono ?_; rintro e w1 ⟨rfl, rfl⟩)
        | (go_at_call 201; refine (Tryz.slices_Sort_int_none _ _ _).mono ?_; rintro e w1 ⟨rfl, hw1⟩)
        | (go_at_call 204; refine (Tryz.slices_Compact_int_empty _ _ _).mono ?_; rintro e w1 ⟨rfl, rfl⟩))
      go_ret
      exact ⟨_, rfl, by rw [hd]; exact ⟨by simp, .inl ⟨rfl, rfl⟩⟩, Below.refl _ _⟩
    | some ad =>
      go_enter Tryz.func168, Tryz.ntmps168
      go_wp2_with (first
        | (go_at_call 203; refine (Tryz.slices_Clone_int_zero _ _ _).mono ?_; rintro e w1 ⟨v1, rfl, ho1, -, hx1⟩; obtain ⟨a1, c1, rfl, -⟩ := own_len ho1)
        | (go_at_call 201; refine (Tryz.slices_Sort_int_none _ _ _).mono ?_; rintro e w2 ⟨rfl, hw2⟩; subst hw2)
        | (go_at_call 204; refine (Tryz.slices_Compact_int_empty _ _ _).mono ?_; rintro e w3 ⟨rfl, hw3⟩; subst hw3))
      go_ret
      exact ⟨_, rfl, by rw [hd]; exact ho1, hx1⟩
  · obtain ⟨b, off, rfl, hcell⟩ := hc hz
    have hg : ∀ j, j < l.length → w.cell? ⟨b, off + j, none⟩ = some (.int .i64 (l.getD j 0)) := fun j hj => by rw [hcell j hj]; simp [zat]
    go_enter Tryz.func168, Tryz.ntmps168
    go_upto_region 2 with (go_at_call 203; refine (Tryz.slices_Clone_int b off l.length _ l _ (Nat.le_refl _) (by omega) hg).mono ?_; rintro e w1 ⟨v1, rfl, ho1, -, hx1⟩)
    rw [List.take_of_length_le (Nat.le_refl _)] at ho1
    obtain ⟨g, c1, rfl, hc1, hc1m, -⟩ := own_at ho1 hz
    have hgl := ho1.lt g rfl
    have hms : (l.mergeSort fun x y => decide (x ≤ y)).length = l.length := List.length_mergeSort _
    go_upto_region 3 with (go_at_call 201; refine (Tryz.slices_Sort_int g 0 _ l _ (own_holds ho1) hgl.2 (by omega)).mono ?_; rintro e w2 ⟨rfl, m2, os2, hw2⟩)
    obtain ⟨ho2, hk2⟩ := own_put ho1 hms m2 os2
    rw [← hw2] at ho2 hk2 ⊢
    clear hw2
    generalize hmsd : (l.mergeSort fun x y => decide (x ≤ y)) = ms at *
    have hcl : (Lib.compact ms).length ≤ l.length := by
      rw [← hms]; unfold Lib.compact Lib.compactUpTo
      rw [List.length_map]; exact Nat.le_trans (List.length_filter_le _ _) (by simp)
    have hC := Tryz.slices_Compact_int g 0 c1 ms w2 (own_holds ho2) (by rw [hms]; omega) (by rw [hms]; exact hc1)
    rw [hms] at hC
    have HMS := Lib.hid hms
    have HD := Lib.hid hmsd
    clear hms hmsd
    go_wp2_with (go_at_call 204; refine hC.mono ?_; rintro e w3 ⟨rfl, q3, hw3⟩)
    go_ret
    rw [← hw3]
    have hl3 : (Lib.compact ms ++ List.replicate (l.length - (Lib.compact ms).length) 0).length = l.length := by
      rw [List.length_append, List.length_replicate]; omega
    obtain ⟨ho3, hk3⟩ := own_put ho2 (hl3.trans HMS.out.symm) q3 #[]
    have e3 : Go.Sort.grow (Go.Sort.putRow (Value.int .i64) (Go.Sort.ahead w2 q3) g 0 (Lib.compact ms ++ List.replicate (l.length - (Lib.compact ms).length) 0).toArray) #[] = w3 := by rw [Go.Sort.grow_empty, hw3]
    rw [e3] at ho3 hk3
    have hdz : dstZ l = Lib.compact ms := by unfold dstZ; rw [HD.out]
    refine ⟨_, rfl, ?_, ⟨hk3.os.trans (hk2.os.trans hx1.os), hk3.tape.trans (hk2.tape.trans hx1.tape), hk3.output.trans (hk2.output.trans hx1.output), Nat.le_trans hx1.size (Nat.le_trans hk2.size hk3.size), fun k hk => ?_⟩⟩
    · have := own_shrink ho3 (k := (Lib.compact ms).length) hcl
      rw [List.take_left] at this; rw [hdz]; exact this
    · have z1 := hx1.size
      rw [hk3.block k (by have := hk2.size; omega) (by omega), hk2.block k (by omega) (by omega)]; exact hx1.block k hk

theorem compact_asc {z : List Int} (h : z.Pairwise (· ≤ ·)) : (Lib.compact z).Pairwise (· < ·) := by
  unfold Lib.compact Lib.compactUpTo
  rw [List.pairwise_map]
  have hr : ((List.range z.length).filter (Lib.keeps z.toArray)).Pairwise (· < ·) := List.pairwise_lt_range.filter _
  refine List.Pairwise.imp_of_mem (fun {i j} hi hj hij => ?_) hr
  simp only [List.mem_filter, List.mem_range, Lib.keeps, decide_eq_true_eq] at hi hj
  rcases hj.2 with h0 | h0
  · omega
  · have e1 : z.toArray[j]! = z[j] := by simp [hj.1]
    have e2 : z.toArray[j - 1]! = z[j - 1]'(by omega) := by simp [show j - 1 < z.length by omega]
    have e3 : z.toArray[i]! = z[i] := by simp [hi.1]
    rw [e1, e2] at h0
    rw [e1, e3]
    have a : z[i] ≤ z[j - 1]'(by omega) := by
      by_cases c : i = j - 1
      · subst c; exact Int.le_refl _
      · exact List.pairwise_iff_getElem.1 h i (j - 1) hi.1 (by omega) (by omega)
    have b := List.pairwise_iff_getElem.1 h (j - 1) j (by omega) hj.1 (by omega)
    omega
theorem compact_mem {z : List Int} {x : Int} : x ∈ Lib.compact z ↔ x ∈ z := by
  have key : ∀ i (h : i < z.length), z[i] ∈ Lib.compact z := by
    intro i
    induction i with
    | zero =>
      intro h
      refine List.mem_map.2 ⟨0, List.mem_filter.2 ⟨List.mem_range.2 h, by simp [Lib.keeps]⟩, by simp [h]⟩
    | succ i ih =>
      intro h
      by_cases c : z[i + 1] = z[i]
      · rw [c]; exact ih (by omega)
      · refine List.mem_map.2 ⟨i + 1, List.mem_filter.2 ⟨List.mem_range.2 h, ?_⟩, by simp [h]⟩
        simp only [Lib.keeps, decide_eq_true_eq, Nat.add_sub_cancel]
        right
        have e1 : z.toArray[i + 1]! = z[i + 1] := by simp [h]
        have e2 : z.toArray[i]! = z[i] := by simp [show i < z.length by omega]
        rw [e1, e2]; exact c
  constructor
  · intro h
    obtain ⟨i, hi, rfl⟩ := List.mem_map.1 h
    simp only [List.mem_filter, List.mem_range] at hi
    have : z.toArray[i]! = z[i] := by simp [hi.1]
    rw [this]; exact List.getElem_mem _
  · intro h
    obtain ⟨i, hi, rfl⟩ := List.mem_iff_getElem.1 h
    exact key i hi
theorem dstZ_toZ (l : List Nat) : dstZ (toZ l) = toZ (sortN l) := by
  have hs : ((toZ l).mergeSort fun x y => decide (x ≤ y)).Pairwise (· ≤ ·) := by
    have := List.pairwise_mergeSort (le := fun x y : Int => decide (x ≤ y)) (fun a b c h1 h2 => by simp at *; omega) (fun a b => by simp; omega) (toZ l)
    exact this.imp (fun h => by simpa using h)
  have ha := compact_asc hs
  have hm : ∀ x, x ∈ dstZ (toZ l) ↔ x ∈ toZ l := fun x => by unfold dstZ; rw [compact_mem, List.mem_mergeSort]
  have hnn : ∀ x, x ∈ dstZ (toZ l) → ∃ n : Nat, x = (n : Int) := fun x hx => by obtain ⟨n, _, e⟩ := toZ_mem ((hm x).1 hx); exact ⟨n, e⟩
  have e1 : dstZ (toZ l) = toZ ((dstZ (toZ l)).map Int.toNat) := by
    unfold toZ
    rw [List.map_map]
    conv => lhs; rw [← List.map_id (dstZ _)]
    refine List.map_congr_left fun x hx => ?_
    obtain ⟨n, rfl⟩ := hnn x hx
    rfl
  rw [e1]
  congr 1
  refine Cgt.asc_ext ?_ (sortN_asc l) (fun x => ?_)
  · unfold Cgt.Asc
    rw [List.pairwise_map]
    refine List.Pairwise.imp_of_mem (fun {a b} ha hb h => ?_) ha
    obtain ⟨n, rfl⟩ := hnn a ha
    obtain ⟨m, rfl⟩ := hnn b hb
    simp; omega
  · rw [sortN_mem]
    constructor
    · intro h
      obtain ⟨y, hy, rfl⟩ := List.mem_map.1 h
      obtain ⟨n, hn, rfl⟩ := toZ_mem ((hm y).1 hy)
      simpa using hn
    · intro h
      exact List.mem_map.2 ⟨(x : Int), (hm _).2 (mem_toZ.2 h), by simp⟩

end Go.Proofs.YteknjeohbcgpdaaGreatDoor
