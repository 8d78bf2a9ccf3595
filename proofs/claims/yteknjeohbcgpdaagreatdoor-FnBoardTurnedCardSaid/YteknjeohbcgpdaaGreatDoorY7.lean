/-
  A region that draws its order, by a small table of who waits for whom: what is reckoned at each step runs over numbers alone.
-/
import Derived.Test.YteknjeohbcgpdaaGreatDoorY1
import Derived.NoCompiler
set_option maxRecDepth 100000
namespace Go.Proofs.YteknjeohbcgpdaaGreatDoor
open Go Go.RowKit

structure Row where
  no : Nat
  after : List Nat
  dst : Nat
  looks : List Nat

def rowOf (md : Region.Mode) (ops : Array Oper) (k : Nat) (o : Oper) : Row := ⟨k, (o.after.toList.filter (Region.binds md)).map (·.on), match o.dst with | some d => d + 1 | none => 0, o.looksAt ops⟩
def tabFrom (md : Region.Mode) (ops : Array Oper) : Nat → List Oper → List Row
  | _, [] => []
  | k, o :: l => rowOf md ops k o :: tabFrom md ops (k + 1) l
def tabOf (md : Region.Mode) (ops : Array Oper) : List Row := tabFrom md ops 0 ops.toList

def memB (x : Nat) : List Nat → Bool
  | [] => false
  | y :: l => Nat.beq x y || memB x l
theorem memB_iff {x : Nat} {l : List Nat} : memB x l = true ↔ x ∈ l := by
  induction l with
  | nil => simp [memB]
  | cons y l ih => simp [memB, ih]
theorem memB_not {x : Nat} {l : List Nat} : memB x l = false ↔ x ∉ l := by rw [← memB_iff]; simp

def listedOf (n : Nat) : List Nat → Array Bool
  | [] => Array.replicate n false
  | i :: L => (listedOf n L).setIfInBounds i true
theorem listed_size (n : Nat) (L : List Nat) : (listedOf n L).size = n := by
  induction L with
  | nil => simp [listedOf]
  | cons i L ih => simp [listedOf, ih]
theorem listed_get {n : Nat} {L : List Nat} {u : Nat} (h : u < n) : (listedOf n L)[u]? = some (memB u L) := by
  induction L with
  | nil => simp [listedOf, memB, h]
  | cons i L ih =>
    simp only [listedOf, memB]
    rw [Array.getElem?_setIfInBounds]
    by_cases e : i = u
    · subst e
      rw [if_pos rfl, if_pos (by rw [listed_size]; exact h)]; simp
    · rw [if_neg e, ih]
      have : Nat.beq u i = false := by cases hb : Nat.beq u i with | false => rfl | true => exact absurd (Nat.eq_of_beq_eq_true hb).symm e
      rw [this]; simp
theorem listed_none {n : Nat} {L : List Nat} {u : Nat} (h : ¬ u < n) : (listedOf n L)[u]? = none := Array.getElem?_eq_none (by rw [listed_size]; omega)
theorem listed_un {n : Nat} {L : List Nat} {u : Nat} : (listedOf n L).getD u true = false ↔ u < n ∧ u ∉ L := by
  rw [Array.getD_eq_getD_getElem?]
  by_cases h : u < n
  · rw [listed_get h]; simp [memB_not, h]
  · rw [listed_none h]; simp [h]
theorem listed_in {n : Nat} {L : List Nat} {u : Nat} : (listedOf n L).getD u false = true ↔ u < n ∧ u ∈ L := by
  rw [Array.getD_eq_getD_getElem?]
  by_cases h : u < n
  · rw [listed_get h]; simp [memB_iff, h]
  · rw [listed_none h]; simp [h]

section
variable {P : Program} {ops : Array Oper} {Q : Exit → Act → World → Prop} {md : Region.Mode} {S : World → Prop} {T : List Nat} {tab : List Row}

theorem tabFrom_get (l : List Oper) : ∀ k j, (tabFrom md ops k l)[j]? = (l[j]?).map (rowOf md ops (k + j)) := by
  induction l with
  | nil => intro k j; simp [tabFrom]
  | cons o l ih =>
    intro k j
    cases j with
    | zero => simp [tabFrom]
    | succ j => simp only [tabFrom, List.getElem?_cons_succ]; rw [ih]; congr 1; funext o; congr 1; omega
theorem tab_get (h : tabOf md ops = tab) (j : Nat) : tab[j]? = (ops[j]?).map (rowOf md ops j) := by
  rw [← h, tabOf, tabFrom_get, Array.getElem?_toList]; simp
theorem tab_mem (h : tabOf md ops = tab) {r : Row} (hr : r ∈ tab) : ∃ o, ops[r.no]? = some o ∧ r = rowOf md ops r.no o := by
  obtain ⟨j, hj, e⟩ := List.mem_iff_getElem.1 hr
  have h1 := tab_get h j
  rw [List.getElem?_eq_getElem hj, e] at h1
  cases ho : ops[j]? with
  | none => rw [ho] at h1; simp at h1
  | some o =>
    rw [ho] at h1
    simp at h1
    have hn : r.no = j := by rw [h1]; rfl
    exact ⟨o, by rw [hn]; exact ho, by rw [hn]; exact h1⟩
theorem tab_row (h : tabOf md ops = tab) {j : Nat} {o : Oper} (ho : ops[j]? = some o) : rowOf md ops j o ∈ tab := by
  have h1 := tab_get h j
  rw [ho] at h1
  exact List.mem_of_getElem? h1

def allB (p : Nat → Bool) : List Nat → Bool
  | [] => true
  | x :: l => p x && allB p l
theorem allB_iff {p : Nat → Bool} {l : List Nat} : allB p l = true ↔ ∀ x, x ∈ l → p x = true := by
  induction l with
  | nil => simp [allB]
  | cons x l ih => simp [allB, ih]
def rowsB (p : Row → Bool) : List Row → Bool
  | [] => true
  | x :: l => p x && rowsB p l
theorem rowsB_iff {p : Row → Bool} {l : List Row} : rowsB p l = true ↔ ∀ x, x ∈ l → p x = true := by
  induction l with
  | nil => simp [rowsB]
  | cons x l ih => simp [rowsB, ih]

def mayB (L : List Nat) (r : Row) : Bool := !memB r.no L && allB (fun e => memB e L) r.after
structure Tabbed (md : Region.Mode) (ops : Array Oper) (tab : List Row) : Prop where
  eqn : tabOf md ops = tab
  sel : Region.noSelect ops = true
  edge : rowsB (fun r => allB (fun e => Nat.blt e ops.size) r.after) tab = true

theorem Tabbed.lt (h : Tabbed md ops tab) {j : Nat} {o : Oper} (ho : ops[j]? = some o) {e : Edge} (he : e ∈ o.after) (hb : Region.binds md e = true) : e.on < ops.size := by
  have h1 := allB_iff.1 (rowsB_iff.1 h.edge _ (tab_row h.eqn ho)) e.on (by simp only [rowOf, List.mem_map, List.mem_filter, Array.mem_toList_iff]; exact ⟨e, ⟨he, hb⟩, rfl⟩)
  rw [Nat.blt_eq] at h1
  exact h1
theorem mem_after {md : Region.Mode} {ops : Array Oper} {j : Nat} {o : Oper} {x : Nat} : x ∈ (rowOf md ops j o).after ↔ ∃ e, e ∈ o.after ∧ Region.binds md e = true ∧ e.on = x := by
  simp only [rowOf, List.mem_map, List.mem_filter, Array.mem_toList_iff, and_assoc]

theorem ready_iff (h : Tabbed md ops tab) {L : List Nat} {j : Nat} : j ∈ Region.ready md ops (listedOf ops.size L) ↔ ∃ o, ops[j]? = some o ∧ mayB L (rowOf md ops j o) = true := by
  rw [mem_ready]
  constructor
  · rintro ⟨h1, o, ho, h2⟩
    refine ⟨o, ho, ?_⟩
    simp only [mayB, Bool.and_eq_true, Bool.not_eq_true']
    refine ⟨memB_not.2 (listed_un.1 h1).2, allB_iff.2 fun x hx => ?_⟩
    obtain ⟨e, he, hb, rfl⟩ := mem_after.1 hx
    exact memB_iff.2 (listed_in.1 (h2 e he hb)).2
  · rintro ⟨o, ho, hm⟩
    simp only [mayB, Bool.and_eq_true, Bool.not_eq_true'] at hm
    refine ⟨listed_un.2 ⟨(Array.getElem?_eq_some_iff.1 ho).1, memB_not.1 hm.1⟩, o, ho, fun e he hb => listed_in.2 ⟨h.lt ho he hb, memB_iff.1 (allB_iff.1 hm.2 _ (mem_after.2 ⟨e, he, hb, rfl⟩))⟩⟩

def readyB (L : List Nat) : List Row → List Nat
  | [] => []
  | r :: l => if mayB L r then r.no :: readyB L l else readyB L l
theorem readyB_filter (L : List Nat) (l : List Row) : readyB L l = (l.filter (mayB L)).map (·.no) := by
  induction l with
  | nil => rfl
  | cons r l ih => simp only [readyB, List.filter_cons]; split <;> simp [ih]
theorem tabFrom_no (l : List Oper) : ∀ k, (tabFrom md ops k l).map (·.no) = List.range' k l.length := by
  induction l with
  | nil => intro k; rfl
  | cons o l ih => intro k; simp [tabFrom, ih, List.range'_succ, rowOf]
theorem ready_eq (h : Tabbed md ops tab) (L : List Nat) : Region.ready md ops (listedOf ops.size L) = readyB L tab := by
  have hno : tab.map (·.no) = List.range ops.size := by rw [← h.eqn, tabOf, tabFrom_no, List.range_eq_range', Array.length_toList]
  have e1 : Region.ready md ops (listedOf ops.size L) = (List.range ops.size).filter (fun j => decide (j ∈ Region.ready md ops (listedOf ops.size L))) := by
    conv => lhs; unfold Region.ready
    refine List.filter_congr fun j hj => ?_
    rw [Bool.eq_iff_iff, decide_eq_true_iff]
    unfold Region.ready
    rw [List.mem_filter]
    exact ⟨fun k => ⟨hj, k⟩, fun k => k.2⟩
  rw [e1, readyB_filter, ← hno, List.filter_map]
  congr 1
  refine List.filter_congr fun r hr => ?_
  rw [Bool.eq_iff_iff]
  show decide (r.no ∈ _) = true ↔ _
  rw [decide_eq_true_iff, ready_iff h]
  obtain ⟨o, ho, e⟩ := tab_mem h.eqn hr
  constructor
  · rintro ⟨o', ho', hm⟩
    rw [ho] at ho'; injection ho' with ho'; subst ho'
    rw [e]; exact hm
  · intro hm
    exact ⟨o, ho, by rw [← e]; exact hm⟩

def getR (i : Nat) : List Row → Option Row
  | [] => none
  | r :: l => if Nat.beq r.no i then some r else getR i l
theorem getR_mem {i : Nat} {l : List Row} {r : Row} (h : getR i l = some r) : r ∈ l ∧ r.no = i := by
  induction l with
  | nil => simp [getR] at h
  | cons x l ih =>
    simp only [getR] at h
    split at h
    · rename_i hb; injection h with h; subst h; exact ⟨by simp, Nat.eq_of_beq_eq_true hb⟩
    · have := ih h; exact ⟨by simp [this.1], this.2⟩
def apartR (x y : Row) : Bool :=
  (match x.dst with
   | d + 1 => !memB d y.looks && !Nat.beq y.dst (d + 1)
   | 0 => true) &&
  (match y.dst with
   | d + 1 => !memB d x.looks
   | 0 => true)
theorem apartR_spec {i j : Nat} {x y : Oper} (h : apartR (rowOf md ops i x) (rowOf md ops j y) = true) : x.apart ops y = true := by
  unfold apartR rowOf at h
  unfold Oper.apart
  cases hx : x.dst with
  | none =>
    cases hy : y.dst with
    | none => rfl
    | some d => simp only [hx, hy, Bool.true_and, Bool.not_eq_true', memB_not] at h; simpa using h
  | some d =>
    cases hy : y.dst with
    | none =>
      simp only [hx, hy, Bool.and_true, Bool.and_eq_true, Bool.not_eq_true', memB_not] at h
      simpa using h.1
    | some d' =>
      simp only [hx, hy, Bool.and_eq_true, Bool.not_eq_true', memB_not] at h
      have hne : d' ≠ d := fun e => by
        have h3 := h.1.2
        rw [e] at h3
        rw [Nat.beq_refl] at h3
        cases h3
      simp [h.1.1, h.2, hne]

def upFrom : List Nat → List Row → List Nat
  | U, [] => U
  | U, r :: l => if allB (fun e => !memB e U) r.after then upFrom U l else upFrom (r.no :: U) l
theorem upFrom_waits (h : Tabbed md ops tab) (i : Nat) : ∀ (l : List Row) (U : List Nat), (∀ r, r ∈ l → r ∈ tab) → Waits md ops U i → Waits md ops (upFrom U l) i := by
  intro l
  induction l with
  | nil => intro U _ hU; exact hU
  | cons r l ih =>
    intro U hl hU
    simp only [upFrom]
    split
    · exact ih U (fun x hx => hl x (by simp [hx])) hU
    · rename_i hn
      refine ih _ (fun x hx => hl x (by simp [hx])) fun u hu hne => ?_
      rcases List.mem_cons.1 hu with rfl | hu
      · obtain ⟨o, ho, e⟩ := tab_mem h.eqn (hl r (by simp))
        have : ∃ x, x ∈ r.after ∧ x ∈ U := by
          refine Classical.byContradiction fun hc => hn (allB_iff.2 fun x hx => ?_)
          simp only [Bool.not_eq_true', memB_not]
          exact fun hx' => hc ⟨x, hx, hx'⟩
        obtain ⟨x, hx, hxU⟩ := this
        rw [e] at hx
        obtain ⟨ed, he, hb, rfl⟩ := mem_after.1 hx
        exact ⟨o, ho, ed, he, hb, by simp [hxU]⟩
      · obtain ⟨o, ho, ed, he, hb, hm⟩ := hU u hu hne
        exact ⟨o, ho, ed, he, hb, by simp [hm]⟩

def takeB (tab : List Row) (L T : List Nat) (i : Nat) : Bool :=
  match getR i tab with
  | none => false
  | some r => mayB L r && rowsB (fun s => Nat.beq s.no i || memB s.no L || memB i s.after || apartR r s) tab && allB (fun t => memB t (upFrom [i] tab)) T && allB (fun u => !memB u L) (upFrom [i] tab)

theorem wpAnyL_take (h : Tabbed md ops tab) {i : Nat} {oi : Oper} {v : Value} {fuel : Nat} {L : List Nat} {a : Act} {w : World} (hi : ops[i]? = some oi) (hc : takeB tab L T i = true)
    (hQ : ∀ c a w, Q (.panic c) (a.put oi.dst v) w → Q (.panic c) a w) (hS : S w) (hy : YieldsIf P ops S oi v a)
    (hr : wpAnyT P md ops Q S T fuel (listedOf ops.size (i :: L)) (a.put oi.dst v) w) : wpAnyT P md ops Q S T (fuel + 1) (listedOf ops.size L) a w := by
  unfold takeB at hc
  cases hg : getR i tab with
  | none => simp [hg] at hc
  | some r =>
    simp only [hg, Bool.and_eq_true] at hc
    obtain ⟨⟨⟨h1, h2⟩, h3⟩, h4⟩ := hc
    obtain ⟨hm, hno⟩ := getR_mem hg
    obtain ⟨o, ho, e⟩ := tab_mem h.eqn hm
    rw [hno] at ho e
    rw [hi] at ho; injection ho with ho; subst ho
    have hready : i ∈ Region.ready md ops (listedOf ops.size L) := (ready_iff h).2 ⟨oi, hi, by rw [← e]; exact h1⟩
    have hup : ∀ u, u ∈ upFrom [i] tab → (listedOf ops.size L).getD u true = false := fun u hu => by
      have hn := allB_iff.1 h4 u hu
      simp only [Bool.not_eq_true', memB_not] at hn
      refine listed_un.2 ⟨?_, hn⟩
      by_cases hui : u = i
      · subst hui; exact (Array.getElem?_eq_some_iff.1 hi).1
      · obtain ⟨o', ho', _⟩ := upFrom_waits h i tab [i] (fun _ hr => hr) (fun u hu hne => by simp at hu; exact absurd hu hne) u hu hui
        exact (Array.getElem?_eq_some_iff.1 ho').1
    refine wpAnyT_first hi (Region.noSelect_spec h.sel) hQ (upFrom_waits h i tab [i] (fun _ hr => hr) (fun u hu hne => by simp at hu; exact absurd hu hne)) (fun t ht => memB_iff.1 (allB_iff.1 h3 t (by simpa using ht))) fuel _ a w (fun j oj hj hji hun hno => ?_) hup hready hy hS hr
    have h5 := rowsB_iff.1 h2 _ (tab_row h.eqn hj)
    simp only [Bool.or_eq_true] at h5
    rcases h5 with ((h5 | h5) | h5) | h5
    · exact absurd (Nat.eq_of_beq_eq_true h5) hji
    · exact absurd (memB_iff.1 h5) (listed_un.1 hun).2
    · obtain ⟨ed, he, hb, hon⟩ := mem_after.1 (memB_iff.1 h5)
      exact absurd hon (hno ed he hb)
    · rw [e] at h5; exact apartR_spec h5

theorem tkB (h : Tabbed md ops tab) {i : Nat} {oi : Oper} {v : Value} {fuel : Nat} {L : List Nat} {a : Act} {w : World} (hS : S w) (hr : wpAnyT P md ops Q S T fuel (listedOf ops.size (i :: L)) (a.put oi.dst v) w) (hi : ops[i]? = some oi := by simp only [gE]; rfl)
    (hy : YieldsIf P ops S oi v a := by exact Or.inl ⟨by rfl, by intro w' hSw; (try dsimp only at hSw); go_simp; (try with_reducible rfl)⟩) (hc : takeB tab L T i = true := by kernel_rfl)
    (hQ : ∀ c a w, Q (.panic c) (a.put oi.dst v) w → Q (.panic c) a w := by exact fun _ _ _ h => h) : wpAnyT P md ops Q S T (fuel + 1) (listedOf ops.size L) a w :=
  wpAnyL_take h hi hc hQ hS hy hr

theorem wpAnyL_step (h : Tabbed md ops tab) {i : Nat} {o : Oper} {fuel : Nat} {L : List Nat} {a : Act} {w : World} (hr : readyB L tab = [i]) (ho : ops[i]? = some o)
    (hk : ∀ K' : Act → World → Prop, Shut (∀ a w, (T.contains i = false → S w) → wpAnyT P md ops Q S T fuel (listedOf ops.size (i :: L)) a w → K' a w) → if Region.wanted o (yielded ops a.tmps) = true then Oper.wp P o a w K' Q else K' (a.put o.dst undef) w) :
    wpAnyT P md ops Q S T (fuel + 1) (listedOf ops.size L) a w := wpAnyT_step ((ready_eq h L).trans hr) ho hk
theorem wpAnyL_two (h : Tabbed md ops tab) {i j : Nat} {fuel : Nat} {L : List Nat} {a : Act} {w : World} (hr : readyB L tab = [i, j]) (h1 : StepT P md ops Q S T fuel (listedOf ops.size L) a w i) (h2 : StepT P md ops Q S T fuel (listedOf ops.size L) a w j) :
    wpAnyT P md ops Q S T (fuel + 1) (listedOf ops.size L) a w := wpAnyT_two ((ready_eq h L).trans hr) h1 h2
theorem StepL.run {i : Nat} {o : Oper} {fuel : Nat} {L : List Nat} {a : Act} {w : World} (ho : ops[i]? = some o)
    (hk : ∀ K' : Act → World → Prop, Shut (∀ a w, (T.contains i = false → S w) → wpAnyT P md ops Q S T fuel (listedOf ops.size (i :: L)) a w → K' a w) → if Region.wanted o (yielded ops a.tmps) = true then Oper.wp P o a w K' Q else K' (a.put o.dst undef) w) :
    StepT P md ops Q S T fuel (listedOf ops.size L) a w i := StepT.run ho hk

def chainL (tab : List Row) : List Nat → List Nat → Bool
  | [], L => match readyB L tab with | [] => true | _ => false
  | i :: rs, L => (match readyB L tab with | [j] => Nat.beq i j | _ => false) && chainL tab rs (i :: L)
theorem chainL_spec (h : Tabbed md ops tab) : ∀ (rs L : List Nat), chainL tab rs L = true → chainB md ops rs (listedOf ops.size L) = true := by
  intro rs
  induction rs with
  | nil =>
    intro L hc
    simp only [chainL] at hc
    simp only [chainB, beq_iff_eq, ready_eq h]
    split at hc
    · assumption
    · cases hc
  | cons i rs ih =>
    intro L hc
    simp only [chainL, Bool.and_eq_true] at hc
    simp only [chainB, Bool.and_eq_true, beq_iff_eq, ready_eq h]
    refine ⟨?_, ih (i :: L) hc.2⟩
    have h1 := hc.1
    split at h1
    · rename_i j hj; rw [hj, Nat.eq_of_beq_eq_true h1]
    · cases h1
theorem wpAnyL_tail (h : Tabbed md ops tab) (rs : List Nat) (os : List Oper) (fuel : Nat) (L : List Nat) (a : Act) (w : World) (hl : rs.length ≤ fuel) (hc : chainL tab rs L = true) (hT : rs.all (fun i => T.contains i) = true) (hm : rs.map (fun i => ops[i]?) = os.map some)
    (hw : wpList P ops Q os a w) : wpAnyT P md ops Q S T fuel (listedOf ops.size L) a w := wpAnyT_tail rs os fuel _ a w hl (chainL_spec h rs L hc) hT hm hw

theorem stB (h : Tabbed md ops tab) {i : Nat} {o : Oper} {fuel : Nat} {L : List Nat} {a : Act} {w : World}
    (hk : ∀ K' : Act → World → Prop, Shut (∀ a w, (T.contains i = false → S w) → wpAnyT P md ops Q S T fuel (listedOf ops.size (i :: L)) a w → K' a w) → if Region.wanted o (yielded ops a.tmps) = true then Oper.wp P o a w K' Q else K' (a.put o.dst undef) w)
    (hr : readyB L tab = [i] := by kernel_rfl) (ho : ops[i]? = some o := by simp only [gE]; rfl) : wpAnyT P md ops Q S T (fuel + 1) (listedOf ops.size L) a w := wpAnyL_step h hr ho hk
theorem rnB {i : Nat} {o : Oper} {fuel : Nat} {L : List Nat} {a : Act} {w : World}
    (hk : ∀ K' : Act → World → Prop, Shut (∀ a w, (T.contains i = false → S w) → wpAnyT P md ops Q S T fuel (listedOf ops.size (i :: L)) a w → K' a w) → if Region.wanted o (yielded ops a.tmps) = true then Oper.wp P o a w K' Q else K' (a.put o.dst undef) w)
    (ho : ops[i]? = some o := by simp only [gE]; rfl) : StepT P md ops Q S T fuel (listedOf ops.size L) a w i := StepL.run ho hk
theorem tlB (h : Tabbed md ops tab) (rs : List Nat) (os : List Oper) {fuel : Nat} {L : List Nat} {a : Act} {w : World} (hw : wpList P ops Q os a w) (hl : rs.length ≤ fuel := by simp) (hc : chainL tab rs L = true := by kernel_rfl) (hT : rs.all (fun i => T.contains i) = true := by rfl)
    (hm : rs.map (fun i => ops[i]?) = os.map some := by simp only [List.map_cons, List.map_nil, gE]; rfl) : wpAnyT P md ops Q S T fuel (listedOf ops.size L) a w := wpAnyL_tail h rs os fuel L a w hl hc hT hm hw

theorem wp_region_L {id : Nat} {a : Act} {w : World} (S : World → Prop) (T : List Nat) (tab : List Row) (hm : P.follows .mixedOrders = true) (h : Tabbed .any ops tab) (hS : S w.drew)
    (hk : Tabbed .any ops tab → S w.drew → wpAnyT P .any ops Q S T ops.size (listedOf ops.size []) a w.drew) : (Code.region id ops true).wp P Q a w := wp_region_T S T hm hS (hk h)

end
end Go.Proofs.YteknjeohbcgpdaaGreatDoor
