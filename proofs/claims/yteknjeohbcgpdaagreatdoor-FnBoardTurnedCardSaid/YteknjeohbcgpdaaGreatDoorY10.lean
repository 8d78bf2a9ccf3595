/-
  Plain law: boards as rows of letters, their free cells, the domino laid on them, their texts; no condition.
-/
import Derived.Test.YteknjeohbcgpdaaGreatDoorY9
namespace Go.Proofs.YteknjeohbcgpdaaGreatDoor.Cgt

abbrev Brd := List (List UInt8)

structure GB (b : Brd) (h w : Nat) : Prop where
  hgt : b.length = h
  h1 : 1 ≤ h ∧ h ≤ 8
  w1 : 1 ≤ w ∧ w ≤ 8
  row : ∀ r, r ∈ b → r.length = w ∧ ∀ c, c ∈ r → c = 46 ∨ c = 35
def at_ (b : Brd) (r c : Nat) : UInt8 := (b.getD r []).getD c 0
def fr (b : Brd) : Cs := fun r c => at_ b r c == 46
def setc (b : Brd) (r c : Nat) : Brd := b.set r ((b.getD r []).set c 35)
def plc (left : Bool) (b : Brd) (r c : Nat) : Brd := setc (setc b r c) (nxr left r) (nxc left c)
def cntB (b : Brd) : Nat := (b.map fun r => r.countP (· == 46)).sum

theorem GB.in_ {b : Brd} {h w : Nat} (g : GB b h w) {r c : Nat} (k : fr b r c = true) : r < h ∧ c < w := by
  unfold fr at_ at k
  by_cases hr : r < b.length
  · rw [List.getD_eq_getElem?_getD, List.getD_eq_getElem?_getD, List.getElem?_eq_getElem hr] at k
    simp only [Option.getD_some] at k
    have := (g.row _ (List.getElem_mem hr)).1
    by_cases hc : c < (b[r]).length
    · exact ⟨by have := g.hgt; omega, by omega⟩
    · rw [List.getElem?_eq_none (by omega)] at k; exact absurd k (by decide)
  · rw [List.getD_eq_getElem?_getD, List.getD_eq_getElem?_getD (l := b), List.getElem?_eq_none (Nat.le_of_not_lt hr)] at k; exact absurd k (by simp)
theorem GB.bd {b : Brd} {h w : Nat} (g : GB b h w) : Bd (fr b) := fun r c k => by
  have := g.in_ k; have := g.h1; have := g.w1; omega
theorem at_row {b : Brd} {r : Nat} (hr : r < b.length) (c : Nat) : at_ b r c = (b[r]).getD c 0 := by
  unfold at_; rw [List.getD_eq_getElem?_getD (l := b), List.getElem?_eq_getElem hr]; rfl
theorem GB.setc {b : Brd} {h w : Nat} (g : GB b h w) (r c : Nat) : GB (setc b r c) h w := by
  refine ⟨by simp [Cgt.setc, g.hgt], g.h1, g.w1, fun x hx => ?_⟩
  unfold Cgt.setc at hx
  rcases List.mem_or_eq_of_mem_set hx with e | e
  · exact g.row x e
  · by_cases hr : r < b.length
    · have hg := g.row _ (List.getElem_mem hr)
      rw [List.getD_eq_getElem?_getD, List.getElem?_eq_getElem hr, Option.getD_some] at e
      subst e
      refine ⟨by rw [List.length_set]; exact hg.1, fun c hc => ?_⟩
      rcases List.mem_or_eq_of_mem_set hc with k | k
      · exact hg.2 c k
      · exact .inr k
    · rw [List.set_eq_of_length_le (by omega)] at hx
      exact g.row x hx
theorem fr_setc {b : Brd} {h w : Nat} (g : GB b h w) {r c : Nat} (hr : r < h) : fr (setc b r c) = rm (fr b) r c := by
  have hb := g.hgt
  apply cs_ext
  intro x y
  rw [rm_iff]
  unfold fr
  by_cases hx : x < b.length
  · have hx' : x < (setc b r c).length := by simp [setc]; exact hx
    rw [at_row hx', at_row hx]
    by_cases e : x = r
    · subst e
      have h1 : (setc b x c)[x] = (b[x]).set c 35 := by
        simp only [setc, List.getElem_set_self, List.getD_eq_getElem?_getD, List.getElem?_eq_getElem hx, Option.getD_some]
      rw [h1, List.getD_eq_getElem?_getD, List.getD_eq_getElem?_getD, List.getElem?_set]
      by_cases e2 : y = c
      · subst e2
        simp only [true_and, not_true_eq_false, and_false, iff_false, if_true]
        by_cases hy : y < (b[x]).length <;> simp [hy]
      · have : ¬ c = y := fun k => e2 k.symm
        simp [this, e2]
    · have h1 : (setc b r c)[x] = b[x] := by
        simp only [setc]; rw [List.getElem_set_ne (fun k => e k.symm)]
      rw [h1]; simp [e]
  · have h1 : at_ (setc b r c) x y = 0 := by
      unfold at_; rw [List.getD_eq_getElem?_getD (l := setc b r c), List.getElem?_eq_none (by simp [setc]; omega)]; rfl
    have h2 : at_ b x y = 0 := by
      unfold at_; rw [List.getD_eq_getElem?_getD (l := b), List.getElem?_eq_none (by omega)]; rfl
    rw [h1, h2]; simp
theorem GB.plc {b : Brd} {h w : Nat} (g : GB b h w) (left : Bool) (r c : Nat) : GB (plc left b r c) h w := (g.setc r c).setc _ _
theorem fr_plc {b : Brd} {h w : Nat} (g : GB b h w) {left : Bool} {r c : Nat} (k : can left (fr b) r c = true) : fr (plc left b r c) = lay left (fr b) r c := by
  obtain ⟨k1, k2⟩ := can_iff.1 k
  unfold Cgt.plc lay
  rw [fr_setc (g.setc r c) (g.in_ k2).1, fr_setc g (g.in_ k1).1]

def mRow (left : Bool) (b : Brd) (r k : Nat) : List Brd := ((List.range k).filter fun c => can left (fr b) r c).map fun c => plc left b r c
def mAll (left : Bool) (b : Brd) (w k : Nat) : List Brd := (List.range k).flatMap fun r => mRow left b r w
theorem mRow_succ (left : Bool) (b : Brd) (r k : Nat) : mRow left b r (k + 1) = mRow left b r k ++ if can left (fr b) r k = true then [plc left b r k] else [] := by
  unfold mRow; rw [List.range_succ, List.filter_append, List.map_append]
  by_cases h : can left (fr b) r k = true <;> simp [h]
theorem mAll_succ (left : Bool) (b : Brd) (w k : Nat) : mAll left b w (k + 1) = mAll left b w k ++ mRow left b k w := by
  unfold mAll; rw [List.range_succ, List.flatMap_append]; simp
theorem mem_mAll {left : Bool} {b : Brd} {h w : Nat} (g : GB b h w) {x : Brd} : x ∈ mAll left b w h ↔ ∃ r c, can left (fr b) r c = true ∧ x = plc left b r c := by
  unfold mAll mRow
  simp only [List.mem_flatMap, List.mem_range, List.mem_map, List.mem_filter]
  constructor
  · rintro ⟨r, _, c, ⟨_, k⟩, rfl⟩; exact ⟨r, c, k, rfl⟩
  · rintro ⟨r, c, k, rfl⟩
    obtain ⟨k1, _⟩ := can_iff.1 k
    have := g.in_ k1
    exact ⟨r, this.1, c, ⟨this.2, k⟩, rfl⟩
theorem mRow_len (left : Bool) (b : Brd) (r k : Nat) : (mRow left b r k).length ≤ k := by
  unfold mRow; rw [List.length_map]; exact Nat.le_trans (List.length_filter_le _ _) (by simp)
theorem mAll_len (left : Bool) (b : Brd) (w k : Nat) : (mAll left b w k).length ≤ k * w := by
  induction k with
  | zero => simp [mAll]
  | succ k ih => rw [mAll_succ, List.length_append, Nat.succ_mul]; have := mRow_len left b k w; omega

theorem gB_moves {b : Brd} {h w : Nat} (g : GB b h w) (left : Bool) {x : Gm} : x ∈ (if left then (gB (fr b)).l else (gB (fr b)).r) ↔ ∃ y, y ∈ mAll left b w h ∧ x = gB (fr y) := by
  have key : (∃ r c, can left (fr b) r c = true ∧ x = gB (lay left (fr b) r c)) ↔ ∃ y, y ∈ mAll left b w h ∧ x = gB (fr y) := by
    constructor
    · rintro ⟨r, c, k, e⟩; exact ⟨_, (mem_mAll g).2 ⟨r, c, k, rfl⟩, by rw [e, fr_plc g k]⟩
    · rintro ⟨y, hy, e⟩
      obtain ⟨r, c, k, rfl⟩ := (mem_mAll g).1 hy
      exact ⟨r, c, k, by rw [e, fr_plc g k]⟩
  cases left with
  | true => simp only [if_true]; rw [gB_l g.bd]; exact key
  | false => simp only [Bool.false_eq_true, if_false]; rw [gB_r g.bd]; exact key

theorem range_sum {α : Type} (d : α) (f : α → Nat) (hf : f d = 0) : ∀ (n : Nat) (l : List α), l.length ≤ n → ((List.range n).map fun i => f (l.getD i d)).sum = (l.map f).sum := by
  intro n
  induction n with
  | zero => intro l hl; have : l = [] := List.eq_nil_of_length_eq_zero (by omega); subst this; rfl
  | succ n ih =>
    intro l hl
    cases l with
    | nil =>
      have := ih [] (by simp)
      rw [List.range_succ, List.map_append, List.sum_append, this]; simp [hf]
    | cons a l =>
      rw [List.range_succ_eq_map, List.map_cons, List.map_map, List.sum_cons, List.map_cons, List.sum_cons]
      congr 1
      have := ih l (by simpa using hl)
      rw [← this]
      congr 1
theorem cnt_fr {b : Brd} {h w : Nat} (g : GB b h w) : cnt (fr b) = cntB b := by
  unfold cnt grid cntB
  rw [List.countP_flatMap]
  have h8 : b.length ≤ 8 := by rw [g.hgt]; exact g.h1.2
  rw [← range_sum [] (fun r => r.countP (· == 46)) (by simp) 8 b h8]
  congr 1
  apply List.map_congr_left
  intro r hr
  simp only [Function.comp_def, List.countP_map]
  have hl : (b.getD r []).length ≤ 8 := by
    rw [List.getD_eq_getElem?_getD]
    by_cases c : r < b.length
    · rw [List.getElem?_eq_getElem c]; simp only [Option.getD_some]; have := (g.row _ (List.getElem_mem c)).1; have := g.w1; omega
    · rw [List.getElem?_eq_none (by omega)]; simp
  have := range_sum (0 : UInt8) (fun c => if c == 46 then 1 else 0) (by decide) 8 (b.getD r []) hl
  have key : ∀ {α : Type} (p : α → Bool) (l : List α), l.countP p = (l.map fun x => if p x then 1 else 0).sum := by
    intro α p l
    induction l with
    | nil => rfl
    | cons a l ih => rw [List.countP_cons, List.map_cons, List.sum_cons, ih]; cases p a <;> simp <;> omega
  rw [key, key]
  exact this

def rowOk (w : Nat) (r : List UInt8) : Bool := decide (1 ≤ r.length) && decide (r.length ≤ 8) && decide (r.length = w) && r.all fun c => c == 46 || c == 35
def goodB (b : Brd) : Bool := decide (1 ≤ b.length) && decide (b.length ≤ 8) && b.all (rowOk (b.getD 0 []).length)
theorem goodB_iff {b : Brd} : goodB b = true ↔ ∃ h w, GB b h w := by
  unfold goodB rowOk
  simp only [Bool.and_eq_true, decide_eq_true_eq, List.all_eq_true, Bool.or_eq_true, beq_iff_eq]
  constructor
  · rintro ⟨⟨h1, h2⟩, h3⟩
    have h0 : 0 < b.length := by omega
    have e : b.getD 0 [] = b[0] := by rw [List.getD_eq_getElem?_getD, List.getElem?_eq_getElem h0]; rfl
    have q := h3 _ (List.getElem_mem h0)
    refine ⟨b.length, (b.getD 0 []).length, rfl, ⟨h1, h2⟩, by rw [e]; exact ⟨q.1.1.1, q.1.1.2⟩, fun r hr => ⟨(h3 r hr).1.2, (h3 r hr).2⟩⟩
  · rintro ⟨h, w, g⟩
    have h0 : 0 < b.length := by have := g.hgt; have := g.h1; omega
    have e : b.getD 0 [] = b[0] := by rw [List.getD_eq_getElem?_getD, List.getElem?_eq_getElem h0]; rfl
    have q := (g.row _ (List.getElem_mem h0)).1
    have := g.hgt; have := g.h1; have := g.w1
    exact ⟨⟨by omega, by omega⟩, fun r hr => ⟨⟨⟨by rw [(g.row r hr).1]; omega, by rw [(g.row r hr).1]; omega⟩, by rw [e, q, (g.row r hr).1]⟩, (g.row r hr).2⟩⟩

def txtB : Brd → List UInt8
  | [] => []
  | [r] => r
  | r :: s :: t => r ++ 47 :: txtB (s :: t)
theorem txtB_cons (r s : List UInt8) (t : Brd) : txtB (r :: s :: t) = r ++ 47 :: txtB (s :: t) := rfl
theorem row_split {r r' x x' : List UInt8} (h : ∀ c, c ∈ r → c ≠ 47) (h' : ∀ c, c ∈ r' → c ≠ 47) (e : r ++ 47 :: x = r' ++ 47 :: x') : r = r' ∧ x = x' := by
  induction r generalizing r' with
  | nil =>
    cases r' with
    | nil => simp at e; exact ⟨rfl, e⟩
    | cons a l => simp at e; exact absurd e.1.symm (h' a (by simp))
  | cons a l ih =>
    cases r' with
    | nil => simp at e; exact absurd e.1 (h a (by simp))
    | cons a' l' =>
      simp only [List.cons_append, List.cons.injEq] at e
      obtain ⟨rfl, e⟩ := e
      obtain ⟨k1, k2⟩ := ih (fun c hc => h c (by simp [hc])) (fun c hc => h' c (by simp [hc])) e
      exact ⟨by rw [k1], k2⟩
theorem txtB_inj : ∀ {b b' : Brd}, (∀ r, r ∈ b → ∀ c, c ∈ r → c ≠ 47) → (∀ r, r ∈ b' → ∀ c, c ∈ r → c ≠ 47) → b ≠ [] → b' ≠ [] → txtB b = txtB b' → b = b'
  | [], _, _, _, h, _, _ => absurd rfl h
  | _, [], _, _, _, h, _ => absurd rfl h
  | [r], [r'], _, _, _, _, e => by simp only [txtB] at e; rw [e]
  | [r], r' :: s' :: t', h, _, _, _, e => by
    simp only [txtB] at e
    exact absurd rfl (h r (by simp) 47 (by rw [e]; simp))
  | r :: s :: t, [r'], _, h', _, _, e => by
    simp only [txtB] at e
    exact absurd rfl (h' r' (by simp) 47 (by rw [← e]; simp))
  | r :: s :: t, r' :: s' :: t', h, h', _, _, e => by
    rw [txtB_cons, txtB_cons] at e
    obtain ⟨k1, k2⟩ := row_split (h r (by simp)) (h' r' (by simp)) e
    have := txtB_inj (fun x hx => h x (by simp only [List.mem_cons] at hx ⊢; exact .inr hx)) (fun x hx => h' x (by simp only [List.mem_cons] at hx ⊢; exact .inr hx)) (by simp) (by simp) k2
    rw [k1, this]
theorem GB.no47 {b : Brd} {h w : Nat} (g : GB b h w) : ∀ r, r ∈ b → ∀ c, c ∈ r → c ≠ 47 := fun r hr c hc e => by
  rcases (g.row r hr).2 c hc with k | k <;> rw [e] at k <;> exact absurd k (by decide)
theorem GB.ne {b : Brd} {h w : Nat} (g : GB b h w) : b ≠ [] := fun e => by have := g.hgt; have := g.h1; rw [e] at *; simp at *; omega
theorem GB.inj {b b' : Brd} {h w h' w' : Nat} (g : GB b h w) (g' : GB b' h' w') (e : txtB b = txtB b') : b = b' := txtB_inj g.no47 g'.no47 g.ne g'.ne e
theorem txtB_count (b : Brd) : (txtB b).countP (· == 46) = cntB b := by
  unfold cntB
  induction b with
  | nil => rfl
  | cons r t ih =>
    cases t with
    | nil => simp [txtB]
    | cons s t =>
      rw [txtB_cons, List.countP_append, List.countP_cons, ih]
      simp

def vary : List UInt8 → List (List UInt8)
  | [] => [[]]
  | c :: t => if c = 46 then (vary t).map (46 :: ·) ++ (vary t).map (35 :: ·) else (vary t).map (c :: ·)
theorem vary_len (l : List UInt8) : (vary l).length = 2 ^ l.countP (· == 46) := by
  induction l with
  | nil => rfl
  | cons c t ih =>
    rw [vary, List.countP_cons]
    by_cases h : c = 46
    · rw [if_pos h]; simp [h, ih, Nat.pow_succ]; omega
    · rw [if_neg h]; simp [h, ih]
theorem vary_self (l : List UInt8) : l ∈ vary l := by
  induction l with
  | nil => simp [vary]
  | cons c t ih =>
    rw [vary]
    by_cases h : c = 46
    · subst h; simp [ih]
    · rw [if_neg h]; simp [ih]

inductive Marks : List UInt8 → List UInt8 → Prop
  | nil : Marks [] []
  | cons (c : UInt8) {x y : List UInt8} : Marks x y → Marks (c :: x) (c :: y)
  | mark {x y : List UInt8} : Marks x y → Marks (46 :: x) (35 :: y)
theorem Marks.refl : ∀ l, Marks l l
  | [] => .nil
  | c :: l => .cons c (Marks.refl l)
theorem Marks.app {a b c d : List UInt8} (h : Marks a b) (k : Marks c d) : Marks (a ++ c) (b ++ d) := by
  induction h with
  | nil => exact k
  | cons c _ ih => exact .cons c ih
  | mark _ ih => exact .mark ih
theorem vary_step {x m m' : List UInt8} (h : m ∈ vary x) (k : Marks m m') : m' ∈ vary x := by
  induction x generalizing m m' with
  | nil =>
    simp only [vary, List.mem_singleton] at h
    subst h; cases k; simp [vary]
  | cons c t ih =>
    rw [vary] at h ⊢
    by_cases e : c = 46
    · rw [if_pos e, List.mem_append, List.mem_map, List.mem_map] at h ⊢
      rcases h with ⟨a, ha, rfl⟩ | ⟨a, ha, rfl⟩
      · cases k with
        | cons _ k => exact .inl ⟨_, ih ha k, rfl⟩
        | mark k => exact .inr ⟨_, ih ha k, rfl⟩
      · cases k with
        | cons _ k => exact .inr ⟨_, ih ha k, rfl⟩
    · rw [if_neg e, List.mem_map] at h ⊢
      obtain ⟨a, ha, rfl⟩ := h
      cases k with
      | cons _ k => exact ⟨_, ih ha k, rfl⟩
      | mark k => exact absurd rfl e
theorem Marks.set {r : List UInt8} {c : Nat} (h : ∀ x, x ∈ r → x = 46 ∨ x = 35) : Marks r (r.set c 35) := by
  induction r generalizing c with
  | nil => exact .nil
  | cons a t ih =>
    cases c with
    | zero =>
      rcases h a (by simp) with e | e
      · subst e; exact .mark (Marks.refl t)
      · subst e; exact .cons _ (Marks.refl t)
    | succ c => exact .cons _ (ih fun x hx => h x (by simp [hx]))
theorem Marks.trans {x y z : List UInt8} (h : Marks x y) (k : Marks y z) : Marks x z := by
  induction h generalizing z with
  | nil => exact k
  | cons c _ ih =>
    cases k with
    | cons _ k => exact .cons _ (ih k)
    | mark k => exact .mark (ih k)
  | mark _ ih =>
    cases k with
    | cons _ k => exact .mark (ih k)
theorem txtB_marks : ∀ {b b' : Brd}, b.length = b'.length → (∀ i (h : i < b.length) (h' : i < b'.length), Marks b[i] b'[i]) → Marks (txtB b) (txtB b')
  | [], [], _, _ => .nil
  | [], _ :: _, h, _ => by simp at h
  | _ :: _, [], h, _ => by simp at h
  | [r], [r'], _, k => k 0 (by simp) (by simp)
  | [_], _ :: _ :: _, h, _ => by simp at h
  | _ :: _ :: _, [_], h, _ => by simp at h
  | r :: s :: t, r' :: s' :: t', h, k => by
    rw [txtB_cons, txtB_cons]
    exact (k 0 (by simp) (by simp)).app (.cons 47 (txtB_marks (by simpa using h) fun i h1 h2 => k (i + 1) (by simp at h1 ⊢; omega) (by simp at h2 ⊢; omega)))
theorem setc_marks {b : Brd} {h w : Nat} (g : GB b h w) (r c : Nat) : Marks (txtB b) (txtB (setc b r c)) := by
  refine txtB_marks (by simp [setc]) fun i h1 h2 => ?_
  by_cases e : r = i
  · subst e
    have q : (setc b r c)[r] = (b[r]).set c 35 := by
      simp only [setc, List.getElem_set_self, List.getD_eq_getElem?_getD, List.getElem?_eq_getElem h1, Option.getD_some]
    rw [q]
    exact Marks.set (g.row _ (List.getElem_mem h1)).2
  · have q : (setc b r c)[i] = b[i] := by simp only [setc]; rw [List.getElem_set_ne e]
    rw [q]; exact Marks.refl _
theorem plc_marks {b : Brd} {h w : Nat} (g : GB b h w) (left : Bool) (r c : Nat) : Marks (txtB b) (txtB (plc left b r c)) := (setc_marks g r c).trans (setc_marks (g.setc r c) _ _)

end Go.Proofs.YteknjeohbcgpdaaGreatDoor.Cgt
