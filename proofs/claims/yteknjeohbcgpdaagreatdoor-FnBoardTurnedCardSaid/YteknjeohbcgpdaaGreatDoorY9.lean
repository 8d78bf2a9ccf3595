/-
  Plain law, no program in sight: parts of a set of cells that hang together, taken off one by one, and the bound on the forms' sizes; no condition. (2 texts.)
-/
import Derived.Test.YteknjeohbcgpdaaGreatDoorY3
namespace Go.Proofs.YteknjeohbcgpdaaGreatDoor.Cgt

abbrev Cs := Nat → Nat → Bool
def rm (S : Cs) (r c : Nat) : Cs := fun x y => S x y && !(x == r && y == c)
def nxr (left : Bool) (r : Nat) : Nat := if left then r + 1 else r
def nxc (left : Bool) (c : Nat) : Nat := if left then c else c + 1
def can (left : Bool) (S : Cs) (r c : Nat) : Bool := S r c && S (nxr left r) (nxc left c)
def lay (left : Bool) (S : Cs) (r c : Nat) : Cs := rm (rm S r c) (nxr left r) (nxc left c)
def Bd (S : Cs) : Prop := ∀ r c, S r c = true → r < 8 ∧ c < 8
def grid : List (Nat × Nat) := (List.range 8).flatMap fun r => (List.range 8).map fun c => (r, c)
def cnt (S : Cs) : Nat := grid.countP fun p => S p.1 p.2
def movesOf (left : Bool) (S : Cs) : List Cs := (grid.filter fun p => can left S p.1 p.2).map fun p => lay left S p.1 p.2
def gF : Nat → Cs → Gm
  | 0, _ => .mk [] []
  | n + 1, S => .mk ((movesOf true S).map (gF n)) ((movesOf false S).map (gF n))
def gB (S : Cs) : Gm := gF (cnt S) S

theorem mem_grid {r c : Nat} : (r, c) ∈ grid ↔ r < 8 ∧ c < 8 := by simp [grid]
theorem grid_nodup : grid.Nodup := by decide
theorem nbr_ne (left : Bool) (r c : Nat) : ¬ (nxr left r = r ∧ nxc left c = c) := by cases left <;> simp [nxr, nxc]
theorem rm_le {S : Cs} {r c x y : Nat} (h : rm S r c x y = true) : S x y = true ∧ ¬ (x = r ∧ y = c) := by
  simp only [rm, Bool.and_eq_true, Bool.not_eq_true', Bool.and_eq_false_iff, beq_eq_false_iff_ne] at h
  exact ⟨h.1, fun e => by rcases h.2 with k | k; exact k e.1; exact k e.2⟩
theorem rm_iff {S : Cs} {r c x y : Nat} : rm S r c x y = true ↔ S x y = true ∧ ¬ (x = r ∧ y = c) :=
  ⟨rm_le, fun ⟨h, k⟩ => by
    simp only [rm, Bool.and_eq_true, Bool.not_eq_true', Bool.and_eq_false_iff, beq_eq_false_iff_ne]
    refine ⟨h, ?_⟩
    by_cases e : x = r
    · exact .inr fun e' => k ⟨e, e'⟩
    · exact .inl e⟩
theorem can_iff {left : Bool} {S : Cs} {r c : Nat} : can left S r c = true ↔ S r c = true ∧ S (nxr left r) (nxc left c) = true := by simp [can]
theorem lay_iff {left : Bool} {S : Cs} {r c x y : Nat} : lay left S r c x y = true ↔ S x y = true ∧ ¬ (x = r ∧ y = c) ∧ ¬ (x = nxr left r ∧ y = nxc left c) := by
  rw [lay, rm_iff, rm_iff, and_assoc]
theorem cs_ext {A B : Cs} (h : ∀ x y, A x y = true ↔ B x y = true) : A = B := by
  funext x y
  have := h x y
  cases hA : A x y <;> cases hB : B x y <;> simp_all
theorem Bd.lay {left : Bool} {S : Cs} (h : Bd S) (r c : Nat) : Bd (lay left S r c) := fun x y k => h x y (lay_iff.1 k).1

theorem count_rm {l : List (Nat × Nat)} (hn : l.Nodup) {S : Cs} {r c : Nat} (hm : (r, c) ∈ l) (hs : S r c = true) : l.countP (fun p => rm S r c p.1 p.2) + 1 = l.countP fun p => S p.1 p.2 := by
  induction l with
  | nil => cases hm
  | cons q l ih =>
    obtain ⟨hq, hn⟩ := List.nodup_cons.1 hn
    rw [List.countP_cons, List.countP_cons]
    by_cases e : q = (r, c)
    · subst e
      have h0 : l.countP (fun p => rm S r c p.1 p.2) = l.countP fun p => S p.1 p.2 := by
        apply List.countP_congr
        intro p hp
        rw [rm_iff]
        exact ⟨fun h => h.1, fun h => ⟨h, fun e => hq (by rw [← e.1, ← e.2]; exact hp)⟩⟩
      have h1 : rm S r c r c = false := by simp [rm]
      simp [h0, h1, hs]
    · have hm' : (r, c) ∈ l := by rcases List.mem_cons.1 hm with h | h; exact absurd h.symm e; exact h
      have h1 : rm S r c q.1 q.2 = S q.1 q.2 := by
        have : ¬ (q.1 = r ∧ q.2 = c) := fun k => e (by rw [← k.1, ← k.2])
        cases hS : S q.1 q.2 with
        | true => exact rm_iff.2 ⟨hS, this⟩
        | false => simp [rm, hS]
      rw [h1]
      have := ih hn hm'
      omega
theorem cnt_rm {S : Cs} {r c : Nat} (hb : r < 8 ∧ c < 8) (hs : S r c = true) : cnt (rm S r c) + 1 = cnt S := count_rm grid_nodup (mem_grid.2 hb) hs
theorem cnt_lay {left : Bool} {S : Cs} {r c : Nat} (hB : Bd S) (h : can left S r c = true) : cnt (lay left S r c) + 2 = cnt S := by
  obtain ⟨h1, h2⟩ := can_iff.1 h
  have a := cnt_rm (hB _ _ h1) h1
  have b := cnt_rm (S := rm S r c) (hB _ _ h2) (rm_iff.2 ⟨h2, nbr_ne left r c⟩)
  unfold lay; omega
theorem cnt_pos {S : Cs} (hB : Bd S) {r c : Nat} (h : S r c = true) : 0 < cnt S := by
  have := cnt_rm (hB _ _ h) h; omega
theorem mem_moves {left : Bool} {S x : Cs} (hB : Bd S) : x ∈ movesOf left S ↔ ∃ r c, can left S r c = true ∧ x = lay left S r c := by
  unfold movesOf
  rw [List.mem_map]
  constructor
  · rintro ⟨⟨r, c⟩, h, rfl⟩
    exact ⟨r, c, (List.mem_filter.1 h).2, rfl⟩
  · rintro ⟨r, c, h, rfl⟩
    exact ⟨(r, c), List.mem_filter.2 ⟨mem_grid.2 (hB _ _ (can_iff.1 h).1), h⟩, rfl⟩
theorem gF_enough : ∀ n m {S : Cs}, Bd S → cnt S ≤ n → cnt S ≤ m → gF n S = gF m S := by
  have none : ∀ {S : Cs} (left : Bool), Bd S → cnt S = 0 → movesOf left S = [] := fun left hB h => by
    cases e : movesOf left _ with
    | nil => rfl
    | cons a l => obtain ⟨r, c, hc, _⟩ := (mem_moves hB).1 (e ▸ List.mem_cons_self .. : a ∈ movesOf left _); have := cnt_pos hB (can_iff.1 hc).1; omega
  intro n
  induction n with
  | zero =>
    intro m S hB hn hm
    cases m with
    | zero => rfl
    | succ m => simp [gF, none true hB (by omega), none false hB (by omega)]
  | succ n ih =>
    intro m S hB hn hm
    cases m with
    | zero => simp [gF, none true hB (by omega), none false hB (by omega)]
    | succ m =>
      rw [gF, gF]
      congr 1
      all_goals
        apply List.map_congr_left
        intro x hx
        obtain ⟨r, c, hc, rfl⟩ := (mem_moves hB).1 hx
        have := cnt_lay hB hc
        exact ih m (hB.lay r c) (by omega) (by omega)
theorem gB_eq {S : Cs} (hB : Bd S) : gB S = .mk ((movesOf true S).map gB) ((movesOf false S).map gB) := by
  rw [gB, gF_enough (cnt S) (cnt S + 1) hB (Nat.le_refl _) (by omega), gF]
  congr 1
  all_goals
    apply List.map_congr_left
    intro x hx
    obtain ⟨r, c, hc, rfl⟩ := (mem_moves hB).1 hx
    have := cnt_lay hB hc
    exact gF_enough _ _ (hB.lay r c) (by omega) (Nat.le_refl _)
theorem gB_l {S : Cs} (hB : Bd S) {x : Gm} : x ∈ (gB S).l ↔ ∃ r c, can true S r c = true ∧ x = gB (lay true S r c) := by
  rw [gB_eq hB]; simp only [Gm.l, List.mem_map, mem_moves hB]
  exact ⟨fun ⟨_, ⟨r, c, h, e⟩, k⟩ => ⟨r, c, h, by rw [← k, e]⟩, fun ⟨r, c, h, e⟩ => ⟨_, ⟨r, c, h, rfl⟩, e.symm⟩⟩
theorem gB_r {S : Cs} (hB : Bd S) {x : Gm} : x ∈ (gB S).r ↔ ∃ r c, can false S r c = true ∧ x = gB (lay false S r c) := by
  rw [gB_eq hB]; simp only [Gm.r, List.mem_map, mem_moves hB]
  exact ⟨fun ⟨_, ⟨r, c, h, e⟩, k⟩ => ⟨r, c, h, by rw [← k, e]⟩, fun ⟨r, c, h, e⟩ => ⟨_, ⟨r, c, h, rfl⟩, e.symm⟩⟩

theorem same_sets {A B : Cs} (hA : Bd A) (hB : Bd B) (h : ∀ left r c, can left A r c = true → ∃ r' c', can left B r' c' = true ∧ Same (gB (lay left A r c)) (gB (lay left B r' c')))
    (k : ∀ left r c, can left B r c = true → ∃ r' c', can left A r' c' = true ∧ Same (gB (lay left A r' c')) (gB (lay left B r c))) : Same (gB A) (gB B) := by
  rw [same_iff]
  refine ⟨fun x hx => ?_, fun y hy => ?_, fun x hx => ?_, fun y hy => ?_⟩
  · obtain ⟨r, c, h1, rfl⟩ := (gB_l hA).1 hx
    obtain ⟨r', c', h2, h3⟩ := h _ _ _ h1
    exact ⟨_, (gB_l hB).2 ⟨r', c', h2, rfl⟩, h3⟩
  · obtain ⟨r, c, h1, rfl⟩ := (gB_l hB).1 hy
    obtain ⟨r', c', h2, h3⟩ := k _ _ _ h1
    exact ⟨_, (gB_l hA).2 ⟨r', c', h2, rfl⟩, h3⟩
  · obtain ⟨r, c, h1, rfl⟩ := (gB_r hA).1 hx
    obtain ⟨r', c', h2, h3⟩ := h _ _ _ h1
    exact ⟨_, (gB_r hB).2 ⟨r', c', h2, rfl⟩, h3⟩
  · obtain ⟨r, c, h1, rfl⟩ := (gB_r hB).1 hy
    obtain ⟨r', c', h2, h3⟩ := k _ _ _ h1
    exact ⟨_, (gB_r hA).2 ⟨r', c', h2, rfl⟩, h3⟩

theorem shift_same : ∀ n {S T : Cs} {a b : Nat}, cnt S ≤ n → Bd S → Bd T → (∀ r c, S r c = true → a ≤ r ∧ b ≤ c) → (∀ r c, T r c = S (r + a) (c + b)) → Same (gB T) (gB S) := by
  intro n
  induction n with
  | zero =>
    intro S T a b hn hS hT _ hST
    have e : ∀ r c, S r c = false := fun r c => by
      cases h : S r c with
      | false => rfl
      | true => have := cnt_pos hS h; omega
    have hno : ∀ left r c, can left S r c = false := fun left r c => by simp [can, e]
    have hnoT : ∀ left r c, can left T r c = false := fun left r c => by simp [can, hST, e]
    exact same_sets hT hS (fun left r c h => by rw [hnoT] at h; cases h) (fun left r c h => by rw [hno] at h; cases h)
  | succ n ih =>
    intro S T a b hn hS hT hab hST
    have hcan : ∀ left r c, can left T r c = can left S (r + a) (c + b) := fun left r c => by
      unfold can
      rw [hST, hST]
      have e1 : nxr left r + a = nxr left (r + a) := by cases left <;> simp [nxr]; omega
      have e2 : nxc left c + b = nxc left (c + b) := by cases left <;> simp [nxc]; omega
      rw [e1, e2]
    have step : ∀ left r c, can left S (r + a) (c + b) = true → Same (gB (lay left T r c)) (gB (lay left S (r + a) (c + b))) := fun left r c h => by
      have := cnt_lay hS h
      refine ih (a := a) (b := b) (by omega) (hS.lay _ _) (hT.lay _ _) (fun x y k => hab x y (lay_iff.1 k).1) (fun x y => ?_)
      have : lay left T r c x y = true ↔ lay left S (r + a) (c + b) (x + a) (y + b) = true := by
        rw [lay_iff, lay_iff, hST]
        have e1 : nxr left (r + a) = nxr left r + a := by cases left <;> simp [nxr]; omega
        have e2 : nxc left (c + b) = nxc left c + b := by cases left <;> simp [nxc]; omega
        rw [e1, e2]
        simp only [Nat.add_right_cancel_iff]
      cases h1 : lay left T r c x y <;> cases h2 : lay left S (r + a) (c + b) (x + a) (y + b) <;> simp_all
    refine same_sets hT hS (fun left r c h => ⟨r + a, c + b, by rw [← hcan]; exact h, step left r c (by rw [← hcan]; exact h)⟩) (fun left r c h => ?_)
    obtain ⟨h1, h2⟩ := hab r c (can_iff.1 h).1
    obtain ⟨r', rfl⟩ : ∃ r', r = r' + a := ⟨r - a, by omega⟩
    obtain ⟨c', rfl⟩ : ∃ c', c = c' + b := ⟨c - b, by omega⟩
    exact ⟨r', c', by rw [hcan]; exact h, step left r' c' h⟩

def cup (A B : Cs) : Cs := fun x y => A x y || B x y
theorem cup_iff {A B : Cs} {x y : Nat} : cup A B x y = true ↔ A x y = true ∨ B x y = true := by simp [cup]

def Nbr (r c x y : Nat) : Prop := (∃ left, x = nxr left r ∧ y = nxc left c) ∨ ∃ left, r = nxr left x ∧ c = nxc left y
theorem Nbr.symm {r c x y : Nat} (h : Nbr r c x y) : Nbr x y r c := h.elim .inr .inl

structure Apart (A B : Cs) : Prop where
  no : ∀ r c, A r c = true → B r c = true → False
  by_ : ∀ r c x y, A r c = true → B x y = true → Nbr r c x y → False
theorem Apart.sub {A B A' B' : Cs} (h : Apart A B) (hA : ∀ x y, A' x y = true → A x y = true) (hB : ∀ x y, B' x y = true → B x y = true) : Apart A' B' :=
  ⟨fun r c a b => h.no r c (hA _ _ a) (hB _ _ b), fun r c x y a b => h.by_ r c x y (hA _ _ a) (hB _ _ b)⟩
theorem Apart.symm {A B : Cs} (h : Apart A B) : Apart B A := ⟨fun r c a b => h.no r c b a, fun r c x y a b n => h.by_ x y r c b a n.symm⟩
theorem Bd.cup {A B : Cs} (hA : Bd A) (hB : Bd B) : Bd (cup A B) := fun r c h => (cup_iff.1 h).elim (hA r c) (hB r c)
theorem Apart.lay {left : Bool} {A B : Cs} (h : Apart A B) (r c : Nat) : Apart (lay left A r c) B := h.sub (fun _ _ k => (lay_iff.1 k).1) (fun _ _ k => k)

theorem cnt_mono {A B : Cs} (h : ∀ x y, A x y = true → B x y = true) : cnt A ≤ cnt B := List.countP_mono_left fun _ _ k => h _ _ k
theorem cnt_shift {S T : Cs} {a b : Nat} (hS : Bd S) (hab : ∀ r c, S r c = true → a ≤ r ∧ b ≤ c) (hST : ∀ r c, T r c = S (r + a) (c + b)) : cnt T = cnt S := by
  have hT : Bd T := fun r c h => by rw [hST] at h; have := hS _ _ h; omega
  have key : ∀ n {S T : Cs}, cnt S ≤ n → Bd S → Bd T → (∀ r c, S r c = true → a ≤ r ∧ b ≤ c) → (∀ r c, T r c = S (r + a) (c + b)) → cnt T = cnt S := by
    intro n
    induction n with
    | zero =>
      intro S T hn hS hT hab hST
      have e : ∀ r c, S r c = false := fun r c => by
        cases h : S r c with
        | false => rfl
        | true => have := cnt_pos hS h; omega
      have : cnt T = 0 := by unfold cnt; rw [List.countP_eq_zero]; intro p _; simp [hST, e]
      omega
    | succ n ih =>
      intro S T hn hS hT hab hST
      by_cases h0 : cnt S = 0
      · exact ih (by omega) hS hT hab hST
      · obtain ⟨p, hp, hs⟩ := List.countP_pos_iff.1 (show 0 < grid.countP (fun p => S p.1 p.2) from by unfold cnt at h0; omega)
        obtain ⟨r, c⟩ := p
        obtain ⟨h1, h2⟩ := hab r c hs
        obtain ⟨r', rfl⟩ : ∃ r', r = r' + a := ⟨r - a, by omega⟩
        obtain ⟨c', rfl⟩ : ∃ c', c = c' + b := ⟨c - b, by omega⟩
        have hs' : T r' c' = true := by rw [hST]; exact hs
        have a1 := cnt_rm (hS _ _ hs) hs
        have a2 := cnt_rm (hT _ _ hs') hs'
        have := ih (S := rm S (r' + a) (c' + b)) (T := rm T r' c') (by simp only at a1; omega) (fun x y k => hS x y (rm_iff.1 k).1) (fun x y k => hT x y (rm_iff.1 k).1) (fun x y k => hab x y (rm_iff.1 k).1) (fun x y => by
          have e : ∀ u v w : Nat, (u + w == v + w) = (u == v) := fun u v w => by rw [Bool.eq_iff_iff]; simp
          simp only [rm, hST, e])
        simp only at a1
        omega
  exact key _ (Nat.le_refl _) hS hT hab hST

end Go.Proofs.YteknjeohbcgpdaaGreatDoor.Cgt

namespace Go.Proofs.YteknjeohbcgpdaaGreatDoor.Cgt

structure Grown (S P P' : Cs) : Prop where
  more : ∀ x y, P x y = true → P' x y = true
  only : ∀ x y, P' x y = true → P x y = true ∨ S x y = true
  shut : ∀ x y u v, P' x y = true → P x y = false → Nbr x y u v → S u v = true → P' u v = true
theorem Grown.refl (S P : Cs) : Grown S P P := ⟨fun _ _ h => h, fun _ _ h => .inl h, fun x y _ _ h k => by rw [h] at k; cases k⟩
theorem Grown.trans {S P Q R : Cs} (h : Grown S P Q) (k : Grown S Q R) : Grown S P R := by
  refine ⟨fun x y a => k.more _ _ (h.more _ _ a), fun x y a => ?_, fun x y u v a b n s => ?_⟩
  · rcases k.only _ _ a with e | e
    · exact h.only _ _ e
    · exact .inr e
  · cases e : Q x y with
    | true => exact k.more _ _ (h.shut _ _ _ _ e b n s)
    | false => exact k.shut _ _ _ _ a e n s
def ad (P : Cs) (r c : Nat) : Cs := fun x y => P x y || (x == r && y == c)
def sub (S U : Cs) : Cs := fun x y => S x y && !U x y
def none_ : Cs := fun _ _ => false

def cups : List Cs → Cs
  | [] => none_
  | P :: l => cup (cups l) P

def PartsOf : List Cs → Prop
  | [] => True
  | P :: l => Apart (cups l) P ∧ PartsOf l

def ShutIn (S U : Cs) : Prop := (∀ x y, U x y = true → S x y = true) ∧ ∀ x y u v, U x y = true → Nbr x y u v → S u v = true → U u v = true
def kB : Nat → Nat
  | 0 => 1
  | 1 => 1
  | n + 2 => 1 + 2 * (n + 2) * kB n
end Go.Proofs.YteknjeohbcgpdaaGreatDoor.Cgt
