/-
  Plain law, no program in sight: short games, their order, canonical forms; no condition. (2 texts.)
-/
namespace Go.Proofs.YteknjeohbcgpdaaGreatDoor.Cgt

inductive Gm where
  | mk (l r : List Gm)

def Gm.l : Gm → List Gm | .mk l _ => l
def Gm.r : Gm → List Gm | .mk _ r => r

theorem Gm.l_lt {g x : Gm} (h : x ∈ g.l) : sizeOf x < sizeOf g := by
  cases g with
  | mk l r => have := List.sizeOf_lt_of_mem h; simp [Gm.l] at this ⊢; omega
theorem Gm.r_lt {g x : Gm} (h : x ∈ g.r) : sizeOf x < sizeOf g := by
  cases g with
  | mk l r => have := List.sizeOf_lt_of_mem h; simp [Gm.r] at this ⊢; omega

def Ge (a b : Gm) : Prop :=
  (∀ r, (h : r ∈ a.r) → ¬ Ge b r) ∧ (∀ l, (h : l ∈ b.l) → ¬ Ge l a)
termination_by sizeOf a + sizeOf b
decreasing_by
  · have := Gm.r_lt h; omega
  · have := Gm.l_lt h; omega

theorem ge_iff (a b : Gm) : Ge a b ↔ (∀ r, r ∈ a.r → ¬ Ge b r) ∧ (∀ l, l ∈ b.l → ¬ Ge l a) := by
  rw [Ge]

theorem ge_refl (a : Gm) : Ge a a := by
  rw [ge_iff]
  refine ⟨fun r h g => ?_, fun l h g => ?_⟩
  · exact ((ge_iff a r).1 g).1 r h (ge_refl r)
  · exact ((ge_iff l a).1 g).2 l h (ge_refl l)
termination_by sizeOf a
decreasing_by
  · exact Gm.r_lt h
  · exact Gm.l_lt h

theorem ge_trans (a b c : Gm) (h : Ge a b) (k : Ge b c) : Ge a c := by
  rw [ge_iff]
  refine ⟨fun r hr g => ?_, fun l hl g => ?_⟩
  · exact ((ge_iff a b).1 h).1 r hr (ge_trans b c r k g)
  · exact ((ge_iff b c).1 k).2 l hl (ge_trans l a b g h)
termination_by sizeOf a + sizeOf b + sizeOf c
decreasing_by
  · have := Gm.r_lt hr; omega
  · have := Gm.l_lt hl; omega

def Eqv (a b : Gm) : Prop := Ge a b ∧ Ge b a
theorem Eqv.refl (a : Gm) : Eqv a a := ⟨ge_refl a, ge_refl a⟩
theorem Eqv.symm {a b : Gm} (h : Eqv a b) : Eqv b a := ⟨h.2, h.1⟩
theorem Eqv.trans {a b c : Gm} (h : Eqv a b) (k : Eqv b c) : Eqv a c := ⟨ge_trans _ _ _ h.1 k.1, ge_trans _ _ _ k.2 h.2⟩
theorem Eqv.ge_left {a b c : Gm} (h : Eqv a b) : Ge a c ↔ Ge b c := ⟨ge_trans _ _ _ h.2, ge_trans _ _ _ h.1⟩
theorem Eqv.ge_right {a b c : Gm} (h : Eqv a b) : Ge c a ↔ Ge c b := ⟨fun g => ge_trans _ _ _ g h.1, fun g => ge_trans _ _ _ g h.2⟩

theorem not_ge_l {a l : Gm} (h : l ∈ a.l) : ¬ Ge l a := ((ge_iff a a).1 (ge_refl a)).2 l h
theorem not_ge_r {a r : Gm} (h : r ∈ a.r) : ¬ Ge a r := ((ge_iff a a).1 (ge_refl a)).1 r h

def Same (a b : Gm) : Prop :=
  (∀ x, (h : x ∈ a.l) → ∃ y, ∃ (_ : y ∈ b.l), Same x y) ∧ (∀ y, (h : y ∈ b.l) → ∃ x, ∃ (_ : x ∈ a.l), Same x y) ∧
  (∀ x, (h : x ∈ a.r) → ∃ y, ∃ (_ : y ∈ b.r), Same x y) ∧ (∀ y, (h : y ∈ b.r) → ∃ x, ∃ (_ : x ∈ a.r), Same x y)
termination_by sizeOf a + sizeOf b
decreasing_by
  all_goals first
    | (rename_i h2; have := Gm.l_lt h; have := Gm.l_lt h2; omega)
    | (rename_i h2; have := Gm.r_lt h; have := Gm.r_lt h2; omega)

theorem same_iff (a b : Gm) : Same a b ↔
    (∀ x, x ∈ a.l → ∃ y, y ∈ b.l ∧ Same x y) ∧ (∀ y, y ∈ b.l → ∃ x, x ∈ a.l ∧ Same x y) ∧
    (∀ x, x ∈ a.r → ∃ y, y ∈ b.r ∧ Same x y) ∧ (∀ y, y ∈ b.r → ∃ x, x ∈ a.r ∧ Same x y) := by
  rw [Same]; simp only [exists_prop]

theorem same_refl (a : Gm) : Same a a := by
  rw [same_iff]
  exact ⟨fun x h => ⟨x, h, same_refl x⟩, fun x h => ⟨x, h, same_refl x⟩, fun x h => ⟨x, h, same_refl x⟩, fun x h => ⟨x, h, same_refl x⟩⟩
termination_by sizeOf a
decreasing_by
  · exact Gm.l_lt h
  · exact Gm.l_lt h
  · exact Gm.r_lt h
  · exact Gm.r_lt h

theorem same_symm {a b : Gm} (h : Same a b) : Same b a := by
  rw [same_iff] at h ⊢
  obtain ⟨h1, h2, h3, h4⟩ := h
  refine ⟨fun y hy => ?_, fun x hx => ?_, fun y hy => ?_, fun x hx => ?_⟩
  · obtain ⟨x, hx, s⟩ := h2 y hy; exact ⟨x, hx, same_symm s⟩
  · obtain ⟨y, hy, s⟩ := h1 x hx; exact ⟨y, hy, same_symm s⟩
  · obtain ⟨x, hx, s⟩ := h4 y hy; exact ⟨x, hx, same_symm s⟩
  · obtain ⟨y, hy, s⟩ := h3 x hx; exact ⟨y, hy, same_symm s⟩
termination_by sizeOf a + sizeOf b
decreasing_by
  · have := Gm.l_lt hx; have := Gm.l_lt hy; omega
  · have := Gm.l_lt hx; have := Gm.l_lt hy; omega
  · have := Gm.r_lt hx; have := Gm.r_lt hy; omega
  · have := Gm.r_lt hx; have := Gm.r_lt hy; omega

theorem same_trans {a b c : Gm} (h : Same a b) (k : Same b c) : Same a c := by
  rw [same_iff] at h k ⊢
  obtain ⟨h1, h2, h3, h4⟩ := h
  obtain ⟨k1, k2, k3, k4⟩ := k
  refine ⟨fun x hx => ?_, fun z hz => ?_, fun x hx => ?_, fun z hz => ?_⟩
  · obtain ⟨y, hy, s⟩ := h1 x hx; obtain ⟨z, hz, t⟩ := k1 y hy; exact ⟨z, hz, same_trans s t⟩
  · obtain ⟨y, hy, t⟩ := k2 z hz; obtain ⟨x, hx, s⟩ := h2 y hy; exact ⟨x, hx, same_trans s t⟩
  · obtain ⟨y, hy, s⟩ := h3 x hx; obtain ⟨z, hz, t⟩ := k3 y hy; exact ⟨z, hz, same_trans s t⟩
  · obtain ⟨y, hy, t⟩ := k4 z hz; obtain ⟨x, hx, s⟩ := h4 y hy; exact ⟨x, hx, same_trans s t⟩
termination_by sizeOf a + sizeOf b + sizeOf c
decreasing_by
  · have := Gm.l_lt hx; have := Gm.l_lt hy; have := Gm.l_lt hz; omega
  · have := Gm.l_lt hx; have := Gm.l_lt hy; have := Gm.l_lt hz; omega
  · have := Gm.r_lt hx; have := Gm.r_lt hy; have := Gm.r_lt hz; omega
  · have := Gm.r_lt hx; have := Gm.r_lt hy; have := Gm.r_lt hz; omega

theorem ge_of {a b : Gm} (hr : ∀ r, r ∈ a.r → (∃ r', r' ∈ b.r ∧ Ge r r') ∨ (∃ l, l ∈ r.l ∧ Ge l b))
    (hl : ∀ l, l ∈ b.l → (∃ l', l' ∈ a.l ∧ Ge l' l) ∨ (∃ r, r ∈ l.r ∧ Ge a r)) : Ge a b := by
  rw [ge_iff]
  refine ⟨fun r h g => ?_, fun l h g => ?_⟩
  · rcases hr r h with ⟨r', h', k⟩ | ⟨l, h', k⟩
    · exact not_ge_r h' (ge_trans _ _ _ g k)
    · exact ((ge_iff b r).1 g).2 l h' k
  · rcases hl l h with ⟨l', h', k⟩ | ⟨r, h', k⟩
    · exact not_ge_l h' (ge_trans _ _ _ k g)
    · exact ((ge_iff l a).1 g).1 r h' k

theorem Same.eqv {a b : Gm} (h : Same a b) : Eqv a b := by
  rw [same_iff] at h
  obtain ⟨h1, h2, h3, h4⟩ := h
  constructor
  · refine ge_of (fun r hr => ?_) (fun l hl => ?_)
    · obtain ⟨y, hy, s⟩ := h3 r hr; exact .inl ⟨y, hy, (Same.eqv s).1⟩
    · obtain ⟨x, hx, s⟩ := h2 l hl; exact .inl ⟨x, hx, (Same.eqv s).1⟩
  · refine ge_of (fun r hr => ?_) (fun l hl => ?_)
    · obtain ⟨x, hx, s⟩ := h4 r hr; exact .inl ⟨x, hx, (Same.eqv s).2⟩
    · obtain ⟨y, hy, s⟩ := h1 l hl; exact .inl ⟨y, hy, (Same.eqv s).2⟩
termination_by sizeOf a + sizeOf b
decreasing_by
  · have := Gm.r_lt hr; have := Gm.r_lt hy; omega
  · have := Gm.l_lt hl; have := Gm.l_lt hx; omega
  · have := Gm.r_lt hr; have := Gm.r_lt hx; omega
  · have := Gm.l_lt hl; have := Gm.l_lt hy; omega

def Tight (a : Gm) : Prop :=
  (∀ x y, x ∈ a.l → y ∈ a.l → Ge x y → Same x y) ∧ (∀ x y, x ∈ a.r → y ∈ a.r → Ge x y → Same x y) ∧
  (∀ x, x ∈ a.l → ∀ y, y ∈ x.r → ¬ Ge a y) ∧ (∀ x, x ∈ a.r → ∀ y, y ∈ x.l → ¬ Ge y a)

inductive Canon : Gm → Prop
  | mk (a : Gm) (ht : Tight a) (hl : ∀ x, x ∈ a.l → Canon x) (hr : ∀ x, x ∈ a.r → Canon x) : Canon a

theorem Canon.tight {a : Gm} (h : Canon a) : Tight a := by cases h; assumption
theorem Canon.l {a x : Gm} (h : Canon a) (hx : x ∈ a.l) : Canon x := by cases h with | mk _ _ hl _ => exact hl x hx
theorem Canon.r {a x : Gm} (h : Canon a) (hx : x ∈ a.r) : Canon x := by cases h with | mk _ _ _ hr => exact hr x hx

theorem not_ge {a b : Gm} (h : ¬ Ge a b) : (∃ r, r ∈ a.r ∧ Ge b r) ∨ (∃ l, l ∈ b.l ∧ Ge l a) := by
  rw [ge_iff] at h
  by_cases h1 : ∃ r, r ∈ a.r ∧ Ge b r
  · exact .inl h1
  · refine .inr (Classical.byContradiction fun h2 => h ⟨fun r hr g => h1 ⟨r, hr, g⟩, fun l hl g => h2 ⟨l, hl, g⟩⟩)

theorem canon_unique {a b : Gm} (ha : Canon a) (hb : Canon b) (h : Eqv a b) : Same a b := by
  have L : ∀ {a b : Gm}, Tight a → Tight b → Eqv a b → ∀ x, x ∈ a.l → ∃ y, y ∈ b.l ∧ Eqv x y := by
    intro a b ta tb h x hx
    have n1 : ¬ Ge x b := fun g => not_ge_l hx (ge_trans _ _ _ g h.2)
    rcases not_ge n1 with ⟨r, hr, g⟩ | ⟨y, hy, g⟩
    · exact absurd (ge_trans _ _ _ h.1 g) (ta.2.2.1 x hx r hr)
    · have n2 : ¬ Ge y a := fun k => not_ge_l hy (ge_trans _ _ _ k h.1)
      rcases not_ge n2 with ⟨r, hr, g2⟩ | ⟨z, hz, g2⟩
      · exact absurd (ge_trans _ _ _ h.2 g2) (tb.2.2.1 y hy r hr)
      · have s := ta.1 z x hz hx (ge_trans _ _ _ g2 g)
        exact ⟨y, hy, ge_trans _ _ _ s.eqv.2 g2, g⟩
  have R : ∀ {a b : Gm}, Tight a → Tight b → Eqv a b → ∀ x, x ∈ a.r → ∃ y, y ∈ b.r ∧ Eqv x y := by
    intro a b ta tb h x hx
    have n1 : ¬ Ge b x := fun g => not_ge_r hx (ge_trans _ _ _ h.1 g)
    rcases not_ge n1 with ⟨y, hy, g⟩ | ⟨r, hr, g⟩
    · have n2 : ¬ Ge a y := fun k => not_ge_r hy (ge_trans _ _ _ h.2 k)
      rcases not_ge n2 with ⟨z, hz, g2⟩ | ⟨r, hr, g2⟩
      · have s := ta.2.1 x z hx hz (ge_trans _ _ _ g g2)
        exact ⟨y, hy, g, ge_trans _ _ _ g2 s.eqv.2⟩
      · exact absurd (ge_trans _ _ _ g2 h.1) (tb.2.2.2 y hy r hr)
    · exact absurd (ge_trans _ _ _ g h.2) (ta.2.2.2 x hx r hr)
  rw [same_iff]
  refine ⟨fun x hx => ?_, fun y hy => ?_, fun x hx => ?_, fun y hy => ?_⟩
  · obtain ⟨y, hy, e⟩ := L ha.tight hb.tight h x hx; exact ⟨y, hy, canon_unique (ha.l hx) (hb.l hy) e⟩
  · obtain ⟨x, hx, e⟩ := L hb.tight ha.tight h.symm y hy; exact ⟨x, hx, canon_unique (ha.l hx) (hb.l hy) e.symm⟩
  · obtain ⟨y, hy, e⟩ := R ha.tight hb.tight h x hx; exact ⟨y, hy, canon_unique (ha.r hx) (hb.r hy) e⟩
  · obtain ⟨x, hx, e⟩ := R hb.tight ha.tight h.symm y hy; exact ⟨x, hx, canon_unique (ha.r hx) (hb.r hy) e.symm⟩
termination_by sizeOf a + sizeOf b
decreasing_by
  · have := Gm.l_lt hx; have := Gm.l_lt hy; omega
  · have := Gm.l_lt hx; have := Gm.l_lt hy; omega
  · have := Gm.r_lt hx; have := Gm.r_lt hy; omega
  · have := Gm.r_lt hx; have := Gm.r_lt hy; omega

end Go.Proofs.YteknjeohbcgpdaaGreatDoor.Cgt

namespace Go.Proofs.YteknjeohbcgpdaaGreatDoor.Cgt

abbrev Nd := List Nat × List Nat
abbrev Dag := List Nd

def WF (D : Dag) : Prop := ∀ (i : Nat) (nd : Nd), D[i]? = some nd → (∀ k, k ∈ nd.1 → k < i) ∧ (∀ k, k ∈ nd.2 → k < i)
def Asc (l : List Nat) : Prop := l.Pairwise (· < ·)

structure Good (D : Dag) : Prop where
  wf : WF D
  asc : ∀ nd, nd ∈ D → Asc nd.1 ∧ Asc nd.2
  nodup : D.Nodup

def vf (D : Dag) : Nat → Nat → Gm
  | 0, _ => .mk [] []
  | f + 1, i => match D[i]? with
    | some nd => .mk (nd.1.map (vf D f)) (nd.2.map (vf D f))
    | none => .mk [] []
def vl (D : Dag) (i : Nat) : Gm := vf D (i + 1) i

theorem vf_enough {D : Dag} (h : WF D) : ∀ f i, i < f → vf D f i = vl D i := by
  intro f
  induction f using Nat.strongRecOn with
  | _ f ih =>
    intro i hi
    cases f with
    | zero => omega
    | succ f =>
      unfold vl
      simp only [vf]
      cases hd : D[i]? with
      | none => rfl
      | some nd =>
        obtain ⟨h1, h2⟩ := h i nd hd
        simp only
        congr 1
        · refine List.map_congr_left fun k hk => ?_
          have hk' := h1 k hk
          by_cases e : f = i
          · rw [e]
          · rw [ih f (by omega) k (by omega), ih i (by omega) k hk']
        · refine List.map_congr_left fun k hk => ?_
          have hk' := h2 k hk
          by_cases e : f = i
          · rw [e]
          · rw [ih f (by omega) k (by omega), ih i (by omega) k hk']

theorem vl_mk {D : Dag} (h : WF D) {i : Nat} {nd : Nd} (hd : D[i]? = some nd) : vl D i = .mk (nd.1.map (vl D)) (nd.2.map (vl D)) := by
  obtain ⟨h1, h2⟩ := h i nd hd
  unfold vl
  rw [vf, hd]
  simp only
  congr 1
  · exact List.map_congr_left fun k hk => vf_enough h i k (h1 k hk)
  · exact List.map_congr_left fun k hk => vf_enough h i k (h2 k hk)

theorem vl_l {D : Dag} (h : WF D) {i : Nat} {nd : Nd} (hd : D[i]? = some nd) : (vl D i).l = nd.1.map (vl D) := by rw [vl_mk h hd]; rfl
theorem vl_r {D : Dag} (h : WF D) {i : Nat} {nd : Nd} (hd : D[i]? = some nd) : (vl D i).r = nd.2.map (vl D) := by rw [vl_mk h hd]; rfl
theorem vl_none {D : Dag} {i : Nat} (hd : D[i]? = none) : vl D i = .mk [] [] := by unfold vl; rw [vf, hd]

theorem getElem?_append_some {α : Type} {D E : List α} {i : Nat} {x : α} (h : D[i]? = some x) : (D ++ E)[i]? = some x := by
  have := (List.getElem?_eq_some_iff.1 h).1
  rw [List.getElem?_append_left this]; exact h

theorem vl_append {D E : Dag} (h : WF D) (h' : WF (D ++ E)) : ∀ i, i < D.length → vl (D ++ E) i = vl D i := by
  intro i
  induction i using Nat.strongRecOn with
  | _ i ih =>
    intro hi
    have hd : D[i]? = some D[i] := List.getElem?_eq_getElem hi
    obtain ⟨h1, h2⟩ := h i _ hd
    rw [vl_mk h hd, vl_mk h' (getElem?_append_some hd)]
    congr 1
    · exact List.map_congr_left fun k hk => ih k (h1 k hk) (by have := h1 k hk; omega)
    · exact List.map_congr_left fun k hk => ih k (h2 k hk) (by have := h2 k hk; omega)

theorem WF.nil : WF [] := by intro i nd h; simp at h
theorem WF.snoc {D : Dag} (h : WF D) {nd : Nd} (h1 : ∀ k, k ∈ nd.1 → k < D.length) (h2 : ∀ k, k ∈ nd.2 → k < D.length) : WF (D ++ [nd]) := by
  intro i x hx
  by_cases hi : i < D.length
  · rw [List.getElem?_append_left hi] at hx; exact h i x hx
  · rw [List.getElem?_append_right (by omega)] at hx
    have : i - D.length = 0 := by
      have := (List.getElem?_eq_some_iff.1 hx).1
      simp at this; omega
    rw [this] at hx
    simp at hx; subst hx
    have e : i = D.length := by omega
    subst e
    exact ⟨h1, h2⟩
theorem Good.nil : Good [] := ⟨WF.nil, by simp, List.nodup_nil⟩
theorem Good.snoc {D : Dag} (h : Good D) {nd : Nd} (h1 : ∀ k, k ∈ nd.1 → k < D.length) (h2 : ∀ k, k ∈ nd.2 → k < D.length) (a1 : Asc nd.1) (a2 : Asc nd.2) (hn : nd ∉ D) : Good (D ++ [nd]) := by
  refine ⟨h.wf.snoc h1 h2, ?_, ?_⟩
  · intro x hx
    simp at hx
    rcases hx with hx | rfl
    · exact h.asc x hx
    · exact ⟨a1, a2⟩
  · rw [List.nodup_append]
    exact ⟨h.nodup, by simp, by intro a ha b hb; simp at hb; subst hb; intro e; subst e; exact hn ha⟩

theorem asc_ext {a b : List Nat} (ha : Asc a) (hb : Asc b) (h : ∀ x, x ∈ a ↔ x ∈ b) : a = b := by
  induction a generalizing b with
  | nil => cases b with
    | nil => rfl
    | cons y b => exact absurd ((h y).2 (by simp)) (by simp)
  | cons x a ih =>
    cases b with
    | nil => exact absurd ((h x).1 (by simp)) (by simp)
    | cons y b =>
      unfold Asc at ha hb
      rw [List.pairwise_cons] at ha hb
      have e : x = y := by
        have p := (h x).1 (by simp)
        have q := (h y).2 (by simp)
        simp at p q
        rcases p with p | p
        · exact p
        · rcases q with q | q
          · exact q.symm
          · have := ha.1 y q; have := hb.1 x p; omega
      subst e
      congr 1
      refine ih ha.2 hb.2 fun z => ⟨fun hz => ?_, fun hz => ?_⟩
      · have := (h z).1 (by simp [hz])
        simp at this
        rcases this with rfl | t
        · exact absurd (ha.1 z hz) (by omega)
        · exact t
      · have := (h z).2 (by simp [hz])
        simp at this
        rcases this with rfl | t
        · exact absurd (hb.1 z hz) (by omega)
        · exact t

theorem same_idx {D : Dag} (h : Good D) : ∀ i j, i < D.length → j < D.length → Same (vl D i) (vl D j) → i = j := by
  have main : ∀ n i j, i < n → i < D.length → j < D.length → Same (vl D i) (vl D j) → i = j := by
    intro n
    induction n with
    | zero => intro i j h0; omega
    | succ n ih =>
      intro i j hn hi hj s
      have di : D[i]? = some D[i] := List.getElem?_eq_getElem hi
      have dj : D[j]? = some D[j] := List.getElem?_eq_getElem hj
      obtain ⟨wi1, wi2⟩ := h.wf i _ di
      obtain ⟨wj1, wj2⟩ := h.wf j _ dj
      rw [same_iff, vl_l h.wf di, vl_l h.wf dj, vl_r h.wf di, vl_r h.wf dj] at s
      obtain ⟨s1, s2, s3, s4⟩ := s
      have e : D[i] = D[j] := by
        have e1 : (D[i]).1 = (D[j]).1 := by
          refine asc_ext (h.asc _ (List.getElem_mem hi)).1 (h.asc _ (List.getElem_mem hj)).1 fun x => ⟨fun hx => ?_, fun hx => ?_⟩
          · obtain ⟨y, hy, t⟩ := s1 _ (List.mem_map_of_mem hx)
            obtain ⟨k, hk, rfl⟩ := List.mem_map.1 hy
            have := wi1 x hx; have := wj1 k hk
            rw [ih x k (by omega) (by omega) (by omega) t]; exact hk
          · obtain ⟨y, hy, t⟩ := s2 _ (List.mem_map_of_mem hx)
            obtain ⟨k, hk, rfl⟩ := List.mem_map.1 hy
            have := wi1 k hk; have := wj1 x hx
            rw [← ih k x (by omega) (by omega) (by omega) t]; exact hk
        have e2 : (D[i]).2 = (D[j]).2 := by
          refine asc_ext (h.asc _ (List.getElem_mem hi)).2 (h.asc _ (List.getElem_mem hj)).2 fun x => ⟨fun hx => ?_, fun hx => ?_⟩
          · obtain ⟨y, hy, t⟩ := s3 _ (List.mem_map_of_mem hx)
            obtain ⟨k, hk, rfl⟩ := List.mem_map.1 hy
            have := wi2 x hx; have := wj2 k hk
            rw [ih x k (by omega) (by omega) (by omega) t]; exact hk
          · obtain ⟨y, hy, t⟩ := s4 _ (List.mem_map_of_mem hx)
            obtain ⟨k, hk, rfl⟩ := List.mem_map.1 hy
            have := wi2 k hk; have := wj2 x hx
            rw [← ih k x (by omega) (by omega) (by omega) t]; exact hk
        exact Prod.ext e1 e2
      exact (List.getElem_inj h.nodup).1 e
  intro i j hi hj s
  exact main (i + 1) i j (by omega) hi hj s

end Go.Proofs.YteknjeohbcgpdaaGreatDoor.Cgt
