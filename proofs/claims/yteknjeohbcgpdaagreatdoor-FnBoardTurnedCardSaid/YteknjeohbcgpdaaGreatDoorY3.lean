/-
  Plain law: the form of a game; no condition. (4 texts.)
-/
import Derived.Test.YteknjeohbcgpdaaGreatDoorY2
namespace Go.Proofs.YteknjeohbcgpdaaGreatDoor.Cgt

def born (g : Gm) : Nat :=
  max (g.l.attach.foldr (fun x m => max (born x.1 + 1) m) 0) (g.r.attach.foldr (fun x m => max (born x.1 + 1) m) 0)
termination_by sizeOf g
decreasing_by
  · exact Gm.l_lt x.2
  · exact Gm.r_lt x.2

theorem foldr_max_le {α : Type} (f : α → Nat) (l : List α) (n : Nat) : l.foldr (fun x m => max (f x + 1) m) 0 ≤ n ↔ ∀ x, x ∈ l → f x < n := by
  induction l with
  | nil => simp
  | cons a l ih => simp only [List.foldr_cons, Nat.max_le, List.mem_cons, ih]; constructor
                   · rintro ⟨h1, h2⟩ x (rfl | h)
                     · omega
                     · exact h2 x h
                   · intro h; exact ⟨h a (.inl rfl), fun x hx => h x (.inr hx)⟩

theorem born_le (g : Gm) (n : Nat) : born g ≤ n ↔ (∀ x, x ∈ g.l → born x < n) ∧ (∀ x, x ∈ g.r → born x < n) := by
  rw [born, Nat.max_le, foldr_max_le (fun x : {x // x ∈ g.l} => born x.1), foldr_max_le (fun x : {x // x ∈ g.r} => born x.1)]
  constructor
  · rintro ⟨h1, h2⟩; exact ⟨fun x hx => h1 ⟨x, hx⟩ (by simp), fun x hx => h2 ⟨x, hx⟩ (by simp)⟩
  · rintro ⟨h1, h2⟩; exact ⟨fun x _ => h1 x.1 x.2, fun x _ => h2 x.1 x.2⟩
theorem born_l {g x : Gm} (h : x ∈ g.l) : born x < born g := ((born_le g _).1 (Nat.le_refl _)).1 x h
theorem born_r {g x : Gm} (h : x ∈ g.r) : born x < born g := ((born_le g _).1 (Nat.le_refl _)).2 x h

theorem same_born {a b : Gm} (h : Same a b) : born a = born b := by
  have h' := h
  rw [same_iff] at h'
  obtain ⟨h1, h2, h3, h4⟩ := h'
  apply Nat.le_antisymm
  · rw [born_le]
    refine ⟨fun x hx => ?_, fun x hx => ?_⟩
    · obtain ⟨y, hy, s⟩ := h1 x hx; rw [same_born s]; exact born_l hy
    · obtain ⟨y, hy, s⟩ := h3 x hx; rw [same_born s]; exact born_r hy
  · rw [born_le]
    refine ⟨fun y hy => ?_, fun y hy => ?_⟩
    · obtain ⟨x, hx, s⟩ := h2 y hy; rw [← same_born s]; exact born_l hx
    · obtain ⟨x, hx, s⟩ := h4 y hy; rw [← same_born s]; exact born_r hx
termination_by sizeOf a + sizeOf b
decreasing_by
  · have := Gm.l_lt hx; have := Gm.l_lt hy; omega
  · have := Gm.r_lt hx; have := Gm.r_lt hy; omega
  · have := Gm.l_lt hx; have := Gm.l_lt hy; omega
  · have := Gm.r_lt hx; have := Gm.r_lt hy; omega

def cl : List Nat → List Nat → Int
  | [], [] => 0
  | [], _ :: _ => -1
  | _ :: _, [] => 1
  | a :: l, b :: m => if a < b then -1 else if b < a then 1 else cl l m
theorem cl_refl (a : List Nat) : cl a a = 0 := by induction a with
  | nil => rfl
  | cons x a ih => simp [cl, ih]
theorem cl_neg (a b : List Nat) : cl b a = - cl a b := by
  induction a generalizing b with
  | nil => cases b <;> simp [cl]
  | cons x a ih =>
    cases b with
    | nil => simp [cl]
    | cons y b =>
      simp only [cl]
      by_cases h1 : x < y
      · rw [if_neg (by omega), if_pos h1, if_pos h1]; rfl
      · by_cases h2 : y < x
        · rw [if_pos h2, if_neg h1, if_pos h2]
        · rw [if_neg h2, if_neg h1, if_neg h1, if_neg h2]; exact ih b
theorem cl_zero {a b : List Nat} (h : cl a b = 0) : a = b := by
  induction a generalizing b with
  | nil => cases b with
    | nil => rfl
    | cons y b => simp [cl] at h
  | cons x a ih =>
    cases b with
    | nil => simp [cl] at h
    | cons y b =>
      simp only [cl] at h
      split at h
      · omega
      · split at h
        · omega
        · rw [ih h, show x = y by omega]
theorem cl_trans {a b c : List Nat} (h : cl a b < 0) (k : cl b c < 0) : cl a c < 0 := by
  induction a generalizing b c with
  | nil =>
    cases b with
    | nil => simp [cl] at h
    | cons y b =>
      cases c with
      | nil => simp [cl] at k
      | cons z c => simp [cl]
  | cons x a ih =>
    cases b with
    | nil => simp [cl] at h
    | cons y b =>
      cases c with
      | nil => simp [cl] at k
      | cons z c =>
        simp only [cl] at h k ⊢
        split at h <;> split at k <;> try (split at h <;> try omega) <;> try (split at k <;> try omega)
        all_goals first
          | (rw [if_pos (by omega)]; omega)
          | (rename_i h1 h2; rw [if_neg (by omega), if_neg (by omega)]; exact ih h k)
          | (split at k <;> first | omega | (rw [if_pos (by omega)]; omega) | (rw [if_neg (by omega), if_neg (by omega)]; exact ih h k))

def nc (a b : Nd) : Int := if cl a.1 b.1 ≠ 0 then cl a.1 b.1 else cl a.2 b.2
theorem nc_refl (a : Nd) : nc a a = 0 := by simp [nc, cl_refl]
theorem nc_zero {a b : Nd} (h : nc a b = 0) : a = b := by
  unfold nc at h
  split at h
  · contradiction
  · rename_i h1; exact Prod.ext (cl_zero (by simpa using h1)) (cl_zero h)
theorem nc_neg (a b : Nd) : nc b a = - nc a b := by
  unfold nc
  rw [cl_neg a.1 b.1, cl_neg a.2 b.2]
  by_cases h : cl a.1 b.1 = 0
  · simp [h]
  · rw [if_pos (by omega), if_pos h]
theorem nc_trans {a b c : Nd} (h : nc a b < 0) (k : nc b c < 0) : nc a c < 0 := by
  unfold nc at *
  by_cases h1 : cl a.1 b.1 = 0
  · have e := cl_zero h1
    rw [if_neg (by simpa using h1)] at h
    rw [e]
    by_cases h2 : cl b.1 c.1 = 0
    · rw [if_neg (by simpa using h2)] at k ⊢; exact cl_trans h k
    · rw [if_pos h2] at k ⊢; exact k
  · rw [if_pos h1] at h
    by_cases h2 : cl b.1 c.1 = 0
    · have e := cl_zero h2
      rw [← e, if_pos h1]; exact h
    · rw [if_pos h2] at k
      have := cl_trans h k
      rw [if_pos (by omega)]; exact this

def Ahead (D : Dag) (i j : Nat) : Prop :=
  born (vl D i) < born (vl D j) ∨ born (vl D i) = born (vl D j) ∧ nc (D.getD i ([], [])) (D.getD j ([], [])) < 0

inductive Reach (D : Dag) (i : Nat) : Nat → Prop
  | here : Reach D i i
  | left {j k : Nat} {nd : Nd} (h : Reach D i j) (hd : D[j]? = some nd) (hk : k ∈ nd.1) : Reach D i k
  | right {j k : Nat} {nd : Nd} (h : Reach D i j) (hd : D[j]? = some nd) (hk : k ∈ nd.2) : Reach D i k

theorem born_vl_le {D : Dag} (h : WF D) : ∀ i, born (vl D i) ≤ i := by
  intro i
  induction i using Nat.strongRecOn with
  | _ i ih =>
    cases hd : D[i]? with
    | none => rw [vl_none hd, born_le]; simp [Gm.l, Gm.r]
    | some nd =>
      obtain ⟨h1, h2⟩ := h i nd hd
      rw [born_le, vl_l h hd, vl_r h hd]
      refine ⟨fun x hx => ?_, fun x hx => ?_⟩
      · obtain ⟨k, hk, rfl⟩ := List.mem_map.1 hx; have := ih k (h1 k hk); have := h1 k hk; omega
      · obtain ⟨k, hk, rfl⟩ := List.mem_map.1 hx; have := ih k (h2 k hk); have := h2 k hk; omega

structure IsForm (F : Dag) : Prop where
  good : Good F
  ne : F ≠ []
  sorted : ∀ i j, i < j → j < F.length → Ahead F i j
  reach : ∀ i, i < F.length → Reach F (F.length - 1) i

def topOf (F : Dag) : Gm := vl F (F.length - 1)

theorem reach_lt {D : Dag} (h : WF D) {i j : Nat} (hr : Reach D i j) : j ≤ i := by
  induction hr with
  | here => omega
  | left _ hd hk ih => have := (h _ _ hd).1 _ hk; omega
  | right _ hd hk ih => have := (h _ _ hd).2 _ hk; omega

theorem reach_same {D E : Dag} (hD : Good D) (hE : Good E) {i a : Nat} (ha : a < E.length) (s : Same (vl D i) (vl E a)) {j : Nat} (hr : Reach D i j) :
    ∃ b, b < E.length ∧ Reach E a b ∧ Same (vl D j) (vl E b) := by
  induction hr with
  | here => exact ⟨a, ha, .here, s⟩
  | left hr hd hk ih =>
    obtain ⟨b, hb, rb, sb⟩ := ih
    have db : E[b]? = some E[b] := List.getElem?_eq_getElem hb
    rw [same_iff, vl_l hD.wf hd, vl_l hE.wf db] at sb
    obtain ⟨y, hy, t⟩ := sb.1 _ (List.mem_map_of_mem hk)
    obtain ⟨m, hm, rfl⟩ := List.mem_map.1 hy
    exact ⟨m, by have := (hE.wf b _ db).1 m hm; omega, .left rb db hm, t⟩
  | right hr hd hk ih =>
    obtain ⟨b, hb, rb, sb⟩ := ih
    have db : E[b]? = some E[b] := List.getElem?_eq_getElem hb
    rw [same_iff, vl_r hD.wf hd, vl_r hE.wf db] at sb
    obtain ⟨y, hy, t⟩ := sb.2.2.1 _ (List.mem_map_of_mem hk)
    obtain ⟨m, hm, rfl⟩ := List.mem_map.1 hy
    exact ⟨m, by have := (hE.wf b _ db).2 m hm; omega, .right rb db hm, t⟩

theorem vl_take {D E : Dag} (hD : WF D) (hE : WF E) {k : Nat} (h : D.take k = E.take k) : ∀ i, i < k → i < D.length → vl D i = vl E i := by
  intro i
  induction i using Nat.strongRecOn with
  | _ i ih =>
    intro hik hi
    have hd : D[i]? = some D[i] := List.getElem?_eq_getElem hi
    have he : E[i]? = some D[i] := by
      have := congrArg (fun l => l[i]?) h
      simp only [List.getElem?_take, if_pos hik] at this
      rw [← this]; exact hd
    obtain ⟨h1, h2⟩ := hD i _ hd
    rw [vl_mk hD hd, vl_mk hE he]
    congr 1
    · exact List.map_congr_left fun m hm => ih m (h1 m hm) (by have := h1 m hm; omega) (by have := h1 m hm; omega)
    · exact List.map_congr_left fun m hm => ih m (h2 m hm) (by have := h2 m hm; omega) (by have := h2 m hm; omega)

theorem ahead_born {F : Dag} (hF : IsForm F) {i j : Nat} (h : i ≤ j) (hj : j < F.length) : born (vl F i) ≤ born (vl F j) := by
  rcases Nat.lt_or_ge i j with h1 | h1
  · rcases hF.sorted i j h1 hj with h2 | h2 <;> omega
  · rw [show i = j by omega]; exact Nat.le_refl _

theorem getD_of {D : Dag} {i : Nat} (h : i < D.length) : D.getD i ([], []) = D[i] := by simp [List.getD, h]

theorem next_in {F E : Dag} (hF : IsForm F) (hE : IsForm E) (hs : Same (topOf F) (topOf E)) {k : Nat} (hk : F.take k = E.take k) (hn : k < F.length) :
    ∃ j, ∃ hj : j < E.length, k ≤ j ∧ Same (vl F k) (vl E j) ∧ E[j] = F[k] := by
  have nF : 0 < F.length := by omega
  have nE : 0 < E.length := List.length_pos_iff.2 hE.ne
  obtain ⟨j, hj, _, sj⟩ := reach_same hF.good hE.good (by omega : E.length - 1 < E.length) hs (hF.reach k hn)
  have hkj : k ≤ j := by
    rcases Nat.lt_or_ge j k with h | h
    · have e := vl_take hF.good.wf hE.good.wf hk j h (by omega)
      rw [← e] at sj
      have := same_idx hF.good k j hn (by omega) sj
      omega
    · exact h
  refine ⟨j, hj, hkj, sj, ?_⟩
  have dF : F[k]? = some F[k] := List.getElem?_eq_getElem hn
  have dE : E[j]? = some E[j] := List.getElem?_eq_getElem hj
  have bj := same_born sj

  have low : ∀ o, o < E.length → born (vl E o) < born (vl E j) → o < k := by
    intro o ho hb
    obtain ⟨m, hm, _, sm⟩ := reach_same hE.good hF.good (by omega : F.length - 1 < F.length) (same_symm hs) (hE.reach o ho)
    have bm := same_born sm
    have hmk : m < k := by
      rcases Nat.lt_or_ge m k with h | h
      · exact h
      · have := ahead_born hF h hm; omega
    have e := vl_take hF.good.wf hE.good.wf hk m hmk hm
    rw [e] at sm
    have hmE : m < E.length := by
      have := congrArg List.length hk
      simp at this; omega
    have := same_idx hE.good o m ho hmE sm
    omega
  have wF := hF.good.wf k _ dF
  have wE := hE.good.wf j _ dE
  have s' := sj
  rw [same_iff, vl_l hF.good.wf dF, vl_l hE.good.wf dE, vl_r hF.good.wf dF, vl_r hE.good.wf dE] at s'
  obtain ⟨s1, s2, s3, s4⟩ := s'
  have key : ∀ x y, x < k → x < F.length → y < E.length → born (vl E y) < born (vl E j) → Same (vl F x) (vl E y) → x = y := by
    intro x y hx hxF hy hb t
    have hyk := low y hy hb
    have hyF : y < F.length := by omega
    rw [← vl_take hF.good.wf hE.good.wf hk y hyk hyF] at t
    exact same_idx hF.good x y hxF hyF t
  have bl : ∀ y, y ∈ (E[j]).1 → born (vl E y) < born (vl E j) := fun y hy => born_l (by rw [vl_l hE.good.wf dE]; exact List.mem_map_of_mem hy)
  have br : ∀ y, y ∈ (E[j]).2 → born (vl E y) < born (vl E j) := fun y hy => born_r (by rw [vl_r hE.good.wf dE]; exact List.mem_map_of_mem hy)
  refine Prod.ext ?_ ?_
  · refine asc_ext (hE.good.asc _ (List.getElem_mem hj)).1 (hF.good.asc _ (List.getElem_mem hn)).1 fun y => ⟨fun hy => ?_, fun hx => ?_⟩
    · obtain ⟨x, hx, t⟩ := s2 _ (List.mem_map_of_mem hy)
      obtain ⟨x, hx2, rfl⟩ := List.mem_map.1 hx
      have := wF.1 x hx2; have := wE.1 y hy
      rw [← key x y (by omega) (by omega) (by omega) (bl y hy) t]; exact hx2
    · obtain ⟨z, hz, t⟩ := s1 _ (List.mem_map_of_mem hx)
      obtain ⟨z, hz2, rfl⟩ := List.mem_map.1 hz
      have := wF.1 y hx; have := wE.1 z hz2
      rw [key y z (by omega) (by omega) (by omega) (bl z hz2) t]; exact hz2
  · refine asc_ext (hE.good.asc _ (List.getElem_mem hj)).2 (hF.good.asc _ (List.getElem_mem hn)).2 fun y => ⟨fun hy => ?_, fun hx => ?_⟩
    · obtain ⟨x, hx, t⟩ := s4 _ (List.mem_map_of_mem hy)
      obtain ⟨x, hx2, rfl⟩ := List.mem_map.1 hx
      have := wF.2 x hx2; have := wE.2 y hy
      rw [← key x y (by omega) (by omega) (by omega) (br y hy) t]; exact hx2
    · obtain ⟨z, hz, t⟩ := s3 _ (List.mem_map_of_mem hx)
      obtain ⟨z, hz2, rfl⟩ := List.mem_map.1 hz
      have := wF.2 y hx; have := wE.2 z hz2
      rw [key y z (by omega) (by omega) (by omega) (br z hz2) t]; exact hz2

theorem step_eq {F E : Dag} (hF : IsForm F) (hE : IsForm E) (hs : Same (topOf F) (topOf E)) {k : Nat} (hk : F.take k = E.take k) (hn : k < F.length) (hm : k < E.length) : F[k] = E[k] := by
  obtain ⟨j, hj, hkj, sj, ej⟩ := next_in hF hE hs hk hn
  obtain ⟨i, hi, hki, si, ei⟩ := next_in hE hF (same_symm hs) hk.symm hm
  rcases Nat.eq_or_lt_of_le hkj with h | h
  · subst h; exact ej.symm
  · rcases Nat.eq_or_lt_of_le hki with h' | h'
    · subst h'; exact ei
    · have b1 := same_born sj
      have b2 := same_born si
      have a1 := hE.sorted k j h hj
      have a2 := hF.sorted k i h' hi
      unfold Ahead at a1 a2
      rw [getD_of hm, getD_of hj, ej] at a1
      rw [getD_of hn, getD_of hi, ei] at a2
      rcases a1 with a1 | ⟨a1, c1⟩
      · rcases a2 with a2 | ⟨a2, c2⟩ <;> omega
      · rcases a2 with a2 | ⟨a2, c2⟩
        · omega
        · have := nc_neg F[k] E[k]
          omega

theorem form_unique {F E : Dag} (hF : IsForm F) (hE : IsForm E) (hs : Same (topOf F) (topOf E)) : F = E := by
  have main : ∀ k, k ≤ F.length → k ≤ E.length ∧ F.take k = E.take k := by
    intro k
    induction k with
    | zero => intro _; exact ⟨Nat.zero_le _, by simp⟩
    | succ k ih =>
      intro hk
      obtain ⟨h1, h2⟩ := ih (by omega)
      obtain ⟨j, hj, hkj, _, _⟩ := next_in hF hE hs h2 (by omega)
      refine ⟨by omega, ?_⟩
      rw [List.take_succ_eq_append_getElem (by omega), List.take_succ_eq_append_getElem (by omega), h2, step_eq hF hE hs h2 (by omega) (by omega)]
  obtain ⟨h1, h2⟩ := main F.length (Nat.le_refl _)
  rcases Nat.eq_or_lt_of_le h1 with h | h
  · rw [List.take_length, h, List.take_length] at h2; exact h2
  · obtain ⟨j, hj, hkj, _, _⟩ := next_in hE hF (same_symm hs) h2.symm h
    omega

end Go.Proofs.YteknjeohbcgpdaaGreatDoor.Cgt

namespace Go.Proofs.YteknjeohbcgpdaaGreatDoor.Cgt

theorem reduce_ge {g h : Gm} (SL : Gm → Prop)
    (cover : ∀ l, l ∈ g.l → ∃ i, SL i ∧ Ge i l)
    (step : ∀ i, SL i → (∃ x, x ∈ h.l ∧ Ge x i) ∨ (∃ k, k ∈ i.r ∧ Ge g k ∧ ∀ x, x ∈ k.l → SL x))
    (soundR : ∀ r, r ∈ h.r → ¬ Ge g r) : Ge h g := by
  have main : ∀ n i, sizeOf i < n → SL i → ¬ Ge i h := by
    intro n
    induction n with
    | zero => intro i h0; omega
    | succ n ih =>
      intro i hn hi hg
      rcases step i hi with ⟨x, hx, k⟩ | ⟨k, hk, hgk, hc⟩
      · exact not_ge_l hx (ge_trans _ _ _ k hg)
      · refine ((ge_iff i h).1 hg).1 k hk ?_
        rw [ge_iff]
        refine ⟨fun r hr c => soundR r hr (ge_trans _ _ _ hgk c), fun x hx c => ?_⟩
        have h1 := Gm.r_lt hk
        have h2 := Gm.l_lt hx
        exact ih x (by omega) (hc x hx) c
  rw [ge_iff]
  refine ⟨soundR, fun l hl c => ?_⟩
  obtain ⟨i, hi, k⟩ := cover l hl
  exact main _ i (Nat.lt_succ_self _) hi (ge_trans _ _ _ k c)

theorem reduce_le {g h : Gm} (SR : Gm → Prop)
    (cover : ∀ r, r ∈ g.r → ∃ i, SR i ∧ Ge r i)
    (step : ∀ i, SR i → (∃ x, x ∈ h.r ∧ Ge i x) ∨ (∃ k, k ∈ i.l ∧ Ge k g ∧ ∀ x, x ∈ k.r → SR x))
    (soundL : ∀ l, l ∈ h.l → ¬ Ge l g) : Ge g h := by
  have main : ∀ n i, sizeOf i < n → SR i → ¬ Ge h i := by
    intro n
    induction n with
    | zero => intro i h0; omega
    | succ n ih =>
      intro i hn hi hg
      rcases step i hi with ⟨x, hx, k⟩ | ⟨k, hk, hgk, hc⟩
      · exact not_ge_r hx (ge_trans _ _ _ hg k)
      · refine ((ge_iff h i).1 hg).2 k hk ?_
        rw [ge_iff]
        refine ⟨fun x hx c => ?_, fun l hl c => soundL l hl (ge_trans _ _ _ c hgk)⟩
        have h1 := Gm.l_lt hk
        have h2 := Gm.r_lt hx
        exact ih x (by omega) (hc x hx) c
  rw [ge_iff]
  refine ⟨fun r hr c => ?_, soundL⟩
  obtain ⟨i, hi, k⟩ := cover r hr
  exact main _ i (Nat.lt_succ_self _) hi (ge_trans _ _ _ c k)

theorem sound_l {g k x : Gm} (hk : Ge g k) (hx : x ∈ k.l) : ¬ Ge x g := fun c => not_ge_l hx (ge_trans _ _ _ c hk)
theorem sound_r {g k x : Gm} (hk : Ge k g) (hx : x ∈ k.r) : ¬ Ge g x := fun c => not_ge_r hx (ge_trans _ _ _ hk c)

theorem stays {α : Type} (ge : α → α → Prop) (refl : ∀ a, ge a a) (trans : ∀ a b c, ge a b → ge b c → ge a c)
    (l : List α) (anti : ∀ a b, a ∈ l → b ∈ l → ge a b → ge b a → a = b) :
    ∀ a, a ∈ l → ∃ b, b ∈ l ∧ ge b a ∧ ∀ c, c ∈ l → ge c b → c = b := by
  classical
  have main : ∀ n a, a ∈ l → (l.filter (fun c => decide (ge c a))).length ≤ n → ∃ b, b ∈ l ∧ ge b a ∧ ∀ c, c ∈ l → ge c b → c = b := by
    intro n
    induction n with
    | zero =>
      intro a ha hn
      have : a ∈ l.filter (fun c => decide (ge c a)) := by simp [ha, refl]
      have := List.length_pos_of_mem this
      omega
    | succ n ih =>
      intro a ha hn
      by_cases h : ∃ c, c ∈ l ∧ ge c a ∧ c ≠ a
      · obtain ⟨c, hc, hca, hne⟩ := h
        have hlt : (l.filter (fun d => decide (ge d c))).length < (l.filter (fun d => decide (ge d a))).length := by
          have e : l.filter (fun d => decide (ge d c)) = (l.filter (fun d => decide (ge d a))).filter (fun d => decide (ge d c)) := by
            rw [List.filter_filter]
            refine List.filter_congr fun d _ => ?_
            by_cases h1 : ge d c
            · simp [h1, trans _ _ _ h1 hca]
            · simp [h1]
          rw [e]
          have hm : a ∈ l.filter (fun d => decide (ge d a)) := by simp [ha, refl]
          have hna : ¬ ge a c := fun k => hne (anti c a hc ha hca k)
          refine Nat.lt_of_le_of_ne (List.length_filter_le _ _) fun e2 => ?_
          have := (List.filter_eq_self.1 (List.filter_sublist.eq_of_length e2)) a hm
          simp [hna] at this
        obtain ⟨b, hb, hbc, hmax⟩ := ih c hc (by omega)
        exact ⟨b, hb, trans _ _ _ hbc hca, hmax⟩
      · exact ⟨a, ha, refl a, fun c hc hca => Classical.byContradiction fun hne => h ⟨c, hc, hca, hne⟩⟩
  intro a ha
  exact main _ a ha (Nat.le_refl _)

end Go.Proofs.YteknjeohbcgpdaaGreatDoor.Cgt

namespace Go.Proofs.YteknjeohbcgpdaaGreatDoor.Cgt

def plus : Gm → Gm → Gm
  | a, b => .mk ((a.l.attach.map fun x => plus x.1 b) ++ b.l.attach.map fun y => plus a y.1) ((a.r.attach.map fun x => plus x.1 b) ++ b.r.attach.map fun y => plus a y.1)
termination_by a b => sizeOf a + sizeOf b
decreasing_by
  · have := Gm.l_lt x.2; omega
  · have := Gm.l_lt y.2; omega
  · have := Gm.r_lt x.2; omega
  · have := Gm.r_lt y.2; omega

theorem plus_eq (a b : Gm) : plus a b = .mk ((a.l.map fun x => plus x b) ++ b.l.map fun y => plus a y) ((a.r.map fun x => plus x b) ++ b.r.map fun y => plus a y) := by
  rw [plus]; simp
theorem plus_l {a b x : Gm} : x ∈ (plus a b).l ↔ (∃ y, y ∈ a.l ∧ plus y b = x) ∨ (∃ y, y ∈ b.l ∧ plus a y = x) := by
  rw [plus_eq]; simp [Gm.l]
theorem plus_r {a b x : Gm} : x ∈ (plus a b).r ↔ (∃ y, y ∈ a.r ∧ plus y b = x) ∨ (∃ y, y ∈ b.r ∧ plus a y = x) := by
  rw [plus_eq]; simp [Gm.r]

theorem plus_comm (a b : Gm) : Same (plus a b) (plus b a) := by
  rw [same_iff]
  refine ⟨fun x hx => ?_, fun y hy => ?_, fun x hx => ?_, fun y hy => ?_⟩
  · rcases plus_l.1 hx with ⟨z, hz, rfl⟩ | ⟨z, hz, rfl⟩
    · exact ⟨_, plus_l.2 (.inr ⟨z, hz, rfl⟩), plus_comm _ _⟩
    · exact ⟨_, plus_l.2 (.inl ⟨z, hz, rfl⟩), plus_comm _ _⟩
  · rcases plus_l.1 hy with ⟨z, hz, rfl⟩ | ⟨z, hz, rfl⟩
    · exact ⟨_, plus_l.2 (.inr ⟨z, hz, rfl⟩), plus_comm _ _⟩
    · exact ⟨_, plus_l.2 (.inl ⟨z, hz, rfl⟩), plus_comm _ _⟩
  · rcases plus_r.1 hx with ⟨z, hz, rfl⟩ | ⟨z, hz, rfl⟩
    · exact ⟨_, plus_r.2 (.inr ⟨z, hz, rfl⟩), plus_comm _ _⟩
    · exact ⟨_, plus_r.2 (.inl ⟨z, hz, rfl⟩), plus_comm _ _⟩
  · rcases plus_r.1 hy with ⟨z, hz, rfl⟩ | ⟨z, hz, rfl⟩
    · exact ⟨_, plus_r.2 (.inr ⟨z, hz, rfl⟩), plus_comm _ _⟩
    · exact ⟨_, plus_r.2 (.inl ⟨z, hz, rfl⟩), plus_comm _ _⟩
termination_by sizeOf a + sizeOf b
decreasing_by
  all_goals first
    | (have := Gm.l_lt hz; omega)
    | (have := Gm.r_lt hz; omega)

theorem plus_ge (x y b : Gm) : Ge (plus x b) (plus y b) ↔ Ge x y := by
  constructor
  · intro h
    obtain ⟨h1, h2⟩ := (ge_iff _ _).1 h
    rw [ge_iff]
    exact ⟨fun r hr g => h1 _ (plus_r.2 (.inl ⟨r, hr, rfl⟩)) ((plus_ge y r b).2 g), fun l hl g => h2 _ (plus_l.2 (.inl ⟨l, hl, rfl⟩)) ((plus_ge l x b).2 g)⟩
  · intro h
    obtain ⟨h1, h2⟩ := (ge_iff _ _).1 h
    rw [ge_iff]
    refine ⟨fun r hr g => ?_, fun l hl g => ?_⟩
    · rcases plus_r.1 hr with ⟨z, hz, rfl⟩ | ⟨z, hz, rfl⟩
      · exact h1 z hz ((plus_ge y z b).1 g)
      · exact ((ge_iff _ _).1 g).1 _ (plus_r.2 (.inr ⟨z, hz, rfl⟩)) ((plus_ge x y z).2 h)
    · rcases plus_l.1 hl with ⟨z, hz, rfl⟩ | ⟨z, hz, rfl⟩
      · exact h2 z hz ((plus_ge z x b).1 g)
      · exact ((ge_iff _ _).1 g).2 _ (plus_l.2 (.inr ⟨z, hz, rfl⟩)) ((plus_ge x y z).2 h)
termination_by sizeOf x + sizeOf y + sizeOf b
decreasing_by
  all_goals first
    | (have := Gm.r_lt hr; omega)
    | (have := Gm.l_lt hl; omega)
    | (have := Gm.r_lt hz; omega)
    | (have := Gm.l_lt hz; omega)

theorem plus_eqv {a a' b b' : Gm} (h : Eqv a a') (k : Eqv b b') : Eqv (plus a b) (plus a' b') := by
  have p : ∀ {u v : Gm} (c : Gm), Eqv u v → Eqv (plus u c) (plus v c) := fun c e => ⟨(plus_ge _ _ c).2 e.1, (plus_ge _ _ c).2 e.2⟩
  exact (p b h).trans ((plus_comm a' b).eqv.trans ((p a' k).trans (plus_comm b' a').eqv))

def zeroG : Gm := .mk [] []
end Go.Proofs.YteknjeohbcgpdaaGreatDoor.Cgt

namespace Go.Proofs.YteknjeohbcgpdaaGreatDoor
open Cgt (Dag Gm Canon Eqv IsForm topOf Same plus)

def FormOf (F : Dag) (g : Gm) : Prop := IsForm F ∧ ∃ c, Same (topOf F) c ∧ Canon c ∧ Eqv c g
theorem FormOf.eqv {F : Dag} {g : Gm} (h : FormOf F g) : Eqv (topOf F) g := by
  obtain ⟨_, c, h1, _, h2⟩ := h
  exact h1.eqv.trans h2
theorem FormOf.to {F : Dag} {g g' : Gm} (h : FormOf F g) (e : Eqv g g') : FormOf F g' := by
  obtain ⟨i, c, h1, h2, h3⟩ := h
  exact ⟨i, c, h1, h2, h3.trans e⟩
theorem FormOf.unique {F G : Dag} {g : Gm} (h : FormOf F g) (k : FormOf G g) : F = G := by
  obtain ⟨i1, g1, s1, c1, e1⟩ := h
  obtain ⟨i2, g2, s2, c2, e2⟩ := k
  exact Cgt.form_unique i1 i2 (Cgt.same_trans s1 (Cgt.same_trans (Cgt.canon_unique c1 c2 (e1.trans e2.symm)) (Cgt.same_symm s2)))

theorem FormOf.sum {F G H F' : Dag} {a b g : Gm} (hF : FormOf F a) (hG : FormOf G b) (hH : Same (topOf H) (plus (topOf F) (topOf G))) (i : IsForm F') (s : Same (topOf F') g) (c : Canon g) (e : Eqv g (topOf H)) : FormOf F' (plus a b) :=
  ⟨i, g, s, c, e.trans (hH.eqv.trans (Cgt.plus_eqv hF.eqv hG.eqv))⟩

end Go.Proofs.YteknjeohbcgpdaaGreatDoor
