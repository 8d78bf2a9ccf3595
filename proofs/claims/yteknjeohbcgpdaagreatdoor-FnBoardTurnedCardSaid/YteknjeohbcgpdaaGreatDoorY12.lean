/-
  Plain law: the form of a board of at most nine free cells is within bounds; no condition.
-/
import Derived.Test.YteknjeohbcgpdaaGreatDoorY8
import Derived.Test.YteknjeohbcgpdaaGreatDoorY11
namespace Go.Proofs.YteknjeohbcgpdaaGreatDoor.Cgt

theorem sz_pos (g : Gm) : 0 < SizeOf.sizeOf g := by cases g; simp; omega

theorem opt_l {c g : Gm} {Q : Gm → Prop} (hc : Canon c) (h : Eqv c g) (h1 : ∀ a, a ∈ g.l → ∀ b, b ∈ a.r → ∀ d, d ∈ b.l → Q d) (h2 : ∀ d, Q d → ∀ e, e ∈ d.r → ∀ f, f ∈ e.l → Q f) {x : Gm} (hx : x ∈ c.l) : ∃ y, (y ∈ g.l ∨ Q y) ∧ Eqv x y := by
  have key : ∀ n y, SizeOf.sizeOf y ≤ n → (y ∈ g.l ∨ Q y) → Ge y x → ¬ Ge y c → ∃ y, (y ∈ g.l ∨ Q y) ∧ Eqv x y := by
    intro n
    induction n with
    | zero => intro y hn; have := sz_pos y; omega
    | succ n ih =>
      intro y hn hy g1 n1
      rcases not_ge n1 with ⟨r, hr, g2⟩ | ⟨z, hz, g2⟩
      · rcases not_ge (((ge_iff y x).1 g1).1 r hr) with ⟨s, hs, g3⟩ | ⟨l, hl, g3⟩
        · exact absurd (ge_trans _ _ _ g2 g3) (hc.tight.2.2.1 x hx s hs)
        · refine ih l (by have := Gm.r_lt hr; have := Gm.l_lt hl; omega) (.inr ?_) g3 (((ge_iff c r).1 g2).2 l hl)
          rcases hy with hy | hy
          · exact h1 y hy r hr l hl
          · exact h2 y hy r hr l hl
      · exact ⟨y, hy, ge_trans _ _ _ (hc.tight.1 z x hz hx (ge_trans _ _ _ g2 g1)).eqv.2 g2, g1⟩
  rcases not_ge (fun k => not_ge_l hx (ge_trans _ _ _ k h.2) : ¬ Ge x g) with ⟨r, hr, g1⟩ | ⟨y, hy, g1⟩
  · exact absurd (ge_trans _ _ _ h.1 g1) (hc.tight.2.2.1 x hx r hr)
  · exact key _ y (Nat.le_refl _) (.inl hy) g1 (fun k => not_ge_l hy (ge_trans _ _ _ k h.1))
theorem opt_r {c g : Gm} {Q : Gm → Prop} (hc : Canon c) (h : Eqv c g) (h1 : ∀ a, a ∈ g.r → ∀ b, b ∈ a.l → ∀ d, d ∈ b.r → Q d) (h2 : ∀ d, Q d → ∀ e, e ∈ d.l → ∀ f, f ∈ e.r → Q f) {x : Gm} (hx : x ∈ c.r) : ∃ y, (y ∈ g.r ∨ Q y) ∧ Eqv x y := by
  have key : ∀ n y, SizeOf.sizeOf y ≤ n → (y ∈ g.r ∨ Q y) → Ge x y → ¬ Ge c y → ∃ y, (y ∈ g.r ∨ Q y) ∧ Eqv x y := by
    intro n
    induction n with
    | zero => intro y hn; have := sz_pos y; omega
    | succ n ih =>
      intro y hn hy g1 n1
      rcases not_ge n1 with ⟨z, hz, g2⟩ | ⟨l, hl, g2⟩
      · exact ⟨y, hy, g1, ge_trans _ _ _ g2 (hc.tight.2.1 x z hx hz (ge_trans _ _ _ g1 g2)).eqv.2⟩
      · rcases not_ge (((ge_iff x y).1 g1).2 l hl) with ⟨r, hr, g3⟩ | ⟨s, hs, g3⟩
        · refine ih r (by have := Gm.l_lt hl; have := Gm.r_lt hr; omega) (.inr ?_) g3 (((ge_iff l c).1 g2).1 r hr)
          rcases hy with hy | hy
          · exact h1 y hy l hl r hr
          · exact h2 y hy l hl r hr
        · exact absurd (ge_trans _ _ _ g3 g2) (hc.tight.2.2.2 x hx s hs)
  rcases not_ge (fun k => not_ge_r hx (ge_trans _ _ _ h.1 k) : ¬ Ge g x) with ⟨y, hy, g1⟩ | ⟨l, hl, g1⟩
  · exact key _ y (Nat.le_refl _) (.inl hy) g1 (fun k => not_ge_r hy (ge_trans _ _ _ h.2 k))
  · exact absurd (ge_trans _ _ _ g1 h.2) (hc.tight.2.2.2 x hx l hl)

def CE (x z : Gm) : Prop := ∃ y, Same x y ∧ Canon y ∧ Eqv y z
theorem CE.uniq {a b z : Gm} (h : CE a z) (k : CE b z) : Same a b := by
  obtain ⟨y, h1, h2, h3⟩ := h
  obtain ⟨x, k1, k2, k3⟩ := k
  exact same_trans h1 (same_trans (canon_unique h2 k2 (h3.trans k3.symm)) (same_symm k1))

theorem gB_one {T : Cs} (hB : Bd T) (h : cnt T ≤ 1) : gB T = .mk [] [] := by
  have none : ∀ left, movesOf left T = [] := fun left => by
    cases e : movesOf left T with
    | nil => rfl
    | cons a l => obtain ⟨r, c, hc, _⟩ := (mem_moves hB).1 (e ▸ List.mem_cons_self .. : a ∈ movesOf left T); have := cnt_lay hB hc; omega
  rw [gB_eq hB, none, none]; rfl
def four : List Gm := [.mk [] [], .mk [.mk [] []] [], .mk [] [.mk [] []], .mk [.mk [] []] [.mk [] []]]
theorem flat4 {g : Gm} (hl : ∀ x, x ∈ g.l → x = .mk [] []) (hr : ∀ x, x ∈ g.r → x = .mk [] []) : ∃ y, y ∈ four ∧ Same g y := by
  obtain ⟨l, r⟩ := g
  have key : ∀ l : List Gm, (∀ x, x ∈ l → x = .mk [] []) → ∃ l', (l' = [] ∨ l' = [.mk [] []]) ∧ ∀ x, x ∈ l' ↔ x ∈ l := fun l h => by
    cases l with
    | nil => exact ⟨[], .inl rfl, fun _ => Iff.rfl⟩
    | cons a l =>
      refine ⟨_, .inr rfl, fun x => ⟨fun hx => ?_, fun hx => by rw [h x hx]; simp⟩⟩
      obtain rfl : x = .mk [] [] := by simpa using hx
      rw [← h a (by simp)]; simp
  obtain ⟨l', el, ml⟩ := key l hl
  obtain ⟨r', er, mr⟩ := key r hr
  refine ⟨.mk l' r', ?_, ?_⟩
  · rcases el with rfl | rfl <;> rcases er with rfl | rfl <;> simp [four]
  · rw [same_iff]
    exact ⟨fun x hx => ⟨x, (ml x).2 hx, same_refl _⟩, fun x hx => ⟨x, (ml x).1 hx, same_refl _⟩, fun x hx => ⟨x, (mr x).2 hx, same_refl _⟩, fun x hx => ⟨x, (mr x).1 hx, same_refl _⟩⟩
theorem small4 {T : Cs} (hB : Bd T) (h : cnt T ≤ 3) : ∃ y, y ∈ four ∧ Eqv (gB T) y := by
  obtain ⟨y, hy, s⟩ := flat4 (g := gB T) (fun x hx => by
    obtain ⟨r, c, hc, rfl⟩ := (gB_l hB).1 hx
    have := cnt_lay hB hc
    exact gB_one (hB.lay r c) (by omega)) (fun x hx => by
    obtain ⟨r, c, hc, rfl⟩ := (gB_r hB).1 hx
    have := cnt_lay hB hc
    exact gB_one (hB.lay r c) (by omega))
  exact ⟨y, hy, s.eqv⟩

def Pl (S T : Cs) : Prop := T = S ∨ (∃ l r c, can l S r c = true ∧ T = lay l S r c) ∨ (∃ l r c l' r' c', can l S r c = true ∧ can l' (lay l S r c) r' c' = true ∧ T = lay l' (lay l S r c) r' c') ∨ (Bd T ∧ cnt T ≤ 3)
section
variable {S T : Cs} (hB : Bd S) (h9 : cnt S ≤ 9)
include hB in
theorem Pl.bd (h : Pl S T) : Bd T := by
  rcases h with rfl | ⟨l, r, c, _, rfl⟩ | ⟨l, r, c, l', r', c', _, _, rfl⟩ | h
  · exact hB
  · exact hB.lay _ _
  · exact (hB.lay _ _).lay _ _
  · exact h.1
include hB h9 in
theorem Pl.cn (h : Pl S T) : cnt T ≤ 9 := by
  rcases h with rfl | ⟨l, r, c, k, rfl⟩ | ⟨l, r, c, l', r', c', k, k', rfl⟩ | h
  · exact h9
  · have := cnt_lay hB k; omega
  · have := cnt_lay hB k; have := cnt_lay (hB.lay _ _) k'; omega
  · omega
include hB h9 in
theorem Pl.step (h : Pl S T) {l : Bool} {r c : Nat} (k : can l T r c = true) : Pl S (lay l T r c) := by
  have hT := h.bd hB
  rcases h with rfl | ⟨l, r, c, k1, rfl⟩ | ⟨l, r, c, l', r', c', k1, k2, rfl⟩ | h
  · exact .inr (.inl ⟨l, r, c, k, rfl⟩)
  · exact .inr (.inr (.inl ⟨_, _, _, _, _, _, k1, k, rfl⟩))
  · have := cnt_lay hB k1; have := cnt_lay (hB.lay _ _) k2; have := cnt_lay hT k
    exact .inr (.inr (.inr ⟨hT.lay _ _, by omega⟩))
  · have := cnt_lay hT k
    exact .inr (.inr (.inr ⟨hT.lay _ _, by omega⟩))

def SmallB (y : Gm) : Prop := ∃ T, Bd T ∧ cnt T ≤ 3 ∧ y = gB T
theorem three {T : Cs} (hT : Bd T) (h : cnt T ≤ 9) {l l' l'' : Bool} {r c r' c' r'' c'' : Nat} (k : can l T r c = true) (k' : can l' (lay l T r c) r' c' = true) (k'' : can l'' (lay l' (lay l T r c) r' c') r'' c'' = true) : SmallB (gB (lay l'' (lay l' (lay l T r c) r' c') r'' c'')) := by
  have := cnt_lay hT k; have := cnt_lay (hT.lay _ _) k'; have := cnt_lay ((hT.lay _ _).lay _ _) k''
  exact ⟨_, ((hT.lay _ _).lay _ _).lay _ _, by omega, rfl⟩

theorem lopt {c : Gm} {T : Cs} (hT : Bd T) (h : cnt T ≤ 9) (hc : Canon c) (e : Eqv c (gB T)) {x : Gm} (hx : x ∈ c.l) : ∃ y, (y ∈ (gB T).l ∨ SmallB y) ∧ Eqv x y := by
  refine opt_l hc e (fun a ha b hb d hd => ?_) (fun d hd e he f hf => ?_) hx
  · obtain ⟨r, c, k, rfl⟩ := (gB_l hT).1 ha
    obtain ⟨r', c', k', rfl⟩ := (gB_r (hT.lay _ _)).1 hb
    obtain ⟨r'', c'', k'', rfl⟩ := (gB_l ((hT.lay _ _).lay _ _)).1 hd
    exact three hT h k k' k''
  · obtain ⟨U, hU, h3, rfl⟩ := hd
    obtain ⟨r, c, k, rfl⟩ := (gB_r hU).1 he
    obtain ⟨r', c', k', rfl⟩ := (gB_l (hU.lay _ _)).1 hf
    have := cnt_lay hU k; have := cnt_lay (hU.lay _ _) k'
    exact ⟨_, (hU.lay _ _).lay _ _, by omega, rfl⟩
theorem ropt {c : Gm} {T : Cs} (hT : Bd T) (h : cnt T ≤ 9) (hc : Canon c) (e : Eqv c (gB T)) {x : Gm} (hx : x ∈ c.r) : ∃ y, (y ∈ (gB T).r ∨ SmallB y) ∧ Eqv x y := by
  refine opt_r hc e (fun a ha b hb d hd => ?_) (fun d hd e he f hf => ?_) hx
  · obtain ⟨r, c, k, rfl⟩ := (gB_r hT).1 ha
    obtain ⟨r', c', k', rfl⟩ := (gB_l (hT.lay _ _)).1 hb
    obtain ⟨r'', c'', k'', rfl⟩ := (gB_r ((hT.lay _ _).lay _ _)).1 hd
    exact three hT h k k' k''
  · obtain ⟨U, hU, h3, rfl⟩ := hd
    obtain ⟨r, c, k, rfl⟩ := (gB_l hU).1 he
    obtain ⟨r', c', k', rfl⟩ := (gB_r (hU.lay _ _)).1 hf
    have := cnt_lay hU k; have := cnt_lay (hU.lay _ _) k'
    exact ⟨_, (hU.lay _ _).lay _ _, by omega, rfl⟩

theorem foot {S : Cs} (hB : Bd S) {c : Nat} : ∀ n r, 8 - r ≤ n → S r c = true → ∃ r', S r' c = true ∧ S (r' + 1) c = false := by
  intro n
  induction n with
  | zero => intro r hr k; have := (hB _ _ k).1; omega
  | succ n ih =>
    intro r hr k
    cases e : S (r + 1) c with
    | false => exact ⟨r, k, e⟩
    | true => exact ih (r + 1) (by omega) e
theorem col8 : ∀ c, c < 8 → grid.countP (fun p => p.2 == c) ≤ 8 := by decide
theorem some_cell {S : Cs} (h : cnt S ≠ 0) : ∃ r c, S r c = true := by
  obtain ⟨p, hp, hs⟩ := List.countP_pos_iff.1 (show 0 < grid.countP (fun p => S p.1 p.2) from by unfold cnt at h; omega)
  exact ⟨p.1, p.2, hs⟩
theorem vert7 {S : Cs} (hB : Bd S) (h9 : cnt S ≤ 9) : cnt (can true S) ≤ 7 := by
  by_cases h0 : cnt S = 0
  · have := cnt_mono (A := can true S) (B := S) (fun x y k => (can_iff.1 k).1); omega
  · obtain ⟨r, c, hs⟩ := some_cell h0
    obtain ⟨r1, s1, f1⟩ := foot hB _ r (Nat.le_refl _) hs
    have no : ∀ {r c}, S (r + 1) c = false → ∀ x y, can true S x y = true → ¬ (x = r ∧ y = c) := fun f x y k e => by
      have := (can_iff.1 k).2
      rw [e.1, e.2] at this
      simp only [nxr, nxc, if_true] at this
      rw [f] at this; cases this
    have m1 := cnt_rm (hB _ _ s1) s1
    by_cases h8 : cnt S ≤ 8
    · have := cnt_mono (A := can true S) (B := rm S r1 c) (fun x y k => rm_iff.2 ⟨(can_iff.1 k).1, no f1 x y k⟩)
      omega
    · have : ∃ r d, S r d = true ∧ d ≠ c := Classical.byContradiction fun hn => by
        have hc := (hB _ _ s1).2
        have := col8 c hc
        have : cnt S ≤ grid.countP (fun p => p.2 == c) := List.countP_mono_left fun p _ h => by
          have : p.2 = c := Classical.byContradiction fun hne => hn ⟨_, _, h, hne⟩
          simp [this]
        omega
      obtain ⟨r', d, hd, hne⟩ := this
      obtain ⟨r2, s2, f2⟩ := foot hB _ r' (Nat.le_refl _) hd
      have m2 := cnt_rm (S := rm S r1 c) (hB _ _ s2) (rm_iff.2 ⟨s2, fun e => hne e.2⟩)
      have := cnt_mono (A := can true S) (B := rm (rm S r1 c) r2 d) (fun x y k => rm_iff.2 ⟨rm_iff.2 ⟨(can_iff.1 k).1, no f1 x y k⟩, no f2 x y k⟩)
      omega
theorem moves7 (left : Bool) {S : Cs} (hB : Bd S) (h9 : cnt S ≤ 9) : (movesOf left S).length ≤ 7 := by
  have e : (movesOf left S).length = cnt (can left S) := by
    unfold movesOf cnt; rw [List.length_map, ← List.countP_eq_length_filter]
  rw [e]
  cases left with
  | true => exact vert7 hB h9
  | false =>
    have k := vert7 hB.swp (by rw [cnt_swp hB]; exact h9)
    have e : can false S = swp (can true (swp S)) := by funext x y; exact (can_swp true S y x).symm
    rw [e, cnt_swp (fun x y k => hB.swp x y (can_iff.1 k).1)]; exact k

def prs {α : Type} : List α → List (α × α)
  | [] => []
  | a :: l => l.map (fun b => (a, b)) ++ prs l
theorem prs_len {α : Type} (l : List α) : 2 * (prs l).length + l.length = l.length * l.length := by
  induction l with
  | nil => rfl
  | cons a l ih =>
    have e : (l.length + 1) * (l.length + 1) = l.length * l.length + 2 * l.length + 1 := by simp only [Nat.add_mul, Nat.mul_add]; omega
    simp only [prs, List.length_append, List.length_map, List.length_cons]; omega
theorem prs_mem {α : Type} {x y : α} (ne : x ≠ y) : ∀ l, x ∈ l → y ∈ l → (x, y) ∈ prs l ∨ (y, x) ∈ prs l := by
  intro l
  induction l with
  | nil => intro h; cases h
  | cons a l ih =>
    intro hx hy
    simp only [prs, List.mem_append, List.mem_map]
    rcases List.mem_cons.1 hx with rfl | hx'
    · rcases List.mem_cons.1 hy with rfl | hy'
      · exact absurd rfl ne
      · exact .inl (.inl ⟨y, hy', rfl⟩)
    · rcases List.mem_cons.1 hy with rfl | hy'
      · exact .inr (.inl ⟨x, hx', rfl⟩)
      · exact (ih hx' hy').imp .inr .inr

def mvs (S : Cs) : List (Bool × Nat × Nat) := (grid.filter fun p => can true S p.1 p.2).map (fun p => (true, p.1, p.2)) ++ (grid.filter fun p => can false S p.1 p.2).map (fun p => (false, p.1, p.2))
def ly (S : Cs) (m : Bool × Nat × Nat) : Cs := lay m.1 S m.2.1 m.2.2
theorem mvs_len {S : Cs} (hB : Bd S) (h9 : cnt S ≤ 9) : (mvs S).length ≤ 14 := by
  have h1 := moves7 true hB h9
  have h2 := moves7 false hB h9
  unfold movesOf at h1 h2
  unfold mvs
  simp only [List.length_append, List.length_map] at *
  omega
theorem mvs_mem {S : Cs} (hB : Bd S) {l : Bool} {r c : Nat} (h : can l S r c = true) : (l, r, c) ∈ mvs S := by
  have hg : (r, c) ∈ grid := mem_grid.2 (hB _ _ (can_iff.1 h).1)
  unfold mvs
  cases l with
  | true => exact List.mem_append_left _ (List.mem_map.2 ⟨(r, c), List.mem_filter.2 ⟨hg, h⟩, rfl⟩)
  | false => exact List.mem_append_right _ (List.mem_map.2 ⟨(r, c), List.mem_filter.2 ⟨hg, h⟩, rfl⟩)
theorem ly_comm (S : Cs) (m k : Bool × Nat × Nat) : ly (ly S m) k = ly (ly S k) m := by
  apply cs_ext
  intro x y
  unfold ly
  rw [lay_iff, lay_iff, lay_iff, lay_iff]
  constructor <;> rintro ⟨⟨a, b, c⟩, d, e⟩ <;> exact ⟨⟨a, d, e⟩, b, c⟩

def all_ (S : Cs) : List Gm := gB S :: ((mvs S).map (fun m => gB (ly S m)) ++ ((prs (mvs S)).map (fun p => gB (ly (ly S p.1) p.2)) ++ four))
include hB h9 in
theorem all_len : (all_ S).length ≤ 110 := by
  have h := mvs_len hB h9
  have k := prs_len (mvs S)
  have := Nat.mul_le_mul_right (mvs S).length h
  simp only [all_, List.length_cons, List.length_append, List.length_map, four, List.length_nil]
  omega
include hB in
theorem all_cov (h : Pl S T) : ∃ y, y ∈ all_ S ∧ Eqv (gB T) y := by
  unfold all_
  rcases h with rfl | ⟨l, r, c, k, rfl⟩ | ⟨l, r, c, l', r', c', k, k', rfl⟩ | h
  · exact ⟨_, List.mem_cons_self .., Eqv.refl _⟩
  · exact ⟨_, List.mem_cons_of_mem _ (List.mem_append_left _ (List.mem_map.2 ⟨_, mvs_mem hB k, rfl⟩)), Eqv.refl _⟩
  · obtain ⟨k1, k2⟩ := can_iff.1 k'
    have ks : can l' S r' c' = true := can_iff.2 ⟨(lay_iff.1 k1).1, (lay_iff.1 k2).1⟩
    have hne : (l, r, c) ≠ (l', r', c') := fun e => by
      injection e with e1 e2
      injection e2 with e2 e3
      subst e1; subst e2; subst e3
      exact (lay_iff.1 k1).2.1 ⟨rfl, rfl⟩
    have hin : ∀ p : (Bool × Nat × Nat) × (Bool × Nat × Nat), p ∈ prs (mvs S) → gB (ly (ly S p.1) p.2) ∈ gB S :: ((mvs S).map (fun m => gB (ly S m)) ++ ((prs (mvs S)).map (fun p => gB (ly (ly S p.1) p.2)) ++ four)) := fun p hp =>
      List.mem_cons_of_mem _ (List.mem_append_right _ (List.mem_append_left _ (List.mem_map.2 ⟨p, hp, rfl⟩)))
    rcases prs_mem hne _ (mvs_mem hB k) (mvs_mem hB ks) with hp | hp
    · exact ⟨_, hin _ hp, Eqv.refl _⟩
    · refine ⟨_, hin _ hp, ?_⟩
      rw [ly_comm]; exact Eqv.refl _
  · obtain ⟨y, hy, e⟩ := small4 h.1 h.2
    exact ⟨y, List.mem_cons_of_mem _ (List.mem_append_right _ (List.mem_append_right _ hy)), e⟩

include hB h9 in
theorem nodes_at {F : Dag} (hF : FormOf F (gB S)) : ∀ i, i < F.length → ∃ c T, Same (vl F i) c ∧ Canon c ∧ Pl S T ∧ Eqv c (gB T) := by
  obtain ⟨hI, c, h1, h2, h3⟩ := hF
  intro i hi
  have hr := hI.reach i hi
  clear hi
  induction hr with
  | here => exact ⟨c, S, h1, h2, .inl rfl, h3⟩
  | left hr hd hk ih =>
    obtain ⟨c', T, s, hc, hp, e⟩ := ih
    rw [same_iff, vl_l hI.good.wf hd] at s
    obtain ⟨y, hy, t⟩ := s.1 _ (List.mem_map_of_mem hk)
    obtain ⟨z, hz, e2⟩ := lopt (hp.bd hB) (hp.cn hB h9) hc e hy
    rcases hz with hz | ⟨U, hU, h3, rfl⟩
    · obtain ⟨r, c, k, rfl⟩ := (gB_l (hp.bd hB)).1 hz
      exact ⟨y, _, t, hc.l hy, hp.step hB h9 k, e2⟩
    · exact ⟨y, U, t, hc.l hy, .inr (.inr (.inr ⟨hU, h3⟩)), e2⟩
  | right hr hd hk ih =>
    obtain ⟨c', T, s, hc, hp, e⟩ := ih
    rw [same_iff, vl_r hI.good.wf hd] at s
    obtain ⟨y, hy, t⟩ := s.2.2.1 _ (List.mem_map_of_mem hk)
    obtain ⟨z, hz, e2⟩ := ropt (hp.bd hB) (hp.cn hB h9) hc e hy
    rcases hz with hz | ⟨U, hU, h3, rfl⟩
    · obtain ⟨r, c, k, rfl⟩ := (gB_r (hp.bd hB)).1 hz
      exact ⟨y, _, t, hc.r hy, hp.step hB h9 k, e2⟩
    · exact ⟨y, U, t, hc.r hy, .inr (.inr (.inr ⟨hU, h3⟩)), e2⟩

theorem opts_at {E : Dag} (hE : Good E) {l : List Nat} {m : List Gm} (hl : Asc l) (hlt : ∀ x, x ∈ l → x < E.length) (h : ∀ x, x ∈ l → ∃ y, y ∈ m ∧ CE (vl E x) y) : l.length ≤ m.length := by
  have := card_le (n := l.length) (at_ := List.range m.length) (R := fun i j => ∃ (hi : i < l.length) (hj : j < m.length), CE (vl E l[i]) m[j]) (fun i hi => ?_) (fun i i' j hi hi' h1 h2 => ?_)
  · simpa using this
  · obtain ⟨y, hy, s⟩ := h _ (List.getElem_mem hi)
    obtain ⟨j, hj, rfl⟩ := List.mem_iff_getElem.1 hy
    exact ⟨j, List.mem_range.2 hj, hi, hj, s⟩
  · obtain ⟨_, _, s1⟩ := h1
    obtain ⟨_, _, s2⟩ := h2
    have := same_idx hE _ _ (hlt _ (List.getElem_mem hi)) (hlt _ (List.getElem_mem hi')) (s1.uniq s2)
    have hp := List.pairwise_iff_getElem.1 hl
    rcases Nat.lt_trichotomy i i' with c | c | c
    · have := hp i i' hi hi' c; omega
    · exact c
    · have := hp i' i hi' hi c; omega

include hB h9 in
theorem board_fits {F : Dag} (hF : FormOf F (gB S)) : fitsN F = true := by
  have hI := hF.1
  have hn := nodes_at hB h9 hF
  have h0 := List.length_pos_iff.2 hI.ne
  have hlen : F.length ≤ 110 := by
    refine Nat.le_trans ?_ (all_len hB h9)
    have := opts_at (m := all_ S) hI.good (l := List.range F.length) List.pairwise_lt_range (fun x hx => List.mem_range.1 hx) (fun x hx => by
      obtain ⟨c, T, s, hc, hp, e⟩ := hn x (List.mem_range.1 hx)
      obtain ⟨y, hy, e2⟩ := all_cov hB hp
      exact ⟨y, hy, c, s, hc, e.trans e2⟩)
    simpa using this
  have hop : ∀ i (hi : i < F.length), (F[i]).1.length ≤ 11 ∧ (F[i]).2.length ≤ 11 := fun i hi => by
    obtain ⟨c, T, s, hc, hp, e⟩ := hn i hi
    have hd : F[i]? = some F[i] := List.getElem?_eq_getElem hi
    obtain ⟨w1, w2⟩ := hI.good.wf i _ hd
    have hT := hp.bd hB
    have hT9 := hp.cn hB h9
    rw [same_iff, vl_l hI.good.wf hd, vl_r hI.good.wf hd] at s
    have m1 := moves7 true hT hT9
    have m2 := moves7 false hT hT9
    have four_of : ∀ {y : Gm}, SmallB y → ∃ z, z ∈ four ∧ Eqv y z := fun ⟨U, hU, h3, e⟩ => by subst e; exact small4 hU h3
    constructor
    · have := opts_at (m := (gB T).l ++ four) hI.good (hI.good.asc _ (List.getElem_mem hi)).1 (fun x hx => by have := w1 x hx; omega) (fun x hx => by
        obtain ⟨y, hy, t⟩ := s.1 _ (List.mem_map_of_mem hx)
        obtain ⟨z, hz, e2⟩ := lopt hT hT9 hc e hy
        rcases hz with hz | hz
        · exact ⟨z, List.mem_append_left _ hz, y, t, hc.l hy, e2⟩
        · obtain ⟨u, hu, e3⟩ := four_of hz
          exact ⟨u, List.mem_append_right _ hu, y, t, hc.l hy, e2.trans e3⟩)
      rw [gB_eq hT] at this
      simp only [Gm.l, List.length_append, List.length_map, four, List.length_cons, List.length_nil] at this
      omega
    · have := opts_at (m := (gB T).r ++ four) hI.good (hI.good.asc _ (List.getElem_mem hi)).2 (fun x hx => by have := w2 x hx; omega) (fun x hx => by
        obtain ⟨y, hy, t⟩ := s.2.2.1 _ (List.mem_map_of_mem hx)
        obtain ⟨z, hz, e2⟩ := ropt hT hT9 hc e hy
        rcases hz with hz | hz
        · exact ⟨z, List.mem_append_left _ hz, y, t, hc.r hy, e2⟩
        · obtain ⟨u, hu, e3⟩ := four_of hz
          exact ⟨u, List.mem_append_right _ hu, y, t, hc.r hy, e2.trans e3⟩)
      rw [gB_eq hT] at this
      simp only [Gm.r, List.length_append, List.length_map, four, List.length_cons, List.length_nil] at this
      omega
  unfold fitsN
  exact decide_eq_true ⟨h0, by omega, fun i hi => ⟨by have := (hop i hi).1; omega, by have := (hop i hi).2; omega⟩⟩
end

end Go.Proofs.YteknjeohbcgpdaaGreatDoor.Cgt
