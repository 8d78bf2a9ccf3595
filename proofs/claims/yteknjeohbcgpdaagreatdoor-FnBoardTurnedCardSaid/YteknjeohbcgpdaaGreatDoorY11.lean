/-
  Plain law: boards of letters that are turned, mirrored, trimmed; no condition. (2 texts.)
-/
import Derived.Test.YteknjeohbcgpdaaGreatDoorY8
import Derived.Test.YteknjeohbcgpdaaGreatDoorY10
namespace Go.Proofs.YteknjeohbcgpdaaGreatDoor.Cgt

theorem cnt_le {f : Nat → Nat → Nat × Nat} : ∀ n {A B : Cs}, cnt A ≤ n → Bd A → Bd B → (∀ r c, A r c = true → B (f r c).1 (f r c).2 = true) → (∀ r c r' c', A r c = true → A r' c' = true → f r c = f r' c' → r = r' ∧ c = c') → cnt A ≤ cnt B := by
  intro n
  induction n with
  | zero => intro A B hn _ _ _ _; omega
  | succ n ih =>
    intro A B hn hA hB h hi
    by_cases h0 : cnt A = 0
    · omega
    · obtain ⟨p, hp, hs⟩ := List.countP_pos_iff.1 (show 0 < grid.countP (fun p => A p.1 p.2) from by unfold cnt at h0; omega)
      obtain ⟨r, c⟩ := p
      simp only at hs
      have hs' := h r c hs
      have a1 := cnt_rm (hA _ _ hs) hs
      have a2 := cnt_rm (hB _ _ hs') hs'
      have := ih (A := rm A r c) (B := rm B (f r c).1 (f r c).2) (by omega) (fun x y k => hA x y (rm_iff.1 k).1) (fun x y k => hB x y (rm_iff.1 k).1) (fun x y k => by
        obtain ⟨k1, k2⟩ := rm_iff.1 k
        exact rm_iff.2 ⟨h x y k1, fun e => k2 (hi x y r c k1 hs (Prod.ext e.1 e.2))⟩) (fun x y x' y' k k' e => hi x y x' y' (rm_iff.1 k).1 (rm_iff.1 k').1 e)
      omega

def swp (S : Cs) : Cs := fun r c => S c r
theorem Bd.swp {S : Cs} (h : Bd S) : Bd (swp S) := fun r c k => (h c r k).symm
theorem cnt_swp {S : Cs} (h : Bd S) : cnt (swp S) = cnt S := by
  have key : ∀ {S : Cs}, Bd S → cnt (Cgt.swp S) ≤ cnt S := fun {S} h => cnt_le (f := fun r c => (c, r)) _ (Nat.le_refl _) h.swp h (fun r c k => k) (fun r c r' c' _ _ e => by simp only [Prod.mk.injEq] at e; exact ⟨e.2, e.1⟩)
  have h1 := key h
  have h2 := key h.swp
  have e : Cgt.swp (Cgt.swp S) = S := rfl
  rw [e] at h2; omega
theorem can_swp (left : Bool) (S : Cs) (r c : Nat) : can left (swp S) r c = can (!left) S c r := by cases left <;> rfl
theorem lay_swp (left : Bool) (S : Cs) (r c : Nat) : lay left (swp S) r c = swp (lay (!left) S c r) := by
  apply cs_ext
  intro x y
  show _ ↔ lay (!left) S c r y x = true
  rw [lay_iff, lay_iff]
  have e : nxr left r = nxc (!left) r ∧ nxc left c = nxr (!left) c := by cases left <;> exact ⟨rfl, rfl⟩
  rw [e.1, e.2]
  constructor <;> rintro ⟨a, b, d⟩ <;> exact ⟨a, fun k => b k.symm, fun k => d k.symm⟩
theorem swp_same : ∀ n {S : Cs}, cnt S ≤ n → Bd S → Same (gB (swp S)) (ng (gB S)) := by
  intro n
  induction n with
  | zero =>
    intro S hn hS
    have e : ∀ r c, S r c = false := fun r c => by
      cases h : S r c with
      | false => rfl
      | true => have := cnt_pos hS h; omega
    have hno : ∀ left r c, can left S r c = false := fun left r c => by simp [can, e]
    have hnoT : ∀ left r c, can left (swp S) r c = false := fun left r c => by rw [can_swp]; exact hno _ _ _
    rw [same_iff]
    refine ⟨fun x hx => ?_, fun y hy => ?_, fun x hx => ?_, fun y hy => ?_⟩
    · obtain ⟨r, c, h, _⟩ := (gB_l hS.swp).1 hx; rw [hnoT] at h; cases h
    · obtain ⟨z, hz, _⟩ := mem_ng_l.1 hy; obtain ⟨r, c, h, _⟩ := (gB_r hS).1 hz; rw [hno] at h; cases h
    · obtain ⟨r, c, h, _⟩ := (gB_r hS.swp).1 hx; rw [hnoT] at h; cases h
    · obtain ⟨z, hz, _⟩ := mem_ng_r.1 hy; obtain ⟨r, c, h, _⟩ := (gB_l hS).1 hz; rw [hno] at h; cases h
  | succ n ih =>
    intro S hn hS
    have step : ∀ left r c, can left S r c = true → Same (gB (lay (!left) (swp S) c r)) (ng (gB (lay left S r c))) := fun left r c h => by
      have := cnt_lay hS h
      rw [lay_swp, Bool.not_not]
      exact ih (by omega) (hS.lay r c)
    rw [same_iff]
    refine ⟨fun x hx => ?_, fun y hy => ?_, fun x hx => ?_, fun y hy => ?_⟩
    · obtain ⟨r, c, h, rfl⟩ := (gB_l hS.swp).1 hx
      rw [can_swp] at h
      exact ⟨_, mem_ng_l.2 ⟨_, (gB_r hS).2 ⟨c, r, h, rfl⟩, rfl⟩, step false c r h⟩
    · obtain ⟨z, hz, rfl⟩ := mem_ng_l.1 hy
      obtain ⟨r, c, h, rfl⟩ := (gB_r hS).1 hz
      exact ⟨_, (gB_l hS.swp).2 ⟨c, r, by rw [can_swp]; exact h, rfl⟩, step false r c h⟩
    · obtain ⟨r, c, h, rfl⟩ := (gB_r hS.swp).1 hx
      rw [can_swp] at h
      exact ⟨_, mem_ng_r.2 ⟨_, (gB_l hS).2 ⟨c, r, h, rfl⟩, rfl⟩, step true c r h⟩
    · obtain ⟨z, hz, rfl⟩ := mem_ng_r.1 hy
      obtain ⟨r, c, h, rfl⟩ := (gB_l hS).1 hz
      exact ⟨_, (gB_r hS.swp).2 ⟨c, r, by rw [can_swp]; exact h, rfl⟩, step true r c h⟩

def mir (w : Nat) (S : Cs) : Cs := fun r c => decide (c < w) && S r (w - 1 - c)
theorem mir_iff {w : Nat} {S : Cs} {r c : Nat} : mir w S r c = true ↔ c < w ∧ S r (w - 1 - c) = true := by simp [mir]
def Wd (w : Nat) (S : Cs) : Prop := ∀ r c, S r c = true → c < w
theorem Bd.mir {S : Cs} {w : Nat} (h : Bd S) (hw : w ≤ 8) : Bd (mir w S) := fun r c k => by
  obtain ⟨k1, k2⟩ := mir_iff.1 k
  exact ⟨(h _ _ k2).1, by omega⟩
theorem Wd.mir {S : Cs} {w : Nat} : Wd w (mir w S) := fun _ _ k => (mir_iff.1 k).1
theorem Wd.lay {S : Cs} {w : Nat} (h : Wd w S) {left : Bool} (r c : Nat) : Wd w (lay left S r c) := fun x y k => h x y (lay_iff.1 k).1
theorem mir_mir {S : Cs} {w : Nat} (h : Wd w S) : mir w (mir w S) = S := by
  apply cs_ext
  intro r c
  rw [mir_iff, mir_iff]
  constructor
  · rintro ⟨a, b, d⟩
    have e : w - 1 - (w - 1 - c) = c := by omega
    rw [e] at d; exact d
  · intro k
    have := h r c k
    have e : w - 1 - (w - 1 - c) = c := by omega
    exact ⟨this, by omega, by rw [e]; exact k⟩
theorem cnt_mir {S : Cs} {w : Nat} (h : Bd S) (hw : w ≤ 8) (k : Wd w S) : cnt (mir w S) = cnt S := by
  have key : ∀ {S : Cs}, Bd S → cnt (Cgt.mir w S) ≤ cnt S := fun {S} h => cnt_le (f := fun r c => (r, w - 1 - c)) _ (Nat.le_refl _) (h.mir hw) h (fun r c k => (mir_iff.1 k).2) (fun r c r' c' a b e => by
    simp only [Prod.mk.injEq] at e
    have := (mir_iff.1 a).1; have := (mir_iff.1 b).1
    exact ⟨e.1, by omega⟩)
  have h1 := key h
  have h2 := key (h.mir hw)
  rw [mir_mir k] at h2; omega

def mc (left : Bool) (w c : Nat) : Nat := if left then w - 1 - c else w - 2 - c
theorem can_mir {left : Bool} {S : Cs} {w : Nat} {r c : Nat} (h : can left (mir w S) r c = true) : can left S r (mc left w c) = true ∧ lay left (mir w S) r c = mir w (lay left S r (mc left w c)) := by
  obtain ⟨h1, h2⟩ := can_iff.1 h
  obtain ⟨a1, a2⟩ := mir_iff.1 h1
  obtain ⟨b1, b2⟩ := mir_iff.1 h2
  cases left with
  | true =>
    refine ⟨can_iff.2 ⟨a2, b2⟩, cs_ext fun x y => ?_⟩
    rw [lay_iff, mir_iff, mir_iff, lay_iff]
    simp only [nxr, nxc, mc, if_true] at *
    constructor
    · rintro ⟨⟨p, q⟩, s, t⟩; exact ⟨p, q, fun k => s ⟨k.1, by omega⟩, fun k => t ⟨k.1, by omega⟩⟩
    · rintro ⟨p, q, s, t⟩; exact ⟨⟨p, q⟩, fun k => s ⟨k.1, by omega⟩, fun k => t ⟨k.1, by omega⟩⟩
  | false =>
    simp only [nxr, nxc, mc, Bool.false_eq_true, if_false] at *
    have e1 : w - 1 - (c + 1) = w - 2 - c := by omega
    have e2 : w - 2 - c + 1 = w - 1 - c := by omega
    rw [e1] at b2
    refine ⟨can_iff.2 ⟨b2, by simp only [nxr, nxc, Bool.false_eq_true, if_false]; rw [e2]; exact a2⟩, cs_ext fun x y => ?_⟩
    rw [lay_iff, mir_iff, mir_iff, lay_iff]
    simp only [nxr, nxc, Bool.false_eq_true, if_false] at *
    constructor
    · rintro ⟨⟨p, q⟩, s, t⟩; exact ⟨p, q, fun k => t ⟨k.1, by omega⟩, fun k => s ⟨k.1, by omega⟩⟩
    · rintro ⟨p, q, s, t⟩; exact ⟨⟨p, q⟩, fun k => t ⟨k.1, by omega⟩, fun k => s ⟨k.1, by omega⟩⟩
theorem mir_same : ∀ n {S : Cs} {w : Nat}, cnt S ≤ n → Bd S → w ≤ 8 → Wd w S → Same (gB (mir w S)) (gB S) := by
  intro n
  induction n with
  | zero =>
    intro S w hn hS hw _
    have e : ∀ r c, S r c = false := fun r c => by
      cases h : S r c with
      | false => rfl
      | true => have := cnt_pos hS h; omega
    have hno : ∀ left r c, can left S r c = false := fun left r c => by simp [can, e]
    refine same_sets (hS.mir hw) hS (fun left r c h => ?_) (fun left r c h => by rw [hno] at h; cases h)
    have := (can_mir h).1; rw [hno] at this; cases this
  | succ n ih =>
    intro S w hn hS hw hd
    refine same_sets (hS.mir hw) hS (fun left r c h => ?_) (fun left r c h => ?_)
    · obtain ⟨h1, h2⟩ := can_mir h
      have := cnt_lay hS h1
      exact ⟨r, _, h1, by rw [h2]; exact ih (by omega) (hS.lay _ _) hw (hd.lay _ _)⟩
    · have hm : can left (mir w (mir w S)) r c = true := by rw [mir_mir hd]; exact h
      obtain ⟨h1, h2⟩ := can_mir hm
      rw [mir_mir hd] at h2
      refine ⟨r, _, h1, ?_⟩
      have h3 := (can_mir h1).2
      have := cnt_lay (hS.mir hw) h1
      have h4 := cnt_mir hS hw hd
      rw [h2]
      have hB := (hS.mir hw).lay (left := left) r (mc left w c)
      have hW : Wd w (lay left (mir w S) r (mc left w c)) := (Wd.mir (w := w) (S := S)).lay _ _
      exact same_symm (ih (by omega) hB hw hW)

end Go.Proofs.YteknjeohbcgpdaaGreatDoor.Cgt

namespace Go.Proofs.YteknjeohbcgpdaaGreatDoor.Cgt

theorem getD_at {α : Type} {l : List α} {i : Nat} (d : α) (h : i < l.length) : l.getD i d = l[i] := by rw [List.getD_eq_getElem?_getD, List.getElem?_eq_getElem h]; rfl
theorem getD_no {α : Type} {l : List α} {i : Nat} (d : α) (h : l.length ≤ i) : l.getD i d = d := by rw [List.getD_eq_getElem?_getD, List.getElem?_eq_none h]; rfl
theorem GB.out {b : Brd} {h w : Nat} (g : GB b h w) {r c : Nat} (k : h ≤ r ∨ w ≤ c) : at_ b r c = 0 := by
  unfold at_
  by_cases hr : r < b.length
  · rw [getD_at [] hr]
    have := (g.row _ (List.getElem_mem hr)).1
    have := g.hgt
    exact getD_no 0 (by omega)
  · rw [getD_no [] (by omega)]; rfl
theorem GB.rows {b : Brd} {h w : Nat} (g : GB b h w) {r : Nat} (hr : r < b.length) : (b[r]).length = w := (g.row _ (List.getElem_mem hr)).1
theorem fr_eq {b b' : Brd} {r c x y : Nat} (h : at_ b r c = at_ b' x y) : fr b r c = fr b' x y := by unfold fr; rw [h]
theorem GB.wd {b : Brd} {h w : Nat} (g : GB b h w) : Wd w (fr b) := fun _ _ k => (g.in_ k).2

def trn (b : Brd) (w : Nat) : Brd := (List.range w).map fun c => b.map fun r => r.getD c 0
theorem GB.trn {b : Brd} {h w : Nat} (g : GB b h w) : GB (trn b w) w h := by
  refine ⟨by simp [Cgt.trn], g.w1, g.h1, fun r hr => ?_⟩
  obtain ⟨c, hc, rfl⟩ := List.mem_map.1 hr
  have hc := List.mem_range.1 hc
  refine ⟨by rw [List.length_map]; exact g.hgt, fun x hx => ?_⟩
  obtain ⟨r, hr, rfl⟩ := List.mem_map.1 hx
  obtain ⟨h1, h2⟩ := g.row r hr
  have hl : c < r.length := by omega
  rw [getD_at 0 hl]; exact h2 _ (List.getElem_mem hl)
theorem at_trn {b : Brd} {h w : Nat} (g : GB b h w) (x y : Nat) : at_ (trn b w) x y = at_ b y x := by
  by_cases hx : x < w
  · by_cases hy : y < b.length
    · unfold at_ trn
      rw [getD_at [] (by simpa using hx), List.getElem_map, List.getElem_range, getD_at 0 (by simpa using hy), List.getElem_map, getD_at [] hy]
    · have := g.hgt
      rw [g.trn.out (.inr (by omega)), g.out (.inl (by omega))]
  · rw [g.trn.out (.inl (by omega)), g.out (.inr (by omega))]
theorem fr_trn {b : Brd} {h w : Nat} (g : GB b h w) : fr (trn b w) = swp (fr b) := by
  funext x y; exact fr_eq (at_trn g x y)
theorem at_ext {b b' : Brd} {h w : Nat} (g : GB b h w) (g' : GB b' h w) (e : ∀ r c, at_ b r c = at_ b' r c) : b = b' := by
  have h1 := g.hgt; have h2 := g'.hgt
  refine List.ext_getElem (by omega) fun r hr hr' => List.ext_getElem (by rw [g.rows hr, g'.rows hr']) fun c hc hc' => ?_
  have := e r c
  rw [at_row hr, at_row hr', getD_at 0 hc, getD_at 0 hc'] at this
  exact this
theorem trn_trn {b : Brd} {h w : Nat} (g : GB b h w) : trn (trn b w) h = b :=
  at_ext g.trn.trn g fun r c => by rw [at_trn g.trn, at_trn g]
theorem cnt_trn {b : Brd} {h w : Nat} (g : GB b h w) : cntB (trn b w) = cntB b := by
  rw [← cnt_fr g.trn, ← cnt_fr g, fr_trn g, cnt_swp g.bd]
theorem gB_trn {b : Brd} {h w : Nat} (g : GB b h w) : Same (gB (fr (trn b w))) (ng (gB (fr b))) := by
  rw [fr_trn g]; exact swp_same _ (Nat.le_refl _) g.bd

def mirB (b : Brd) : Brd := b.map List.reverse
theorem GB.mirB {b : Brd} {h w : Nat} (g : GB b h w) : GB (mirB b) h w := by
  refine ⟨by simp [Cgt.mirB, g.hgt], g.h1, g.w1, fun r hr => ?_⟩
  obtain ⟨x, hx, rfl⟩ := List.mem_map.1 hr
  obtain ⟨h1, h2⟩ := g.row x hx
  exact ⟨by rw [List.length_reverse]; exact h1, fun c hc => h2 c (List.mem_reverse.1 hc)⟩
theorem at_mirB {b : Brd} {h w : Nat} (g : GB b h w) (x y : Nat) (hy : y < w) : at_ (mirB b) x y = at_ b x (w - 1 - y) := by
  by_cases hx : x < b.length
  · have hx' : x < (mirB b).length := by simpa [mirB] using hx
    have hl := g.rows hx
    rw [at_row hx', at_row hx]
    have e : (mirB b)[x] = (b[x]).reverse := by simp [mirB]
    rw [e, getD_at 0 (by simp; omega), getD_at 0 (by omega), List.getElem_reverse]
    congr 1; omega
  · have := g.hgt
    rw [g.mirB.out (.inl (by omega)), g.out (.inl (by omega))]
theorem fr_mirB {b : Brd} {h w : Nat} (g : GB b h w) : fr (mirB b) = mir w (fr b) := by
  apply cs_ext
  intro x y
  rw [mir_iff]
  constructor
  · intro k
    have hy := (g.mirB.in_ k).2
    exact ⟨hy, by rw [← fr_eq (at_mirB g x y hy)]; exact k⟩
  · rintro ⟨hy, k⟩
    rw [fr_eq (at_mirB g x y hy)]; exact k
theorem cnt_mirB {b : Brd} {h w : Nat} (g : GB b h w) : cntB (mirB b) = cntB b := by
  rw [← cnt_fr g.mirB, ← cnt_fr g, fr_mirB g, cnt_mir g.bd g.w1.2 g.wd]
theorem gB_mirB {b : Brd} {h w : Nat} (g : GB b h w) : Same (gB (fr (mirB b))) (gB (fr b)) := by
  rw [fr_mirB g]; exact mir_same _ (Nat.le_refl _) g.bd g.w1.2 g.wd

def cutB (r0 n c0 m : Nat) (b : Brd) : Brd := ((b.drop r0).take n).map fun r => (r.drop c0).take m
theorem GB.cutB {b : Brd} {h w r0 n c0 m : Nat} (g : GB b h w) (hn : 1 ≤ n) (hr : r0 + n ≤ h) (hm : 1 ≤ m) (hc : c0 + m ≤ w) : GB (cutB r0 n c0 m b) n m := by
  have h8 := g.h1; have w8 := g.w1
  refine ⟨by simp [Cgt.cutB, g.hgt]; omega, ⟨hn, by omega⟩, ⟨hm, by omega⟩, fun r hr' => ?_⟩
  obtain ⟨x, hx, rfl⟩ := List.mem_map.1 hr'
  obtain ⟨h1, h2⟩ := g.row x (List.mem_of_mem_drop (List.mem_of_mem_take hx))
  exact ⟨by rw [List.length_take, List.length_drop]; omega, fun c hc => h2 c (List.mem_of_mem_drop (List.mem_of_mem_take hc))⟩
theorem at_cutB {b : Brd} {h w r0 n c0 m : Nat} (g : GB b h w) (hr : r0 + n ≤ h) (hc : c0 + m ≤ w) {x y : Nat} (hx : x < n) (hy : y < m) : at_ (cutB r0 n c0 m b) x y = at_ b (x + r0) (y + c0) := by
  have hh := g.hgt
  have h1 : x + r0 < b.length := by omega
  have h2 : x < (cutB r0 n c0 m b).length := by simp [cutB]; omega
  have hw := g.rows h1
  rw [at_row h2, at_row h1]
  have e : (cutB r0 n c0 m b)[x] = ((b[x + r0]).drop c0).take m := by
    simp only [cutB, List.getElem_map, List.getElem_take, List.getElem_drop]
    have : r0 + x = x + r0 := by omega
    simp only [this]
  rw [e, getD_at 0 (by rw [List.length_take, List.length_drop]; omega), getD_at 0 (by omega), List.getElem_take, List.getElem_drop]
  have : c0 + y = y + c0 := by omega
  simp only [this]
theorem fr_cutB {b : Brd} {h w r0 n c0 m : Nat} (g : GB b h w) (hn : 1 ≤ n) (hr : r0 + n ≤ h) (hm : 1 ≤ m) (hc : c0 + m ≤ w) (hf : ∀ r c, fr b r c = true → (r0 ≤ r ∧ r < r0 + n) ∧ (c0 ≤ c ∧ c < c0 + m)) (x y : Nat) : fr (cutB r0 n c0 m b) x y = fr b (x + r0) (y + c0) := by
  by_cases k : x < n ∧ y < m
  · exact fr_eq (at_cutB g hr hc k.1 k.2)
  · have e1 : fr (cutB r0 n c0 m b) x y = false := by
      cases q : fr (cutB r0 n c0 m b) x y with
      | false => rfl
      | true => exact absurd ((g.cutB hn hr hm hc).in_ q) k
    have e2 : fr b (x + r0) (y + c0) = false := by
      cases q : fr b (x + r0) (y + c0) with
      | false => rfl
      | true => obtain ⟨⟨_, a⟩, ⟨_, d⟩⟩ := hf _ _ q; exact absurd ⟨by omega, by omega⟩ k
    rw [e1, e2]
theorem gB_full {b b' : Brd} (n : ∀ r c, fr b r c = false) (n' : ∀ r c, fr b' r c = false) : Same (gB (fr b')) (gB (fr b)) := by
  have e : fr b' = fr b := by funext r c; rw [n, n']
  rw [e]; exact same_refl _
def brd1 : Brd := [[35]]
theorem brd1_gb : GB brd1 1 1 := ⟨rfl, ⟨by decide, by decide⟩, ⟨by decide, by decide⟩, fun r hr => by
  obtain rfl : r = [35] := by simpa [brd1] using hr
  exact ⟨rfl, fun c hc => .inr (by simpa using hc)⟩⟩
theorem brd1_fr (r c : Nat) : fr brd1 r c = false := by
  cases q : fr brd1 r c with
  | false => rfl
  | true =>
    have := brd1_gb.in_ q
    have e1 : r = 0 := by omega
    have e2 : c = 0 := by omega
    subst e1; subst e2; exact absurd q (by decide)

end Go.Proofs.YteknjeohbcgpdaaGreatDoor.Cgt
