/-
  Plain law: options with the reversible ones bypassed and the dominated ones left out make the canonical form.
  Plain law: what l6Without leaves of options whose dominated places are told.
  Plain law: three puts, two bypassings and two thinnings make the canonical node.
-/
import Derived.Test.YtjkdanmpihildaaGreatDoorQ11
namespace Go.Proofs.YtjkdanmpihildaaGreatDoor
open Cgt

def Tops (D : Dag) (left : Bool) (B F : List Nat) : Prop := (∀ x, x ∈ F → x ∈ B ∧ ∀ z, z ∈ B → GeS D left z x → z = x) ∧ (∀ x, x ∈ B → ∃ z, z ∈ F ∧ GeS D left z x)

theorem opt_l {D : Dag} (hD : WF D) {i x : Nat} (h : x ∈ opt D true i) : vl D x ∈ (vl D i).l := by
  unfold opt at h
  cases e : D[i]? with
  | none => rw [e] at h; simp at h
  | some nd => rw [e] at h; rw [vl_l hD e]; exact List.mem_map.2 ⟨x, by simpa using h, rfl⟩
theorem opt_r {D : Dag} (hD : WF D) {i x : Nat} (h : x ∈ opt D false i) : vl D x ∈ (vl D i).r := by
  unfold opt at h
  cases e : D[i]? with
  | none => rw [e] at h; simp at h
  | some nd => rw [e] at h; rw [vl_r hD e]; exact List.mem_map.2 ⟨x, by simpa using h, rfl⟩
theorem l_opt {D : Dag} (hD : WF D) {i : Nat} {g : Gm} (h : g ∈ (vl D i).l) : ∃ x, x ∈ opt D true i ∧ g = vl D x := by
  cases e : D[i]? with
  | none => rw [vl_none e] at h; simp [Gm.l] at h
  | some nd =>
    rw [vl_l hD e] at h
    obtain ⟨x, hx, rfl⟩ := List.mem_map.1 h
    exact ⟨x, by simp [opt, e, hx], rfl⟩
theorem r_opt {D : Dag} (hD : WF D) {i : Nat} {g : Gm} (h : g ∈ (vl D i).r) : ∃ x, x ∈ opt D false i ∧ g = vl D x := by
  cases e : D[i]? with
  | none => rw [vl_none e] at h; simp [Gm.r] at h
  | some nd =>
    rw [vl_r hD e] at h
    obtain ⟨x, hx, rfl⟩ := List.mem_map.1 h
    exact ⟨x, by simp [opt, e, hx], rfl⟩
theorem line_canon {D : Dag} (hD : WF D) {root : Nat} {left : Bool} {l line B : List Nat} {i : Nat} (h : OpenInv D root left l line B i) (hc : ∀ x, x ∈ l → Canon (vl D x)) : ∀ x, x ∈ line → Canon (vl D x) := by
  refine h.clos (fun x => Canon (vl D x)) (fun i side x hi hx => ?_) hc
  cases side
  · exact hi.r (opt_r hD hx)
  · exact hi.l (opt_l hD hx)

theorem node_law {D : Dag} (hD : WF D) {root : Nat} {l r lineL BL lineR BR FL FR : List Nat} (hroot : D[root]? = some (l, r)) (cl : ∀ x, x ∈ l → Canon (vl D x)) (cr : ∀ x, x ∈ r → Canon (vl D x))
    (iL : OpenInv D root true l lineL BL lineL.length) (iR : OpenInv D root false r lineR BR lineR.length) (mL : Tops D true BL FL) (mR : Tops D false BR FR) :
    Eqv (.mk (FL.map (vl D)) (FR.map (vl D))) (vl D root) ∧ Canon (.mk (FL.map (vl D)) (FR.map (vl D))) := by
  have hl : (vl D root).l = l.map (vl D) := vl_l hD hroot
  have hr : (vl D root).r = r.map (vl D) := vl_r hD hroot
  have sR : ∀ x, x ∈ FR → ¬ Ge (vl D root) (vl D x) := by
    intro x hx
    rcases iR.sound x (iR.kept x (mR.1 x hx).1).1 with h | ⟨k, _, hk, h⟩
    · exact not_ge_r (by rw [hr]; exact List.mem_map.2 ⟨x, h, rfl⟩)
    · exact sound_r (by simpa [GeS] using hk) (opt_r hD h)
  have sL : ∀ x, x ∈ FL → ¬ Ge (vl D x) (vl D root) := by
    intro x hx
    rcases iL.sound x (iL.kept x (mL.1 x hx).1).1 with h | ⟨k, _, hk, h⟩
    · exact not_ge_l (by rw [hl]; exact List.mem_map.2 ⟨x, h, rfl⟩)
    · exact sound_l (by simpa [GeS] using hk) (opt_l hD h)
  have g1 : Ge (.mk (FL.map (vl D)) (FR.map (vl D))) (vl D root) := by
    refine reduce_ge (fun g => ∃ x, x ∈ lineL ∧ g = vl D x) ?_ ?_ ?_
    · intro g hg
      rw [hl] at hg
      obtain ⟨x, hx, rfl⟩ := List.mem_map.1 hg
      exact ⟨_, ⟨x, iL.sub x hx, rfl⟩, ge_refl _⟩
    · rintro _ ⟨x, hx, rfl⟩
      obtain ⟨j, hj, rfl⟩ := List.mem_iff_getElem.1 hx
      rcases iL.done j hj hj with h | ⟨y, hy, hg, hz⟩
      · obtain ⟨z, hz, hg⟩ := mL.2 _ h
        exact .inl ⟨vl D z, List.mem_map.2 ⟨z, hz, rfl⟩, by simpa [GeS] using hg⟩
      · refine .inr ⟨vl D y, opt_r hD (by simpa using hy), by simpa [GeS] using hg, fun g hg' => ?_⟩
        obtain ⟨z, hz', rfl⟩ := l_opt hD hg'
        exact ⟨z, hz z hz', rfl⟩
    · intro g hg
      obtain ⟨x, hx, rfl⟩ := List.mem_map.1 hg
      exact sR x hx
  have g2 : Ge (vl D root) (.mk (FL.map (vl D)) (FR.map (vl D))) := by
    refine reduce_le (fun g => ∃ x, x ∈ lineR ∧ g = vl D x) ?_ ?_ ?_
    · intro g hg
      rw [hr] at hg
      obtain ⟨x, hx, rfl⟩ := List.mem_map.1 hg
      exact ⟨_, ⟨x, iR.sub x hx, rfl⟩, ge_refl _⟩
    · rintro _ ⟨x, hx, rfl⟩
      obtain ⟨j, hj, rfl⟩ := List.mem_iff_getElem.1 hx
      rcases iR.done j hj hj with h | ⟨y, hy, hg, hz⟩
      · obtain ⟨z, hz, hg⟩ := mR.2 _ h
        exact .inl ⟨vl D z, List.mem_map.2 ⟨z, hz, rfl⟩, by simpa [GeS] using hg⟩
      · refine .inr ⟨vl D y, opt_l hD (by simpa using hy), by simpa [GeS] using hg, fun g hg' => ?_⟩
        obtain ⟨z, hz', rfl⟩ := r_opt hD hg'
        exact ⟨z, hz z hz', rfl⟩
    · intro g hg
      obtain ⟨x, hx, rfl⟩ := List.mem_map.1 hg
      exact sL x hx
  refine ⟨⟨g1, g2⟩, Canon.mk _ ⟨?_, ?_, ?_, ?_⟩ ?_ ?_⟩
  · intro x y hx hy h
    obtain ⟨a, ha, rfl⟩ := List.mem_map.1 hx
    obtain ⟨b, hb, rfl⟩ := List.mem_map.1 hy
    rw [(mL.1 b hb).2 a (mL.1 a ha).1 (by simpa [GeS] using h)]
    exact same_refl _
  · intro x y hx hy h
    obtain ⟨a, ha, rfl⟩ := List.mem_map.1 hx
    obtain ⟨b, hb, rfl⟩ := List.mem_map.1 hy
    rw [(mR.1 a ha).2 b (mR.1 b hb).1 (by simpa [GeS] using h)]
    exact same_refl _
  · intro x hx y hy h
    obtain ⟨a, ha, rfl⟩ := List.mem_map.1 hx
    obtain ⟨c, hc, rfl⟩ := r_opt hD hy
    have := (iL.kept a (mL.1 a ha).1).2 c (by simpa using hc)
    simp [GeS] at this
    exact this (ge_trans _ _ _ g2 h)
  · intro x hx y hy h
    obtain ⟨a, ha, rfl⟩ := List.mem_map.1 hx
    obtain ⟨c, hc, rfl⟩ := l_opt hD hy
    have := (iR.kept a (mR.1 a ha).1).2 c (by simpa using hc)
    simp [GeS] at this
    exact this (ge_trans _ _ _ h g1)
  · intro x hx
    obtain ⟨a, ha, rfl⟩ := List.mem_map.1 hx
    exact line_canon hD iL cl a (iL.kept a (mL.1 a ha).1).1
  · intro x hx
    obtain ⟨a, ha, rfl⟩ := List.mem_map.1 hx
    exact line_canon hD iR cr a (iR.kept a (mR.1 a ha).1).1

end Go.Proofs.YtjkdanmpihildaaGreatDoor

namespace Go.Proofs.YtjkdanmpihildaaGreatDoor
open Cgt

def woN (l : List Nat) (z : List Int) : List Nat := ((List.range l.length).filter fun (i : Nat) => !hasZ z (i : Int)).map fun i => l.getD i 0
theorem woN_toZ (l : List Nat) (z : List Int) : withoutZ (toZ l) z = toZ (woN l z) := by
  unfold withoutZ woK woN
  rw [toZ_len]
  conv => rhs; rw [toZ, List.map_map]
  refine List.map_congr_left fun i hi => ?_
  have h := List.mem_range.1 (List.mem_filter.1 hi).1
  simp [toZ_zat h, h]
theorem woN_mem {l : List Nat} {z : List Int} {x : Nat} : x ∈ woN l z ↔ ∃ i, ∃ h : i < l.length, x = l[i] ∧ (i : Int) ∉ z := by
  unfold woN
  rw [List.mem_map]
  constructor
  · rintro ⟨i, hi, rfl⟩
    obtain ⟨h1, h2⟩ := List.mem_filter.1 hi
    have h := List.mem_range.1 h1
    exact ⟨i, h, by simp [h], by simpa [hasZ] using h2⟩
  · rintro ⟨i, h, rfl, hn⟩
    exact ⟨i, List.mem_filter.2 ⟨List.mem_range.2 h, by simpa [hasZ] using hn⟩, by simp [h]⟩

theorem nodup_inj {l : List Nat} (hn : l.Nodup) {i j : Nat} (hi : i < l.length) (hj : j < l.length) (e : l[i] = l[j]) : i = j := by
  have h := List.pairwise_iff_getElem.1 hn
  rcases Nat.lt_trichotomy i j with c | c | c
  · exact absurd e (h i j hi hj c)
  · exact c
  · exact absurd e.symm (h j i hj hi c)
theorem geS_refl (D : Dag) (left : Bool) (a : Nat) : GeS D left a a := by cases left <;> simp [GeS, ge_refl]
theorem geS_trans {D : Dag} {left : Bool} {a b c : Nat} (h : GeS D left a b) (k : GeS D left b c) : GeS D left a c := by
  cases left <;> simp [GeS] at h k ⊢
  · exact ge_trans _ _ _ k h
  · exact ge_trans _ _ _ h k

theorem tops_of {D : Dag} (hG : Cgt.Good D) {left : Bool} {l : List Nat} {z : List Int} (hn : l.Nodup) (hl : ∀ x, x ∈ l → x < D.length) (hc : ∀ x, x ∈ l → Canon (vl D x)) (hz : DomInv D left l z l.length 0) : Tops D left l (woN l z) := by
  have anti : ∀ a b, a ∈ l → b ∈ l → GeS D left a b → GeS D left b a → a = b := by
    intro a b ha hb h k
    have e : Eqv (vl D a) (vl D b) := by
      cases left <;> simp [GeS] at h k
      · exact ⟨k, h⟩
      · exact ⟨h, k⟩
    exact same_idx hG a b (hl a ha) (hl b hb) (canon_unique (hc a ha) (hc b hb) e)
  have dom : ∀ i, i < l.length → ((i : Int) ∈ z ↔ Dom D left l i) := by
    intro i hi
    rw [hz.mem]
    constructor
    · rintro (⟨_, h⟩ | ⟨rfl, _⟩)
      · exact h
      · omega
    · intro h; exact .inl ⟨hi, h⟩
  constructor
  · intro x hx
    obtain ⟨i, hi, rfl, hz'⟩ := woN_mem.1 hx
    refine ⟨List.getElem_mem hi, fun y hy hg => ?_⟩
    obtain ⟨k, hk, rfl⟩ := List.mem_iff_getElem.1 hy
    by_cases e : k = i
    · subst e; rfl
    · rw [dom i hi] at hz'
      by_cases g2 : GeS D left l[i] l[k]
      · exact anti _ _ (List.getElem_mem hk) (List.getElem_mem hi) hg g2
      · exact absurd ⟨k, hk, e, by simpa [hk, hi] using hg, .inl (by simpa [hk, hi] using g2)⟩ hz'
  · intro x hx
    obtain ⟨b, hb, hbx, hm⟩ := stays (GeS D left) (geS_refl D left) (fun _ _ _ => geS_trans) l anti x hx
    refine ⟨b, ?_, hbx⟩
    obtain ⟨i, hi, rfl⟩ := List.mem_iff_getElem.1 hb
    refine woN_mem.2 ⟨i, hi, rfl, fun hz' => ?_⟩
    obtain ⟨k, hk, hne, hg, _⟩ := (dom i hi).1 hz'
    simp only [List.getD, List.getElem?_eq_getElem hk, List.getElem?_eq_getElem hi, Option.getD_some] at hg
    have e := hm _ (List.getElem_mem hk) hg
    exact hne (nodup_inj hn hk hi e)

end Go.Proofs.YtjkdanmpihildaaGreatDoor

namespace Go.Proofs.YtjkdanmpihildaaGreatDoor
open Cgt

theorem PutRel.ext {D D' : Dag} {l r : List Nat} {i : Nat} (h : PutRel D l r D' i) : ∃ E, D' = D ++ E ∧ E.length ≤ 1 := by
  rcases h.2 with h | h
  · exact ⟨[], by simp [h], by simp⟩
  · exact ⟨_, h, by simp⟩
theorem PutRel.lt {D D' : Dag} {l r : List Nat} {i : Nat} (h : PutRel D l r D' i) : i < D'.length := (List.getElem?_eq_some_iff.1 h.1).1
theorem PutRel.node {D D' : Dag} {l r : List Nat} {i : Nat} (h : PutRel D l r D' i) : D'[i]'h.lt = (sortN l, sortN r) := by have k := h.1; rw [List.getElem?_eq_getElem h.lt] at k; injection k
theorem PutRel.len {D D' : Dag} {l r : List Nat} {i : Nat} (h : PutRel D l r D' i) : D.length ≤ D'.length ∧ D'.length ≤ D.length + 1 := by
  obtain ⟨E, rfl, h⟩ := h.ext; simp; omega
theorem PutRel.vl {D D' : Dag} {l r : List Nat} {i : Nat} (h : PutRel D l r D' i) (hD : WF D) (hD' : WF D') {x : Nat} (hx : x < D.length) : Cgt.vl D' x = Cgt.vl D x := by
  obtain ⟨E, rfl, _⟩ := h.ext; exact vl_append hD hD' x hx

theorem same_opts {a b c d : List Gm} (h1 : ∀ x, x ∈ a ↔ x ∈ c) (h2 : ∀ x, x ∈ b ↔ x ∈ d) : Same (.mk a b) (.mk c d) := by
  rw [same_iff]
  exact ⟨fun x hx => ⟨x, (h1 x).1 hx, same_refl x⟩, fun x hx => ⟨x, (h1 x).2 hx, same_refl x⟩, fun x hx => ⟨x, (h2 x).1 hx, same_refl x⟩, fun x hx => ⟨x, (h2 x).2 hx, same_refl x⟩⟩

theorem asc_nodup {l : List Nat} (h : Asc l) : l.Nodup := h.imp (fun h => Nat.ne_of_lt h)

theorem tops_sort {D : Dag} {left : Bool} {B F : List Nat} (h : Tops D left (sortN B) F) : Tops D left B (sortN F) :=
  ⟨fun x hx => by obtain ⟨a, b⟩ := h.1 x (sortN_mem.1 hx); exact ⟨sortN_mem.1 a, fun z hz => b z (sortN_mem.2 hz)⟩,
   fun x hx => by obtain ⟨z, hz, hg⟩ := h.2 x (sortN_mem.2 hx); exact ⟨z, sortN_mem.2 hz, hg⟩⟩
theorem tops_shift {D D' : Dag} {left : Bool} {B F : List Nat} (hv : ∀ x, x < D.length → vl D' x = vl D x) (hB : ∀ x, x ∈ B → x < D.length) (h : Tops D' left B F) : Tops D left B F := by
  have e : ∀ x y, x ∈ B → y ∈ B → (GeS D' left x y ↔ GeS D left x y) := fun x y hx hy => by unfold GeS; rw [hv x (hB x hx), hv y (hB y hy)]
  refine ⟨fun x hx => ?_, fun x hx => ?_⟩
  · obtain ⟨a, b⟩ := h.1 x hx
    exact ⟨a, fun z hz hg => b z hz ((e z x hz a).2 hg)⟩
  · obtain ⟨z, hz, hg⟩ := h.2 x hx
    exact ⟨z, hz, (e z x (h.1 z hz).1 hx).1 hg⟩

def Within (D : Dag) (l r : List Nat) (D' : Dag) (i : Nat) : Prop := ∀ P : Nat → Prop, (∀ j side x, P j → x ∈ opt D side j → P x) → (∀ x, x ∈ l → P x) → (∀ x, x ∈ r → P x) → ∀ side x, x ∈ opt D' side i → P x

theorem opt_old {D E : Dag} {side : Bool} {i : Nat} (h : i < D.length) : opt (D ++ E) side i = opt D side i := by simp [opt, List.getElem?_append_left h]

theorem node_done {D D1 D2 D3 : Dag} {l r lineL BL lineR BR : List Nat} {zL zR : List Int} {i1 i2 i3 : Nat} (g : Cgt.Good D) (g1 : Cgt.Good D1) (g2 : Cgt.Good D2) (g3 : Cgt.Good D3)
    (p1 : PutRel D l r D1 i1) (p2 : PutRel D1 (sortN BL) (sortN BR) D2 i2) (p3 : PutRel D2 (woN (sortN BL) zL) (woN (sortN BR) zR) D3 i3)
    (hl : ∀ x, x ∈ l → x < D.length) (hr : ∀ x, x ∈ r → x < D.length) (cl : ∀ x, x ∈ l → Canon (vl D x)) (cr : ∀ x, x ∈ r → Canon (vl D x))
    (iL : OpenInv D1 i1 true (sortN l) lineL BL lineL.length) (iR : OpenInv D1 i1 false (sortN r) lineR BR lineR.length)
    (dL : DomInv D2 true (sortN BL) zL (sortN BL).length 0) (dR : DomInv D2 false (sortN BR) zR (sortN BR).length 0) :
    (∃ E, D3 = D ++ E ∧ E.length ≤ 3) ∧ i3 < D3.length ∧ Canon (vl D3 i3) ∧ Eqv (vl D3 i3) (.mk (l.map (vl D)) (r.map (vl D))) ∧ Within D l r D3 i3 := by
  have e1 : ∀ x, x < D.length → vl D1 x = vl D x := fun x hx => p1.vl g.wf g1.wf hx
  have e2 : ∀ x, x < D1.length → vl D2 x = vl D1 x := fun x hx => p2.vl g1.wf g2.wf hx
  have e3 : ∀ x, x < D2.length → vl D3 x = vl D2 x := fun x hx => p3.vl g2.wf g3.wf hx
  have n1 := p1.len
  have n2 := p2.len
  have cl1 : ∀ x, x ∈ sortN l → Canon (vl D1 x) := fun x hx => by have hx := sortN_mem.1 hx; rw [e1 x (hl x hx)]; exact cl x hx
  have cr1 : ∀ x, x ∈ sortN r → Canon (vl D1 x) := fun x hx => by have hx := sortN_mem.1 hx; rw [e1 x (hr x hx)]; exact cr x hx
  have bL : ∀ x, x ∈ BL → x < D1.length ∧ Canon (vl D1 x) := fun x hx => ⟨iL.lt x (iL.kept x hx).1, line_canon g1.wf iL cl1 x (iL.kept x hx).1⟩
  have bR : ∀ x, x ∈ BR → x < D1.length ∧ Canon (vl D1 x) := fun x hx => ⟨iR.lt x (iR.kept x hx).1, line_canon g1.wf iR cr1 x (iR.kept x hx).1⟩
  have mL : Tops D1 true BL (sortN (woN (sortN BL) zL)) := by
    refine tops_shift e2 (fun x hx => (bL x hx).1) (tops_sort (tops_of g2 (asc_nodup (sortN_asc _)) ?_ ?_ dL))
    · intro x hx; have := (bL x (sortN_mem.1 hx)).1; omega
    · intro x hx; have h := bL x (sortN_mem.1 hx); rw [e2 x h.1]; exact h.2
  have mR : Tops D1 false BR (sortN (woN (sortN BR) zR)) := by
    refine tops_shift e2 (fun x hx => (bR x hx).1) (tops_sort (tops_of g2 (asc_nodup (sortN_asc _)) ?_ ?_ dR))
    · intro x hx; have := (bR x (sortN_mem.1 hx)).1; omega
    · intro x hx; have h := bR x (sortN_mem.1 hx); rw [e2 x h.1]; exact h.2
  obtain ⟨hE, hC⟩ := node_law g1.wf p1.1 cl1 cr1 iL iR mL mR
  have v3 : vl D3 i3 = .mk ((sortN (woN (sortN BL) zL)).map (vl D1)) ((sortN (woN (sortN BR) zR)).map (vl D1)) := by
    rw [vl_mk g3.wf p3.1]
    congr 1
    · refine List.map_congr_left fun x hx => ?_
      have h := (bL x (mL.1 x hx).1).1
      rw [e3 x (by omega), e2 x h]
    · refine List.map_congr_left fun x hx => ?_
      have h := (bR x (mR.1 x hx).1).1
      rw [e3 x (by omega), e2 x h]
  have v1 : Eqv (vl D1 i1) (.mk (l.map (vl D)) (r.map (vl D))) := by
    rw [vl_mk g1.wf p1.1]
    refine (same_opts (fun y => ?_) (fun y => ?_)).eqv
    · simp only [List.mem_map, sortN_mem]
      exact ⟨fun ⟨x, hx, e⟩ => ⟨x, hx, by rw [← e, e1 x (hl x hx)]⟩, fun ⟨x, hx, e⟩ => ⟨x, hx, by rw [← e, e1 x (hl x hx)]⟩⟩
    · simp only [List.mem_map, sortN_mem]
      exact ⟨fun ⟨x, hx, e⟩ => ⟨x, hx, by rw [← e, e1 x (hr x hx)]⟩, fun ⟨x, hx, e⟩ => ⟨x, hx, by rw [← e, e1 x (hr x hx)]⟩⟩
  refine ⟨?_, p3.lt, by rw [v3]; exact hC, by rw [v3]; exact hE.trans v1, fun P hP pl pr side x hx => ?_⟩
  rotate_left
  · have hP1 : ∀ i side x, (P i ∧ i < D.length) → x ∈ opt D1 side i → P x ∧ x < D.length := fun i side x hi hx => by
      obtain ⟨E, rfl, _⟩ := p1.ext
      rw [opt_old hi.2] at hx
      exact ⟨hP i side x hi.1 hx, by have := opt_lt g.wf hx; omega⟩
    have e : D3[i3]? = some (sortN (woN (sortN BL) zL), sortN (woN (sortN BR) zR)) := p3.1
    unfold opt at hx
    rw [e] at hx
    cases side
    · have hx : x ∈ sortN (woN (sortN BR) zR) := by simpa using hx
      exact (iR.clos (fun x => P x ∧ x < D.length) hP1 (fun x hx => ⟨pr x (sortN_mem.1 hx), hr x (sortN_mem.1 hx)⟩) x (iR.kept x (mR.1 x hx).1).1).1
    · have hx : x ∈ sortN (woN (sortN BL) zL) := by simpa using hx
      exact (iL.clos (fun x => P x ∧ x < D.length) hP1 (fun x hx => ⟨pl x (sortN_mem.1 hx), hl x (sortN_mem.1 hx)⟩) x (iL.kept x (mL.1 x hx).1).1).1
  obtain ⟨E1, rfl, h1⟩ := p1.ext
  obtain ⟨E2, rfl, h2⟩ := p2.ext
  obtain ⟨E3, rfl, h3⟩ := p3.ext
  exact ⟨E1 ++ (E2 ++ E3), by simp, by simp; omega⟩

end Go.Proofs.YtjkdanmpihildaaGreatDoor
