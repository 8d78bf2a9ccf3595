/-
  Plain law: stage by stage, each stage in order, the nodes met from a root are laid out as the form of its game.
-/
import Derived.Test.YteknjeohbcgpdaaGreatDoorY5
set_option maxRecDepth 100000
namespace Go.Proofs.YteknjeohbcgpdaaGreatDoor
open Cgt

def Xn (D : Dag) (at_ : List Nat) (k : Nat) : Nd := (sortN ((opt D true k).map fun x => at_.getD x 0), sortN ((opt D false k).map fun x => at_.getD x 0))

structure FInv (D : Dag) (root : Nat) (F : Dag) (idx at_ : List Nat) (b : Nat) : Prop where
  len : idx.length = F.length
  atl : at_.length = root + 1
  nd : idx.Nodup
  mem : ∀ j, j ∈ idx ↔ Cgt.Reach D root j ∧ born (vl D j) < b
  place : ∀ i (h : i < idx.length), at_[idx[i]]? = some i
  node : ∀ i (h : i < idx.length), F[i]? = some (Xn D at_ idx[i])
  sorted : idx.Pairwise (fun j k => born (vl D j) < born (vl D k) ∨ born (vl D j) = born (vl D k) ∧ nc (Xn D at_ j) (Xn D at_ k) < 0)

theorem opt_born {D : Dag} (hD : WF D) {side : Bool} {i x : Nat} (h : x ∈ opt D side i) : born (vl D x) < born (vl D i) := by
  cases side
  · exact born_r (opt_r hD h)
  · exact born_l (opt_l hD h)
theorem reach_born {D : Dag} (hD : WF D) {i j : Nat} (h : Cgt.Reach D i j) : j = i ∨ born (vl D j) < born (vl D i) := by
  induction h with
  | here => exact .inl rfl
  | @left j k nd _ hd hk ih =>
    have := opt_born hD (show k ∈ opt D true j by simp [opt, hd]; exact hk)
    rcases ih with rfl | h
    · exact .inr this
    · exact .inr (by omega)
  | @right j k nd _ hd hk ih =>
    have := opt_born hD (show k ∈ opt D false j by simp [opt, hd]; exact hk)
    rcases ih with rfl | h
    · exact .inr this
    · exact .inr (by omega)

theorem FInv.pos {D : Dag} (hD : WF D) {root b : Nat} {F : Dag} {idx at_ : List Nat} (h : FInv D root F idx at_ b) {j x : Nat} {side : Bool} (hj : Cgt.Reach D root j) (hb : born (vl D j) ≤ b) (hx : x ∈ opt D side j) :
    ∃ p, ∃ hp : p < idx.length, idx[p] = x ∧ at_.getD x 0 = p := by
  have hx1 := opt_born hD hx
  obtain ⟨p, hp, e⟩ := List.mem_iff_getElem.1 ((h.mem x).2 ⟨reach_opt hj hx, by omega⟩)
  refine ⟨p, hp, e, ?_⟩
  have := h.place p hp
  rw [e] at this
  rw [List.getD_eq_getElem?_getD, this]; rfl

theorem xn_mem {D : Dag} {at_ : List Nat} {k : Nat} {y : Nat} : (y ∈ (Xn D at_ k).1 ↔ ∃ x, x ∈ opt D true k ∧ at_.getD x 0 = y) ∧ (y ∈ (Xn D at_ k).2 ↔ ∃ x, x ∈ opt D false k ∧ at_.getD x 0 = y) := by
  unfold Xn
  simp [sortN_mem]

theorem FInv.inj {D : Dag} (g : Cgt.Good D) {root b : Nat} {F : Dag} {idx at_ : List Nat} (h : FInv D root F idx at_ b) {j k : Nat} (hj : Cgt.Reach D root j) (hjb : born (vl D j) ≤ b) (hk : Cgt.Reach D root k) (hkb : born (vl D k) ≤ b) (hjD : j < D.length) (hkD : k < D.length)
    (e : Xn D at_ j = Xn D at_ k) : j = k := by
  have key : ∀ {j k : Nat}, Cgt.Reach D root j → born (vl D j) ≤ b → Cgt.Reach D root k → born (vl D k) ≤ b → Xn D at_ j = Xn D at_ k → ∀ side x, x ∈ opt D side j → x ∈ opt D side k := by
    intro j k hj hjb hk hkb e side x hx
    obtain ⟨p, hp, e1, e2⟩ := h.pos g.wf hj hjb hx
    have hm : ∃ z, z ∈ opt D side k ∧ at_.getD z 0 = p := by
      cases side
      · have : p ∈ (Xn D at_ j).2 := xn_mem.2.2 ⟨x, hx, e2⟩
        rw [e] at this; exact xn_mem.2.1 this
      · have : p ∈ (Xn D at_ j).1 := xn_mem.1.2 ⟨x, hx, e2⟩
        rw [e] at this; exact xn_mem.1.1 this
    obtain ⟨z, hz, ez⟩ := hm
    obtain ⟨q, hq, e3, e4⟩ := h.pos g.wf hk hkb hz
    have : q = p := by rw [← e4, ez]
    subst this
    rw [← e1, e3]; exact hz
  have s1 := key hj hjb hk hkb e
  have s2 := key hk hkb hj hjb e.symm
  refine same_idx g j k hjD hkD ?_
  have dj : D[j]? = some D[j] := List.getElem?_eq_getElem hjD
  have dk : D[k]? = some D[k] := List.getElem?_eq_getElem hkD
  rw [vl_mk g.wf dj, vl_mk g.wf dk]
  rw [← opt_true hjD, ← opt_true hkD, ← opt_false hjD, ← opt_false hkD]
  refine same_opts (fun y => ?_) (fun y => ?_)
  · simp only [List.mem_map]
    exact ⟨fun ⟨x, hx, e⟩ => ⟨x, s1 true x hx, e⟩, fun ⟨x, hx, e⟩ => ⟨x, s2 true x hx, e⟩⟩
  · simp only [List.mem_map]
    exact ⟨fun ⟨x, hx, e⟩ => ⟨x, s1 false x hx, e⟩, fun ⟨x, hx, e⟩ => ⟨x, s2 false x hx, e⟩⟩

structure LInv (D : Dag) (root : Nat) (at_ : List Nat) (b : Nat) (from_ : List Nat) (m : Nat) : Prop where
  mem : ∀ j, j ∈ from_ ↔ j < m ∧ Cgt.Reach D root j ∧ born (vl D j) = b
  sorted : from_.Pairwise (fun j k => nc (Xn D at_ j) (Xn D at_ k) < 0)

theorem LInv.start (D : Dag) (root : Nat) (at_ : List Nat) (b : Nat) : LInv D root at_ b [] 0 := ⟨by simp, List.Pairwise.nil⟩
theorem LInv.skip {D : Dag} {root b m : Nat} {at_ from_ : List Nat} (h : LInv D root at_ b from_ m) (hn : ¬ (Cgt.Reach D root m ∧ born (vl D m) = b)) : LInv D root at_ b from_ (m + 1) := by
  refine ⟨fun j => ?_, h.sorted⟩
  rw [h.mem]
  constructor
  · rintro ⟨a, c⟩; exact ⟨by omega, c⟩
  · rintro ⟨a, c⟩
    refine ⟨?_, c⟩
    rcases Nat.lt_or_ge j m with h1 | h1
    · exact h1
    · have : j = m := by omega
      subst this; exact absurd c hn
theorem LInv.nd {D : Dag} {root b m : Nat} {at_ from_ : List Nat} (h : LInv D root at_ b from_ m) : from_.Nodup := h.sorted.imp (fun {a c} h e => by subst e; rw [nc_refl] at h; omega)
theorem LInv.put {D : Dag} (g : Cgt.Good D) {root b m i : Nat} {F : Dag} {idx at_ from_ : List Nat} (hF : FInv D root F idx at_ b) (hr : root < D.length) (h : LInv D root at_ b from_ m) (hm : Cgt.Reach D root m) (hb : born (vl D m) = b)
    (hi : i ≤ from_.length) (h1 : ∀ j (hj : j < from_.length), j < i → nc (Xn D at_ from_[j]) (Xn D at_ m) < 0) (h2 : ∀ hl : i < from_.length, ¬ nc (Xn D at_ from_[i]) (Xn D at_ m) < 0) :
    LInv D root at_ b (from_.take i ++ m :: from_.drop i) (m + 1) := by
  have hlt : ∀ j, Cgt.Reach D root j → j < D.length := fun j hj => by have := reach_lt g.wf hj; omega
  refine ⟨fun j => ?_, ?_⟩
  · have e : j ∈ from_.take i ++ m :: from_.drop i ↔ j = m ∨ j ∈ from_ := by
      conv => rhs; rw [← List.take_append_drop i from_]
      simp only [List.mem_append, List.mem_cons]
      constructor <;> (intro h; rcases h with h | h | h <;> simp [h])
    rw [e, h.mem]
    constructor
    · rintro (rfl | ⟨a, c⟩)
      · exact ⟨by omega, hm, hb⟩
      · exact ⟨by omega, c⟩
    · rintro ⟨a, c⟩
      rcases Nat.lt_or_ge j m with h1 | h1
      · exact .inr ⟨h1, c⟩
      · exact .inl (by omega)
  · have hs := h.sorted
    have hA : ∀ x, x ∈ from_.take i → nc (Xn D at_ x) (Xn D at_ m) < 0 := fun x hx => by
      obtain ⟨j, hj, rfl⟩ := List.mem_iff_getElem.1 hx
      rw [List.length_take] at hj
      rw [List.getElem_take]
      exact h1 j (by omega) (by omega)
    have hB : ∀ x, x ∈ from_.drop i → nc (Xn D at_ m) (Xn D at_ x) < 0 := fun x hx => by
      obtain ⟨j, hj, rfl⟩ := List.mem_iff_getElem.1 hx
      rw [List.length_drop] at hj
      rw [List.getElem_drop]
      have hil : i < from_.length := by omega
      have h3 := h2 hil
      have hmem := (h.mem from_[i]).1 (List.getElem_mem hil)
      have hne : nc (Xn D at_ from_[i]) (Xn D at_ m) ≠ 0 := fun e0 => by
        have := hF.inj g hmem.2.1 (by omega) hm (by omega) (hlt _ hmem.2.1) (hlt _ hm) (nc_zero e0)
        omega
      have h4 : nc (Xn D at_ m) (Xn D at_ from_[i]) < 0 := by rw [nc_neg]; omega
      by_cases e : j = 0
      · subst e; exact h4
      · exact nc_trans h4 (List.pairwise_iff_getElem.1 hs i (i + j) hil (by omega) (by omega))
    rw [List.pairwise_append]
    refine ⟨hs.sublist (List.take_sublist _ _), ?_, fun a ha c hc => ?_⟩
    · rw [List.pairwise_cons]; exact ⟨hB, hs.sublist (List.drop_sublist _ _)⟩
    · rcases List.mem_cons.1 hc with rfl | hc
      · exact hA a ha
      · exact nc_trans (hA a ha) (hB c hc)

theorem xn_congr {D : Dag} {at1 at2 : List Nat} {k : Nat} (h : ∀ side x, x ∈ opt D side k → at1[x]? = at2[x]?) : Xn D at1 k = Xn D at2 k := by
  unfold Xn
  have e : ∀ side, (opt D side k).map (fun x => at1.getD x 0) = (opt D side k).map (fun x => at2.getD x 0) := fun side => List.map_congr_left fun x hx => by
    rw [List.getD_eq_getElem?_getD, List.getD_eq_getElem?_getD, h side x hx]
  rw [e true, e false]

theorem FInv.next {D : Dag} (g : Cgt.Good D) {root b : Nat} {F : Dag} {idx at_ at2 from_ : List Nat} (h : FInv D root F idx at_ b) (hL : LInv D root at_ b from_ (root + 1)) (hl : at2.length = root + 1)
    (p1 : ∀ j (hj : j < from_.length), at2[from_[j]]? = some (F.length + j)) (p2 : ∀ y, y ∉ from_ → at2[y]? = at_[y]?) : FInv D root (F ++ from_.map (Xn D at_)) (idx ++ from_) at2 (b + 1) := by
  have hx : ∀ j, born (vl D j) ≤ b → Xn D at2 j = Xn D at_ j := fun j hj => xn_congr fun side x hx => p2 x fun hm => by
    have h1 := ((hL.mem x).1 hm).2.2
    have h2 := opt_born g.wf hx
    omega
  have hi : ∀ j, j ∈ idx → born (vl D j) < b := fun j hj => ((h.mem j).1 hj).2
  have hf : ∀ j, j ∈ from_ → born (vl D j) = b := fun j hj => ((hL.mem j).1 hj).2.2
  have hd : ∀ j, j ∈ idx → j ∉ from_ := fun j h1 h2 => by have := hi j h1; have := hf j h2; omega
  refine ⟨by simp [h.len], hl, ?_, fun j => ?_, fun i hlt => ?_, fun i hlt => ?_, ?_⟩
  · rw [List.nodup_append]
    exact ⟨h.nd, hL.nd, fun a ha c hc e => by subst e; exact hd a ha hc⟩
  · rw [List.mem_append, h.mem, hL.mem]
    constructor
    · rintro (⟨a, c⟩ | ⟨a, c, d⟩)
      · exact ⟨a, by omega⟩
      · exact ⟨c, by omega⟩
    · rintro ⟨a, c⟩
      by_cases e : born (vl D j) < b
      · exact .inl ⟨a, e⟩
      · exact .inr ⟨by have := reach_lt g.wf a; omega, a, by omega⟩
  · by_cases c : i < idx.length
    · rw [List.getElem_append_left c, p2 _ (hd _ (List.getElem_mem c))]; exact h.place i c
    · rw [List.getElem_append_right (by omega)]
      rw [p1 _ (by simp at hlt; omega), ← h.len]
      congr 1; omega
  · by_cases c : i < idx.length
    · rw [List.getElem_append_left c, List.getElem?_append_left (by rw [← h.len]; exact c), hx _ (by have := hi _ (List.getElem_mem c); omega)]
      exact h.node i c
    · rw [List.getElem_append_right (by omega), List.getElem?_append_right (by rw [← h.len]; omega)]
      have hl2 : i - idx.length < from_.length := by simp at hlt; omega
      rw [hx _ (Nat.le_of_eq (hf _ (List.getElem_mem hl2)))]
      rw [← h.len]; simp [hl2]
  · rw [List.pairwise_append]
    refine ⟨?_, ?_, fun a ha c hc => ?_⟩
    · refine List.Pairwise.imp_of_mem ?_ h.sorted
      intro a c ha hc hac
      rw [hx a (by have := hi a ha; omega), hx c (by have := hi c hc; omega)]; exact hac
    · refine List.Pairwise.imp_of_mem ?_ hL.sorted
      intro a c ha hc hac
      rw [hx a (Nat.le_of_eq (hf a ha)), hx c (Nat.le_of_eq (hf c hc))]
      exact .inr ⟨by rw [hf a ha, hf c hc], hac⟩
    · exact .inl (by have := hi a ha; have := hf c hc; omega)

theorem FInv.start (D : Dag) (root : Nat) : FInv D root [] [] (List.replicate (root + 1) 0) 0 :=
  ⟨rfl, by simp, List.nodup_nil, by simp, by simp, by simp, List.Pairwise.nil⟩

theorem FInv.wf {D : Dag} (g : Cgt.Good D) {root b : Nat} {F : Dag} {idx at_ : List Nat} (h : FInv D root F idx at_ b) : WF F := by
  intro i nd hi
  have hlt : i < idx.length := by rw [h.len]; exact (List.getElem?_eq_some_iff.1 hi).1
  have hn := h.node i hlt
  rw [hi] at hn
  injection hn with hn
  have hm := (h.mem _).1 (List.getElem_mem hlt)
  have key : ∀ side x, x ∈ opt D side idx[i] → at_.getD x 0 < i := fun side x hx => by
    obtain ⟨p, hp, e1, e2⟩ := h.pos g.wf hm.1 (by omega) hx
    rw [e2]
    have hb := opt_born g.wf hx
    rcases Nat.lt_trichotomy p i with c | c | c
    · exact c
    · subst c; rw [e1] at hb; omega
    · have := List.pairwise_iff_getElem.1 h.sorted i p hlt hp c
      rw [e1] at this
      omega
  subst hn
  exact ⟨fun k hk => by obtain ⟨x, hx, rfl⟩ := xn_mem.1.1 hk; exact key true x hx, fun k hk => by obtain ⟨x, hx, rfl⟩ := xn_mem.2.1 hk; exact key false x hx⟩

theorem FInv.same {D : Dag} (g : Cgt.Good D) {root b : Nat} {F : Dag} {idx at_ : List Nat} (hr : root < D.length) (h : FInv D root F idx at_ b) : ∀ i (hi : i < idx.length), Same (vl F i) (vl D idx[i]) := by
  intro i
  induction i using Nat.strongRecOn with
  | _ i ih =>
    intro hi
    have hm := (h.mem _).1 (List.getElem_mem hi)
    have hD : idx[i] < D.length := by have := reach_lt g.wf hm.1; omega
    have dj : D[idx[i]]? = some D[idx[i]] := List.getElem?_eq_getElem hD
    have hw := h.wf g
    have hn := h.node i hi
    rw [same_iff, vl_l hw hn, vl_r hw hn, vl_l g.wf dj, vl_r g.wf dj, ← opt_true hD, ← opt_false hD]
    have key : ∀ side x, x ∈ opt D side idx[i] → at_.getD x 0 < i → Same (vl F (at_.getD x 0)) (vl D x) := fun side x hx hlt => by
      obtain ⟨p, hp, e1, e2⟩ := h.pos g.wf hm.1 (by omega) hx
      rw [e2] at hlt ⊢
      have := ih p hlt hp
      rw [e1] at this; exact this
    have lt1 : ∀ x, x ∈ opt D true idx[i] → at_.getD x 0 < i := fun x hx => (hw i _ hn).1 _ (xn_mem.1.2 ⟨x, hx, rfl⟩)
    have lt2 : ∀ x, x ∈ opt D false idx[i] → at_.getD x 0 < i := fun x hx => (hw i _ hn).2 _ (xn_mem.2.2 ⟨x, hx, rfl⟩)
    refine ⟨fun y hy => ?_, fun y hy => ?_, fun y hy => ?_, fun y hy => ?_⟩
    · obtain ⟨k, hk, rfl⟩ := List.mem_map.1 hy
      obtain ⟨x, hx, rfl⟩ := xn_mem.1.1 hk
      exact ⟨_, List.mem_map_of_mem hx, key true x hx (lt1 x hx)⟩
    · obtain ⟨x, hx, rfl⟩ := List.mem_map.1 hy
      exact ⟨_, List.mem_map_of_mem (xn_mem.1.2 ⟨x, hx, rfl⟩), key true x hx (lt1 x hx)⟩
    · obtain ⟨k, hk, rfl⟩ := List.mem_map.1 hy
      obtain ⟨x, hx, rfl⟩ := xn_mem.2.1 hk
      exact ⟨_, List.mem_map_of_mem hx, key false x hx (lt2 x hx)⟩
    · obtain ⟨x, hx, rfl⟩ := List.mem_map.1 hy
      exact ⟨_, List.mem_map_of_mem (xn_mem.2.2 ⟨x, hx, rfl⟩), key false x hx (lt2 x hx)⟩

theorem FInv.ahead {D : Dag} (g : Cgt.Good D) {root b : Nat} {F : Dag} {idx at_ : List Nat} (hr : root < D.length) (h : FInv D root F idx at_ b) : ∀ i j, i < j → j < F.length → Ahead F i j := by
  intro i j hij hj
  have hj' : j < idx.length := by rw [h.len]; exact hj
  have hi' : i < idx.length := by omega
  have hs := List.pairwise_iff_getElem.1 h.sorted i j hi' hj' hij
  have e1 := same_born (h.same g hr i hi')
  have e2 := same_born (h.same g hr j hj')
  have n1 : F.getD i ([], []) = Xn D at_ idx[i] := by rw [List.getD_eq_getElem?_getD, h.node i hi']; rfl
  have n2 : F.getD j ([], []) = Xn D at_ idx[j] := by rw [List.getD_eq_getElem?_getD, h.node j hj']; rfl
  unfold Ahead
  rw [e1, e2, n1, n2]; exact hs

theorem FInv.good {D : Dag} (g : Cgt.Good D) {root b : Nat} {F : Dag} {idx at_ : List Nat} (hr : root < D.length) (h : FInv D root F idx at_ b) : Cgt.Good F := by
  refine ⟨h.wf g, ?_, ?_⟩
  · intro nd hnd
    obtain ⟨i, hi0, e⟩ := List.mem_iff_getElem.1 hnd
    have hi : F[i]? = some nd := by rw [List.getElem?_eq_getElem hi0, e]
    have hlt : i < idx.length := by rw [h.len]; exact hi0
    have hn := h.node i hlt
    rw [hi] at hn
    injection hn with hn
    subst hn
    exact ⟨sortN_asc _, sortN_asc _⟩
  · rw [List.Nodup, List.pairwise_iff_getElem]
    intro i j hi hj hij e
    have ha := h.ahead g hr i j hij hj
    have hw := h.wf g
    have v : vl F i = vl F j := by
      rw [vl_mk hw (List.getElem?_eq_getElem hi), vl_mk hw (List.getElem?_eq_getElem hj), e]
    unfold Ahead at ha
    rw [v, getD_of hi, getD_of hj, e, nc_refl] at ha
    omega

theorem FInv.last {D : Dag} (g : Cgt.Good D) {root : Nat} {F : Dag} {idx at_ : List Nat} (hr : root < D.length) (h : FInv D root F idx at_ (born (vl D root) + 1)) : IsForm F ∧ Same (topOf F) (vl D root) := by
  have hm : root ∈ idx := (h.mem root).2 ⟨.here, by omega⟩
  obtain ⟨p, hp, e⟩ := List.mem_iff_getElem.1 hm
  have hpl : p = F.length - 1 := by
    rcases Nat.lt_or_ge p (F.length - 1) with c | c
    · have hq : F.length - 1 < idx.length := by rw [h.len]; omega
      have hs := List.pairwise_iff_getElem.1 h.sorted p (F.length - 1) hp hq c
      have hm2 := (h.mem _).1 (List.getElem_mem hq)
      rw [e] at hs
      rcases reach_born g.wf hm2.1 with e2 | lt
      · have := nodup_inj h.nd hp hq (by rw [e, e2]); omega
      · omega
    · have := h.len; omega
  have hlen := h.len
  have hF : 0 < F.length := by omega
  have hs := h.same g hr p hp
  rw [e, hpl] at hs
  refine ⟨⟨h.good g hr, List.ne_nil_of_length_pos hF, h.ahead g hr, fun i hi => ?_⟩, hs⟩
  have hi' : i < idx.length := by omega
  have hri := ((h.mem _).1 (List.getElem_mem hi')).1
  obtain ⟨c, hc, rc, sc⟩ := reach_same g (h.good g hr) (a := F.length - 1) (by omega) (same_symm hs) hri
  have : i = c := same_idx (h.good g hr) i c hi hc (same_trans (h.same g hr i hi') sc)
  rw [this]; exact rc

end Go.Proofs.YteknjeohbcgpdaaGreatDoor
