/-
  Memory of the program's order: the list, the ranks, the nodes, the group. (2 texts.)
-/
import Derived.Test.YteknjeohbcgpdaaGreatDoorY40
set_option maxRecDepth 100000
namespace Go.Proofs.YteknjeohbcgpdaaGreatDoor
section
open Cgt

structure StInv (D : Dag) (root : Nat) (F : Dag) (idx at_ : List Nat) (b : Nat) (rest : List Nat) : Prop where
  form : FInv D root F idx at_ b
  nd : (idx ++ rest).Nodup
  mem : ∀ j, j ∈ idx ++ rest ↔ Cgt.Reach D root j
  sorted : rest.Pairwise (fun x y => born (vl D x) ≤ born (vl D y))
  low : ∀ j, j ∈ rest → b ≤ born (vl D j)

theorem FInv.rebase {D : Dag} {root : Nat} {F : Dag} {idx at_ : List Nat} {b b' : Nat} (h : FInv D root F idx at_ b) (hb : ∀ j, Cgt.Reach D root j → (born (vl D j) < b ↔ born (vl D j) < b')) : FInv D root F idx at_ b' :=
  ⟨h.len, h.atl, h.nd, fun j => by rw [h.mem]; exact ⟨fun ⟨a, c⟩ => ⟨a, (hb j a).1 c⟩, fun ⟨a, c⟩ => ⟨a, (hb j a).2 c⟩⟩, h.place, h.node, h.sorted⟩

theorem StInv.start {D : Dag} {root : Nat} {L : List Nat} (hn : L.Nodup) (hm : ∀ j, j ∈ L ↔ Cgt.Reach D root j) (hs : L.Pairwise (fun x y => born (vl D x) ≤ born (vl D y))) : StInv D root [] [] (List.replicate (root + 1) 0) 0 L :=
  ⟨FInv.start D root, by simpa using hn, by simpa using hm, hs, fun _ _ => Nat.zero_le _⟩

theorem StInv.stage {D : Dag} {root : Nat} {F : Dag} {idx at_ : List Nat} {b : Nat} {rest : List Nat} (h : StInv D root F idx at_ b rest) (h0 : 0 < rest.length) : StInv D root F idx at_ (born (vl D rest[0])) rest := by
  have hge : ∀ j, j ∈ rest → born (vl D rest[0]) ≤ born (vl D j) := fun j hj => by
    obtain ⟨i, hi, rfl⟩ := List.mem_iff_getElem.1 hj
    by_cases e : i = 0
    · subst e; exact Nat.le_refl _
    · exact List.pairwise_iff_getElem.1 h.sorted 0 i h0 hi (by omega)
  refine ⟨h.form.rebase fun j hj => ?_, h.nd, h.mem, h.sorted, hge⟩
  have h1 := h.low _ (List.getElem_mem h0)
  rcases List.mem_append.1 ((h.mem j).2 hj) with hm | hm
  · have := ((h.form.mem j).1 hm).2; omega
  · have := hge j hm; have := h.low j hm; omega

theorem StInv.reach {D : Dag} {root : Nat} {F : Dag} {idx at_ : List Nat} {b : Nat} {rest : List Nat} (h : StInv D root F idx at_ b rest) {j : Nat} (hj : j ∈ rest) : Cgt.Reach D root j := (h.mem j).1 (List.mem_append.2 (.inr hj))

theorem StInv.opts {D : Dag} (g : Cgt.Good D) {root : Nat} {F : Dag} {idx at_ : List Nat} {b : Nat} {rest : List Nat} (h : StInv D root F idx at_ b rest) {j : Nat} (hj : j ∈ rest) (hb : born (vl D j) = b) (side : Bool) :
    (∀ x, x ∈ opt D side j → x ∈ idx) ∧ ((opt D side j).map fun x => at_.getD x 0).Nodup ∧ (opt D side j).Nodup := by
  have hr := h.reach hj
  have hp := fun x hx => h.form.pos g.wf (side := side) (x := x) hr (Nat.le_of_eq hb) hx
  have hn : (opt D side j).Nodup := by
    unfold opt
    cases e : D[j]? with
    | none => exact List.nodup_nil
    | some nd =>
      have ha := g.asc _ (List.mem_of_getElem? e)
      cases side
      · exact asc_nodup ha.2
      · exact asc_nodup ha.1
  refine ⟨fun x hx => ?_, ?_, hn⟩
  · obtain ⟨p, hp, e, _⟩ := hp x hx
    rw [← e]; exact List.getElem_mem hp
  · rw [List.Nodup, List.pairwise_map]
    refine List.Pairwise.imp_of_mem (fun {a c} ha hc hne e => ?_) hn
    obtain ⟨p, hp1, e1, e2⟩ := hp a ha
    obtain ⟨q, hq1, e3, e4⟩ := hp c hc
    rw [e2, e4] at e
    subst e
    exact hne (by rw [← e1, ← e3])
theorem atl_bound {D : Dag} {root : Nat} {F : Dag} {idx at_ : List Nat} {b : Nat} (h : FInv D root F idx at_ b) {x : Nat} (hx : x ∈ idx) : at_.getD x 0 < idx.length := by
  obtain ⟨p, hp, rfl⟩ := List.mem_iff_getElem.1 hx
  have := h.place p hp
  rw [List.getD_eq_getElem?_getD, this]; exact hp

def atNext (at_ : List Nat) (from_ : List Nat) (n root : Nat) : List Nat := (List.range (root + 1)).map fun y => if y ∈ from_ then n + from_.idxOf y else at_.getD y 0
theorem atNext_len (at_ from_ : List Nat) (n root : Nat) : (atNext at_ from_ n root).length = root + 1 := by simp [atNext]
theorem atNext_in {at_ from_ : List Nat} {n root : Nat} (hn : from_.Nodup) (hl : ∀ y, y ∈ from_ → y < root + 1) (j : Nat) (hj : j < from_.length) : (atNext at_ from_ n root)[from_[j]]? = some (n + j) := by
  have h1 := hl _ (List.getElem_mem hj)
  unfold atNext
  rw [List.getElem?_map, List.getElem?_range h1]
  simp only [Option.map_some, List.getElem_mem hj, if_true]
  rw [hn.idxOf_getElem j hj]
theorem atNext_out {at_ from_ : List Nat} {n root : Nat} (ha : at_.length = root + 1) (y : Nat) (hy : y ∉ from_) : (atNext at_ from_ n root)[y]? = at_[y]? := by
  unfold atNext
  rw [List.getElem?_map]
  by_cases c : y < root + 1
  · rw [List.getElem?_range c]
    simp only [Option.map_some, hy, if_false]
    rw [List.getElem?_eq_getElem (by omega)]
    simp [List.getD, show y < at_.length by omega]
  · rw [List.getElem?_eq_none (by simp; omega), List.getElem?_eq_none (by omega)]; rfl

theorem StInv.next {D : Dag} (g : Cgt.Good D) {root : Nat} (hroot : root < D.length) {F : Dag} {idx at_ : List Nat} {b : Nat} {rest from_ : List Nat} {q : Nat} (h : StInv D root F idx at_ b rest) (hq : q ≤ rest.length) (hb : ∀ j (hj : j < rest.length), j < q → born (vl D rest[j]) = b) (hq' : ∀ hl : q < rest.length, born (vl D rest[q]) ≠ b)
    (hp : from_.Perm (rest.take q)) (hs : from_.Pairwise (fun x y => ¬ nc (Xn D at_ y) (Xn D at_ x) < 0)) : StInv D root (F ++ from_.map (Xn D at_)) (idx ++ from_) (atNext at_ from_ F.length root) (b + 1) (rest.drop q) ∧ from_.Nodup ∧ (∀ y, y ∈ from_ → y < root + 1) ∧ (∀ y, y ∈ from_ → y ∉ idx) := by
  have hrd : rest = rest.take q ++ rest.drop q := (List.take_append_drop q rest).symm
  have hnr : rest.Nodup := (List.nodup_append.1 h.nd).2.1
  have hdis : ∀ a, a ∈ idx → ∀ c, c ∈ rest → a ≠ c := (List.nodup_append.1 h.nd).2.2
  have hfr : ∀ y, y ∈ from_ → y ∈ rest := fun y hy => List.mem_of_mem_take (hp.mem_iff.1 hy)
  have hfb : ∀ y, y ∈ from_ → born (vl D y) = b := fun y hy => by
    obtain ⟨j, hj, rfl⟩ := List.mem_iff_getElem.1 (hp.mem_iff.1 hy)
    rw [List.length_take] at hj
    rw [List.getElem_take]
    exact hb j (by omega) (by omega)
  have hdb : ∀ y, y ∈ rest.drop q → b < born (vl D y) := fun y hy => by
    obtain ⟨j, hj, rfl⟩ := List.mem_iff_getElem.1 hy
    rw [List.length_drop] at hj
    rw [List.getElem_drop]
    have hql : q < rest.length := by omega
    have h1 := h.low _ (List.getElem_mem hql)
    have h2 := hq' hql
    by_cases e : j = 0
    · subst e; simp only [Nat.add_zero]; omega
    · have := List.pairwise_iff_getElem.1 h.sorted q (q + j) hql (by omega) (by omega); omega
  have hfn : from_.Nodup := hp.symm.nodup (hnr.sublist (List.take_sublist _ _))
  have hrt : ∀ y, y ∈ from_ → y < root + 1 := fun y hy => by have := reach_lt g.wf (h.reach (hfr y hy)); omega
  have hlD : ∀ y, y ∈ from_ → y < D.length := fun y hy => by have := hrt y hy; omega
  have hL : LInv D root at_ b from_ (root + 1) := by
    refine ⟨fun j => ⟨fun hj => ⟨hrt j hj, h.reach (hfr j hj), hfb j hj⟩, fun ⟨_, hr, hjb⟩ => ?_⟩, ?_⟩
    · rcases List.mem_append.1 ((h.mem j).2 hr) with hm | hm
      · have := ((h.form.mem j).1 hm).2; omega
      · rw [hrd] at hm
        rcases List.mem_append.1 hm with hm | hm
        · exact hp.mem_iff.2 hm
        · have := hdb j hm; omega
    · refine List.Pairwise.imp_of_mem (fun {x y} hx hy hxy => ?_) (hs.and hfn)
      obtain ⟨h1, h2⟩ := hxy
      have h3 : ¬ nc (Xn D at_ x) (Xn D at_ y) = 0 := fun e => h2 (h.form.inj g (h.reach (hfr x hx)) (Nat.le_of_eq (hfb x hx)) (h.reach (hfr y hy)) (Nat.le_of_eq (hfb y hy)) (hlD x hx) (hlD y hy) (nc_zero e))
      have h4 := nc_neg (Xn D at_ x) (Xn D at_ y)
      omega
  refine ⟨⟨h.form.next g hL (atNext_len _ _ _ _) (fun j hj => atNext_in hfn hrt j hj) (fun y hy => atNext_out h.form.atl y hy), ?_, fun j => ?_, h.sorted.sublist (List.drop_sublist _ _), fun j hj => hdb j hj⟩, hfn, hrt, fun y hy hi => hdis y hi y (hfr y hy) rfl⟩
  · have hpp : ((idx ++ from_) ++ rest.drop q).Perm (idx ++ rest) := by
      rw [List.append_assoc]
      refine List.Perm.append_left idx ?_
      conv => rhs; rw [hrd]
      exact hp.append_right _
    exact hpp.symm.nodup h.nd
  · rw [← h.mem j]
    have hpp : ((idx ++ from_) ++ rest.drop q).Perm (idx ++ rest) := by
      rw [List.append_assoc]
      refine List.Perm.append_left idx ?_
      conv => rhs; rw [hrd]
      exact hp.append_right _
    exact hpp.mem_iff

theorem StInv.last {D : Dag} (g : Cgt.Good D) {root : Nat} (hr : root < D.length) {F : Dag} {idx at_ : List Nat} {b : Nat} (h : StInv D root F idx at_ b []) : IsForm F ∧ Same (topOf F) (vl D root) := by
  refine FInv.last g hr (h.form.rebase fun j hj => ?_)
  have h1 := (h.mem j).2 hj
  rw [List.append_nil] at h1
  have h2 := ((h.form.mem j).1 h1).2
  rcases reach_born g.wf hj with rfl | h3
  · omega
  · omega
end
section
open Go.RowKit
open Cgt (Dag Nd vl)

def En.two (e : En) : List Value := [e.lv, e.rv]
structure OM (w wr : World) (lb lc rb : Nat) (nv gv : Value) (Lc : List Nat) (mr : Nat) (fm : Value → Option Value) (nodes group V : List En) : Prop where
  list : wr.ownsRow w.heap.size 3 1 (.slice (some ⟨lb, 0, none⟩) Lc.length lc) Lc.length ((toZ Lc).map (Value.int .i64))
  rank : MapIs Tryz.prog 3 wr rb mr fm
  rb0 : w.heap.size ≤ rb
  node : wr.ownsRow w.heap.size 89 2 nv nodes.length (nodes.flatMap En.two)
  grp : wr.ownsRow w.heap.size 192 3 gv group.length (group.flatMap En.cells)
  ents : ∀ e, e ∈ V → EnAt w.heap.size wr e
  apart : V.Pairwise (fun a b => ∀ x, a.blk x → ¬ b.blk x)
  self : ∀ e, e ∈ V → ∀ b, e.lv.ownBlock = some b → e.rv.ownBlock ≠ some b
  far : ∀ e, e ∈ V → ∀ x, e.blk x → x ≠ lb ∧ x ≠ rb ∧ nv.ownBlock ≠ some x ∧ gv.ownBlock ≠ some x
  a1 : lb ≠ rb
  a2 : nv.ownBlock ≠ some lb ∧ nv.ownBlock ≠ some rb
  a3 : gv.ownBlock ≠ some lb ∧ gv.ownBlock ≠ some rb
  a4 : ∀ b, nv.ownBlock = some b → gv.ownBlock ≠ some b
  ext : Ext w wr

section
variable {w wr w2 w3 wa : World} {lb lc rb mr : Nat} {nv gv gv' nv' : Value} {Lc : List Nat} {fm : Value → Option Value} {nodes group V : List En}

theorem EnAt.ext {base : Nat} {e : En} (h : EnAt base wr e) (hx : Ext wr w2) : EnAt base w2 e := h.keep (keep_ext (F := fun _ => False) hx) fun _ _ => id
theorem EnAt.lt {base : Nat} {e : En} (h : EnAt base wr e) {b : Nat} (hb : e.blk b) : base ≤ b ∧ b < wr.heap.size := by
  rcases hb with hb | hb
  · exact h.1.lt b hb
  · exact h.2.1.lt b hb
theorem OM.ext' (m : OM w wr lb lc rb nv gv Lc mr fm nodes group V) (hx : Ext wr w2) : OM w w2 lb lc rb nv gv Lc mr fm nodes group V :=
  ⟨own_keep m.list hx, m.rank.keep (hx.block _ m.rank.lt), m.rb0, own_keep m.node hx, own_keep m.grp hx, fun e he => (m.ents e he).ext hx, m.apart, m.self, m.far, m.a1, m.a2, m.a3, m.a4, ext_trans m.ext hx⟩
theorem OM.lbLt (m : OM w wr lb lc rb nv gv Lc mr fm nodes group V) : w.heap.size ≤ lb ∧ lb < wr.heap.size := m.list.lt lb rfl

theorem OM.gnew (m : OM w wr lb lc rb nv gv Lc mr fm nodes group V) : OM w (wr.alloc (.cells #[] 192)) lb lc rb nv (.slice (some ⟨wr.heap.size, 0, none⟩) 0 0) Lc mr fm nodes [] V := by
  have hx : Ext wr (wr.alloc (.cells #[] 192)) := ext_alloc (Below.refl _ _) _
  have m1 := m.ext' hx
  have hz := m.ext.size
  have hl := m.lbLt
  have hr := m.rank.lt
  have he : ∀ e, e ∈ V → ∀ x, e.blk x → x < wr.heap.size := fun e he x hx => ((m.ents e he).lt hx).2
  refine ⟨m1.list, m1.rank, m1.rb0, m1.node, ?_, m1.ents, m1.apart, m1.self, fun e h x hx => ⟨(m.far e h x hx).1, (m.far e h x hx).2.1, (m.far e h x hx).2.2.1, ?_⟩, m.a1, m.a2, ⟨?_, ?_⟩, fun b hb => ?_, m1.ext⟩
  · refine ⟨by simp, .inr ⟨wr.heap.size, 0, #[], rfl, hz, heap_alloc_new wr _, Nat.le_refl _, Nat.zero_le _, by simp, by simp⟩⟩
  · have := he e h x hx; simp [Value.ownBlock]; omega
  · simp [Value.ownBlock]; omega
  · simp [Value.ownBlock]; omega
  · have := (m.node.lt b hb).2; simp [Value.ownBlock]; omega

theorem OM.addEnt (m : OM w wr lb lc rb nv gv Lc mr fm nodes group V) (hx : Ext wr w2) {e : En} (he : EnAt wr.heap.size w2 e) (hs : ∀ b, e.lv.ownBlock = some b → e.rv.ownBlock ≠ some b) : OM w w2 lb lc rb nv gv Lc mr fm nodes group (V ++ [e]) := by
  have m1 := m.ext' hx
  have hz := m.ext.size
  have hl := m.lbLt
  have hr := m.rank.lt
  have hlt : ∀ a, a ∈ V → ∀ x, a.blk x → x < wr.heap.size := fun a ha x hx => ((m.ents a ha).lt hx).2
  refine ⟨m1.list, m1.rank, m1.rb0, m1.node, m1.grp, fun a ha => ?_, ?_, fun a ha => ?_, fun a ha x hx' => ?_, m.a1, m.a2, m.a3, m.a4, m1.ext⟩
  · rcases List.mem_append.1 ha with ha | ha
    · exact m1.ents a ha
    · simp at ha; subst ha; exact ⟨own_lower he.1 hz, own_lower he.2.1 hz, he.2.2⟩
  · rw [List.pairwise_append]
    refine ⟨m.apart, by simp, fun a ha b hb x hx1 hx2 => ?_⟩
    simp at hb; subst hb
    have := hlt a ha x hx1
    have := (he.lt hx2).1
    omega
  · rcases List.mem_append.1 ha with ha | ha
    · exact m.self a ha
    · simp at ha; subst ha; exact hs
  · rcases List.mem_append.1 ha with ha | ha
    · exact m.far a ha x hx'
    · simp at ha; subst ha
      have h1 := (he.lt hx').1
      refine ⟨by omega, by omega, fun e => ?_, fun e => ?_⟩
      · have := (m.node.lt x e).2; omega
      · have := (m.grp.lt x e).2; omega

theorem OM.gadd (m : OM w wr lb lc rb nv gv Lc mr fm nodes group V) (hx : Ext wr wa) (hg : wa.grownBy w2 gv.ownBlock) {e : En} {n : Nat} {ys : List Value} (ho : w2.ownsRow w.heap.size 192 3 gv' n ys) (hn : n = (group ++ [e]).length) (hy : ys = (group ++ [e]).flatMap En.cells) (hl : Lies wa gv gv') : OM w w2 lb lc rb nv gv' Lc mr fm nodes (group ++ [e]) V := by
  have m1 := m.ext' hx
  have hk := keep_grownO hg
  have hz := hx.size
  have hL : ∀ b, gv'.ownBlock = some b → gv.ownBlock = some b ∨ wr.heap.size ≤ b := fun b hb => by
    rcases hl with e | ⟨g, e, k⟩
    · exact .inl (e ▸ hb)
    · rw [e] at hb; injection hb with hb; exact .inr (by omega)
  have hlb := m.lbLt
  have hr := m.rank.lt
  subst hn hy
  refine ⟨own_keepG m1.list hk (fun b hb e => m.a3.1 (by simp only [Value.ownBlock, Option.some.injEq] at hb; rw [hb]; exact e)), m1.rank.keep (hk.block _ m1.rank.lt (fun e => m.a3.2 e)), m.rb0, own_keepG m1.node hk (fun b hb e => m.a4 b hb e), ho, fun a ha => (m1.ents a ha).keep hk (fun b hb e => (m.far a ha b hb).2.2.2 e), m.apart, m.self, fun a ha x hx' => ⟨(m.far a ha x hx').1, (m.far a ha x hx').2.1, (m.far a ha x hx').2.2.1, fun e => ?_⟩, m.a1, m.a2, ⟨fun e => ?_, fun e => ?_⟩, fun b hb e => ?_, ext_grown m1.ext hg (fun b hb => (m1.grp.lt b hb).1)⟩
  · rcases hL x e with h | h
    · exact (m.far a ha x hx').2.2.2 h
    · have := ((m.ents a ha).lt hx').2; omega
  · rcases hL lb e with h | h
    · exact m.a3.1 h
    · omega
  · rcases hL rb e with h | h
    · exact m.a3.2 h
    · omega
  · rcases hL b e with h | h
    · exact m.a4 b hb h
    · have := (m.node.lt b hb).2; omega

theorem OM.gsort {g c : Nat} {G' : List En} (m : OM w wr lb lc rb nv (.slice (some ⟨g, 0, none⟩) group.length c) Lc mr fm nodes group (nodes ++ group)) (hp : G'.Perm group) (ho : w2.ownsRow w.heap.size 192 3 (.slice (some ⟨g, 0, none⟩) group.length c) group.length (G'.flatMap En.cells)) (hk : Keep (fun b => b = g) wr w2) : OM w w2 lb lc rb nv (.slice (some ⟨g, 0, none⟩) G'.length c) Lc mr fm nodes G' (nodes ++ G') := by
  have hl := hp.length_eq
  have hpp : (nodes ++ G').Perm (nodes ++ group) := List.Perm.append_left _ hp
  have hgb : (Value.slice (some ⟨g, 0, none⟩) group.length c).ownBlock = some g := rfl
  have hfar : ∀ e, e ∈ nodes ++ group → ∀ x, e.blk x → ¬ x = g := fun e he x hx h => (m.far e he x hx).2.2.2 (by rw [h]; rfl)
  have hgw := (m.grp.lt g rfl)
  refine ⟨own_keepG m.list hk (fun b hb e => ?_), m.rank.keep (hk.block _ m.rank.lt (fun e => m.a3.2 (by rw [e]; rfl))), m.rb0, own_keepG m.node hk (fun b hb e => m.a4 b hb (by rw [e]; rfl)), by rw [hl]; exact ho, fun e he => (m.ents e (hpp.mem_iff.1 he)).keep hk (hfar e (hpp.mem_iff.1 he)), ?_, fun e he => m.self e (hpp.mem_iff.1 he), fun e he => m.far e (hpp.mem_iff.1 he), m.a1, m.a2, m.a3, m.a4, ?_⟩
  · simp only [Value.ownBlock, Option.some.injEq] at hb
    exact m.a3.1 (by show some g = some lb; rw [← e, hb])
  · exact (hpp.pairwise_iff (fun {a b} h x hx hy => h x hy hx)).2 m.apart
  · exact ext_keep m.ext hk (fun x hx => by omega)

theorem OM.lset (m : OM w wr lb lc rb nv gv Lc mr fm nodes group V) {k : Nat} (hk : k < Lc.length) (x : Nat) : OM w (wr.setCell ⟨lb, k, none⟩ (.int .i64 (x : Int))) lb lc rb nv gv (Lc.set k x) mr fm nodes group V := by
  have hs : Keep (fun b => b = lb) wr (wr.setCell ⟨lb, k, none⟩ (.int .i64 (x : Int))) := keep_set (p := ⟨lb, k, none⟩)
  have hl := m.lbLt
  refine ⟨?_, m.rank.keep (hs.block _ m.rank.lt (fun e => m.a1 e.symm)), m.rb0, own_keepG m.node hs (fun b hb e => m.a2.1 (e ▸ hb)), own_keepG m.grp hs (fun b hb e => m.a3.1 (e ▸ hb)), fun e he => (m.ents e he).keep hs (fun b hb h => (m.far e he b hb).1 h), m.apart, m.self, m.far, m.a1, m.a2, m.a3, m.a4, ext_keep m.ext hs (fun b hb => by omega)⟩
  have h := own_set (k := k) m.list hk (x : Int)
  have e : (toZ Lc).set k (x : Int) = toZ (Lc.set k x) := by simp [toZ, List.map_set]
  rw [e] at h
  rw [List.length_set]; exact h

theorem OM.rset (m : OM w wr lb lc rb nv gv Lc mr fm nodes group V) {fm' : Value → Option Value} {mr' : Nat} (hM : MapIs Tryz.prog 3 w2 rb mr' fm') (hg : wr.grownBy w2 (some rb)) : OM w w2 lb lc rb nv gv Lc mr' fm' nodes group V := by
  have hs := keep_grown hg
  have hr := m.rb0
  refine ⟨own_keepG m.list hs (fun b hb e => m.a1 (by simp only [Value.ownBlock, Option.some.injEq] at hb; rw [hb]; exact e)), hM, m.rb0, own_keepG m.node hs (fun b hb e => m.a2.2 (e ▸ hb)), own_keepG m.grp hs (fun b hb e => m.a3.2 (e ▸ hb)), fun e he => (m.ents e he).keep hs (fun b hb h => (m.far e he b hb).2.1 h), m.apart, m.self, m.far, m.a1, m.a2, m.a3, m.a4, ext_keep m.ext hs (fun b hb => by omega)⟩

theorem OM.nadd (m : OM w wr lb lc rb nv gv Lc mr fm nodes group V) (hx : Ext wr wa) (hg : wa.grownBy w2 nv.ownBlock) {e : En} {n : Nat} {ys : List Value} (ho : w2.ownsRow w.heap.size 89 2 nv' n ys) (hn : n = (nodes ++ [e]).length) (hy : ys = (nodes ++ [e]).flatMap En.two) (hl : Lies wa nv nv') : OM w w2 lb lc rb nv' gv Lc mr fm (nodes ++ [e]) group V := by
  have m1 := m.ext' hx
  have hk := keep_grownO hg
  have hz := hx.size
  have hL : ∀ b, nv'.ownBlock = some b → nv.ownBlock = some b ∨ wr.heap.size ≤ b := fun b hb => by
    rcases hl with e | ⟨g, e, k⟩
    · exact .inl (e ▸ hb)
    · rw [e] at hb; injection hb with hb; exact .inr (by omega)
  have hlb := m.lbLt
  have hr := m.rank.lt
  subst hn hy
  refine ⟨own_keepG m1.list hk (fun b hb e => m.a2.1 (by simp only [Value.ownBlock, Option.some.injEq] at hb; rw [hb]; exact e)), m1.rank.keep (hk.block _ m1.rank.lt (fun e => m.a2.2 e)), m.rb0, ho, own_keepG m1.grp hk (fun b hb e => m.a4 b e hb), fun a ha => (m1.ents a ha).keep hk (fun b hb e => (m.far a ha b hb).2.2.1 e), m.apart, m.self, fun a ha x hx' => ⟨(m.far a ha x hx').1, (m.far a ha x hx').2.1, fun e => ?_, (m.far a ha x hx').2.2.2⟩, m.a1, ⟨fun e => ?_, fun e => ?_⟩, m.a3, fun b hb e => ?_, ext_grown m1.ext hg (fun b hb => (m1.node.lt b hb).1)⟩
  · rcases hL x e with h | h
    · exact (m.far a ha x hx').2.2.1 h
    · have := ((m.ents a ha).lt hx').2; omega
  · rcases hL lb e with h | h
    · exact m.a2.1 h
    · omega
  · rcases hL rb e with h | h
    · exact m.a2.2 h
    · omega
  · rcases hL b hb with h | h
    · exact m.a4 b h e
    · have := (m.grp.lt b e).2; omega
end
end
end Go.Proofs.YteknjeohbcgpdaaGreatDoor
