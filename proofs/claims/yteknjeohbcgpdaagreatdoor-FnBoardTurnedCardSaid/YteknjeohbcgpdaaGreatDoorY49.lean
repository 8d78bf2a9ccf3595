/-
  Contract of the program's canon. (2 texts.)
-/
import Derived.Test.YteknjeohbcgpdaaGreatDoorY22
import Derived.Test.YteknjeohbcgpdaaGreatDoorY32
set_option maxRecDepth 100000
namespace Go.Proofs.YteknjeohbcgpdaaGreatDoor
section
open Cgt

theorem mk_eqv {a b c d : List Gm} (h1 : ∀ x, x ∈ a → ∃ y, y ∈ c ∧ Eqv x y) (h2 : ∀ y, y ∈ c → ∃ x, x ∈ a ∧ Eqv x y) (h3 : ∀ x, x ∈ b → ∃ y, y ∈ d ∧ Eqv x y) (h4 : ∀ y, y ∈ d → ∃ x, x ∈ b ∧ Eqv x y) : Eqv (.mk a b) (.mk c d) := by
  constructor
  · refine ge_of (fun r hr => ?_) (fun l hl => ?_)
    · obtain ⟨y, hy, e⟩ := h3 r hr
      exact .inl ⟨y, hy, e.1⟩
    · obtain ⟨x, hx, e⟩ := h2 l hl
      exact .inl ⟨x, hx, e.1⟩
  · refine ge_of (fun r hr => ?_) (fun l hl => ?_)
    · obtain ⟨y, hy, e⟩ := h4 r hr
      exact .inl ⟨y, hy, e.2⟩
    · obtain ⟨x, hx, e⟩ := h1 l hl
      exact .inl ⟨x, hx, e.2⟩

theorem miss_pos {N f : Nat} {cn : Nat → Option Nat} (hf : f < N) (h : cn f = none) : 1 ≤ miss N cn := by
  have : f ∈ (List.range N).filter fun x => (cn x).isNone := List.mem_filter.2 ⟨List.mem_range.2 hf, by simp [h]⟩
  exact List.length_pos_of_mem this

theorem RedFact.more {D E : Dag} {cn cn' : Nat → Option Nat} {f : Nat} {left : Bool} {F : List Nat} (hD : WF D) (hE : WF (D ++ E)) (hf : f < D.length) (hm : ∀ i j, cn i = some j → cn' i = some j) (h : RedFact D cn f left F) : RedFact (D ++ E) cn' f left F := by
  obtain ⟨h1, line, B, h2, h3⟩ := h
  have ho : opt (D ++ E) left f = opt D left f := opt_old hf
  have hk : ∀ x, x ∈ opt D left f → cn' x = cn x := fun x hx => by
    have := h1 x hx
    cases e : cn x with
    | none => rw [e] at this; cases this
    | some j => exact hm x j e
  have hc : clist (D ++ E) cn' left f = clist D cn left f := by
    unfold clist
    rw [ho]
    exact List.map_congr_left fun x hx => by rw [hk x hx]
  refine ⟨fun x hx => ?_, line, B, ?_, h3.more hD hE (fun x hx => h2.lt x (h2.kept x hx).1)⟩
  · rw [ho] at hx; rw [hk x hx]; exact h1 x hx
  · rw [hc]; exact h2.more hD hE hf

theorem clist_known {D : Dag} {cn : Nat → Option Nat} (_hc : CnOk D cn) {left : Bool} {f : Nat} (h : ∀ x, x ∈ opt D left f → (cn x).isSome) : ∀ y, y ∈ clist D cn left f → ∃ x, x ∈ opt D left f ∧ cn x = some y := by
  intro y hy
  obtain ⟨x, hx, rfl⟩ := List.mem_map.1 hy
  have := h x hx
  cases e : cn x with
  | none => rw [e] at this; cases this
  | some j => exact ⟨x, hx, by simp [e]⟩

theorem red_mem {D : Dag} (hD : WF D) {cn : Nat → Option Nat} (hc : CnOk D cn) {f : Nat} {left : Bool} {F : List Nat} (h : RedFact D cn f left F) : ∀ x, x ∈ F → x < D.length ∧ born (vl D x) < born (vl D f) ∧ (cn x).isSome := by
  obtain ⟨h1, line, B, h2, h3⟩ := h
  intro x hx
  have hl := (h2.kept x (h3.1 x hx).1).1
  refine ⟨h2.lt x hl, ?_, ?_⟩
  · refine h2.clos (fun x => born (vl D x) < born (vl D f)) (fun i side x hi hx => ?_) (fun y hy => ?_) x hl
    · have := opt_born hD hx; omega
    · obtain ⟨z, hz, e⟩ := clist_known hc h1 y hy
      have := opt_born hD hz
      have := (hc.ok z y e).2.2
      omega
  · refine h2.clos (fun x => (cn x).isSome) (fun i side x hi hx => ?_) (fun y hy => ?_) x hl
    · cases e : cn i with
      | none => rw [e] at hi; cases hi
      | some j =>
        unfold opt at hx
        cases e2 : D[i]? with
        | none => rw [e2] at hx; simp at hx
        | some nd =>
          rw [e2] at hx
          exact hc.sub i j nd e e2 x (by cases side <;> simp at hx ⊢ <;> simp [hx])
    · obtain ⟨z, hz, e⟩ := clist_known hc h1 y hy
      rw [hc.self z y e]; rfl

def cnUpd (cn : Nat → Option Nat) (f i : Nat) : Nat → Option Nat := fun x => if x = f ∨ x = i then some i else cn x

theorem canon_node {D2 D3 : Dag} {cn : Nat → Option Nat} {f i : Nat} {FL FR : List Nat} (g2 : Cgt.Good D2) (g3 : Cgt.Good D3) (hc : CnOk D2 cn) (hf : f < D2.length) (R1 : RedFact D2 cn f true FL) (R2 : RedFact D2 cn f false FR) (p : PutRel D2 FL FR D3 i) :
    Canon (vl D3 i) ∧ Eqv (vl D3 i) (vl D3 f) ∧ born (vl D3 i) ≤ born (vl D3 f) := by
  have m1 := red_mem g2.wf hc R1
  have m2 := red_mem g2.wf hc R2
  obtain ⟨h1, line, B, iL, tL⟩ := R1
  obtain ⟨h2, line', B', iR, tR⟩ := R2
  have hvl : ∀ x, x < D2.length → vl D3 x = vl D2 x := fun x hx => p.vl g2.wf g3.wf hx
  have hfe : D2[f]? = some D2[f] := List.getElem?_eq_getElem hf
  have ho := opt_at hf
  have hE : Eqv (.mk ((clist D2 cn true f).map (vl D2)) ((clist D2 cn false f).map (vl D2))) (vl D2 f) := by
    rw [vl_mk g2.wf hfe, ← ho.1, ← ho.2]
    have key : ∀ left, (∀ x, x ∈ opt D2 left f → (cn x).isSome) → (∀ x, x ∈ (clist D2 cn left f).map (vl D2) → ∃ y, y ∈ (opt D2 left f).map (vl D2) ∧ Eqv x y) ∧ ∀ y, y ∈ (opt D2 left f).map (vl D2) → ∃ x, x ∈ (clist D2 cn left f).map (vl D2) ∧ Eqv x y := by
      intro left hk
      constructor
      · intro x hx
        obtain ⟨y, hy, rfl⟩ := List.mem_map.1 hx
        obtain ⟨z, hz, e⟩ := clist_known hc hk y hy
        exact ⟨vl D2 z, List.mem_map.2 ⟨z, hz, rfl⟩, (hc.ok z y e).2.1⟩
      · intro y hy
        obtain ⟨z, hz, rfl⟩ := List.mem_map.1 hy
        have := hk z hz
        cases e : cn z with
        | none => rw [e] at this; cases this
        | some j => exact ⟨vl D2 j, List.mem_map.2 ⟨j, List.mem_map.2 ⟨z, hz, by simp [e]⟩, rfl⟩, (hc.ok z j e).2.1⟩
    exact mk_eqv (key true h1).1 (key true h1).2 (key false h2).1 (key false h2).2
  have cc : ∀ left, (∀ x, x ∈ opt D2 left f → (cn x).isSome) → ∀ x, x ∈ clist D2 cn left f → Canon (vl D2 x) := fun left hk x hx => by
    obtain ⟨z, hz, e⟩ := clist_known hc hk x hx
    exact (hc.ok z x e).1
  have tS : ∀ {left : Bool} {B F : List Nat}, Tops D2 left B F → Tops D2 left B (sortN F) := fun {left B F} t =>
    ⟨fun x hx => t.1 x (sortN_mem.1 hx), fun x hx => by obtain ⟨z, hz, hg⟩ := t.2 x hx; exact ⟨z, sortN_mem.2 hz, hg⟩⟩
  obtain ⟨q1, q2⟩ := node_law2 g2.wf hE (cc true h1) (cc false h2) iL iR (tS tL) (tS tR)
  have hv : vl D3 i = .mk ((sortN FL).map (vl D2)) ((sortN FR).map (vl D2)) := by
    rw [vl_mk g3.wf p.1]
    congr 1
    · exact List.map_congr_left fun x hx => hvl x (m1 x (sortN_mem.1 hx)).1
    · exact List.map_congr_left fun x hx => hvl x (m2 x (sortN_mem.1 hx)).1
  refine ⟨by rw [hv]; exact q2, by rw [hv, hvl f hf]; exact q1, ?_⟩
  rw [hvl f hf, hv, born_le]
  constructor
  · intro x hx
    obtain ⟨y, hy, rfl⟩ := List.mem_map.1 (show x ∈ (sortN FL).map (vl D2) from hx)
    exact (m1 y (sortN_mem.1 hy)).2.1
  · intro x hx
    obtain ⟨y, hy, rfl⟩ := List.mem_map.1 (show x ∈ (sortN FR).map (vl D2) from hx)
    exact (m2 y (sortN_mem.1 hy)).2.1

theorem canon_cn {D2 D3 : Dag} {cn : Nat → Option Nat} {f i : Nat} {FL FR : List Nat} (g2 : Cgt.Good D2) (g3 : Cgt.Good D3) (hc : CnOk D2 cn) (hc3 : CnOk D3 cn) (hf : f < D2.length) (hn : cn f = none) (R1 : RedFact D2 cn f true FL) (R2 : RedFact D2 cn f false FR) (p : PutRel D2 FL FR D3 i) :
    CnOk D3 (cnUpd cn f i) ∧ ∀ x j, cn x = some j → cnUpd cn f i x = some j := by
  obtain ⟨c1, c2, c3⟩ := canon_node g2 g3 hc hf R1 R2 p
  have m1 := red_mem g2.wf hc R1
  have m2 := red_mem g2.wf hc R2
  have hil := p.lt
  have hfl : f < D3.length := by have := p.len; omega
  have hmono : ∀ x j, cn x = some j → cnUpd cn f i x = some j := by
    intro x j hx
    unfold cnUpd
    split
    · rename_i h
      rcases h with rfl | rfl
      · rw [hn] at hx; cases hx
      · have h1 := hc3.ok x j hx
        have h2 := (hc3.lt x j hx).2
        rw [same_idx g3 j x h2 hil (canon_unique h1.1 c1 h1.2.1)]
    · exact hx
  have hsome : ∀ x, (cn x).isSome → (cnUpd cn f i x).isSome := fun x hx => by
    cases e : cn x with
    | none => rw [e] at hx; cases hx
    | some j => rw [hmono x j e]; rfl
  have hi : cnUpd cn f i i = some i := by simp [cnUpd]
  have hinv : ∀ x j, cnUpd cn f i x = some j → (x = f ∧ j = i) ∨ (x = i ∧ j = i) ∨ cn x = some j := by
    intro x j h
    unfold cnUpd at h
    split at h
    · rename_i hx
      injection h with h
      rcases hx with rfl | rfl
      · exact .inl ⟨rfl, h.symm⟩
      · exact .inr (.inl ⟨rfl, h.symm⟩)
    · exact .inr (.inr h)
  refine ⟨⟨fun x j h => ?_, fun x j h => ?_, fun x j h => ?_, fun x j nd h hnd y hy => ?_⟩, hmono⟩
  · rcases hinv x j h with ⟨rfl, rfl⟩ | ⟨rfl, rfl⟩ | h
    · exact ⟨hfl, hil⟩
    · exact ⟨hil, hil⟩
    · exact hc3.lt x j h
  · rcases hinv x j h with ⟨rfl, rfl⟩ | ⟨rfl, rfl⟩ | h
    · exact ⟨c1, c2, c3⟩
    · exact ⟨c1, Eqv.refl _, Nat.le_refl _⟩
    · exact hc3.ok x j h
  · rcases hinv x j h with ⟨rfl, rfl⟩ | ⟨rfl, rfl⟩ | h
    · exact hi
    · exact hi
    · exact hmono j j (hc3.self x j h)
  · rcases hinv x j h with ⟨rfl, rfl⟩ | ⟨rfl, rfl⟩ | h
    · have hfe : D2[x]? = some D2[x] := List.getElem?_eq_getElem hf
      obtain ⟨E, e, _⟩ := p.ext
      rw [e, List.getElem?_append_left hf, hfe] at hnd
      injection hnd with hnd
      subst hnd
      have ho := opt_at hf
      rcases List.mem_append.1 hy with hy | hy
      · exact hsome y (R1.1 y (by rw [ho.1]; exact hy))
      · exact hsome y (R2.1 y (by rw [ho.2]; exact hy))
    · rw [p.1] at hnd
      injection hnd with hnd
      subst hnd
      rcases List.mem_append.1 hy with hy | hy
      · exact hsome y (m1 y (sortN_mem.1 hy)).2.2
      · exact hsome y (m2 y (sortN_mem.1 hy)).2.2
    · exact hsome y (hc3.sub x j nd h hnd y hy)
end
section
open Go.RowKit
open Cgt (Dag Nd vl Same Ge)

theorem PoolAt.canonsRoom {w : World} {pp h : Nat} {s : PSt} (k : PoolAt w pp h s) : ∃ f, MapIs Tryz.prog 3 w (h + 1 + 1) 900000 f ∧ (∀ i : Nat, f (.int .i64 (i : Int)) = (s.cn i).map fun j => .int .i64 (j : Int)) ∧ ∀ k v, f k = some v → ∃ i : Nat, k = .int .i64 (i : Int) := by
  obtain ⟨n, f, h1, h2, h3⟩ := k.canons
  refine ⟨f, (h1.room ((List.range s.D.length).map fun (a : Nat) => .int .i64 (a : Int)) fun key v hv => ?_).mono ?_, h2, h3⟩
  · obtain ⟨i, rfl⟩ := h3 key v hv
    rw [h2] at hv
    cases e : s.cn i with
    | none => rw [e] at hv; cases hv
    | some j => exact List.mem_map.2 ⟨i, List.mem_range.2 (k.cnok.lt i j e).1, rfl⟩
  · rw [List.length_map, List.length_range]; exact k.small

theorem canon_stores {f0 : Value → Option Value} {cn : Nat → Option Nat} {f i : Nat} (h : ∀ x : Nat, f0 (.int .i64 (x : Int)) = (cn x).map fun j => .int .i64 (j : Int)) (x : Nat) :
    upd (fun _ _ => Classical.propDecidable _) (upd (fun _ _ => Classical.propDecidable _) f0 (.int .i64 (f : Int)) (.int .i64 (i : Int))) (.int .i64 (i : Int)) (.int .i64 (i : Int)) (.int .i64 (x : Int)) = (cnUpd cn f i x).map fun j => .int .i64 (j : Int) := by
  unfold cnUpd
  by_cases c : x = i
  · subst c; rw [upd_same]; simp
  · rw [upd_ne (by simp; omega)]
    by_cases d : x = f
    · subst d; rw [upd_same]; simp
    · rw [upd_ne (by simp; omega), h]; simp [c, d]

theorem PoolAt.canonIn {w w1 w2 : World} {pp h n : Nat} {s : PSt} {f0 : Value → Option Value} {f i : Nat} (k : PoolAt w pp h s) (hf : ∀ x : Nat, f0 (.int .i64 (x : Int)) = (s.cn x).map fun j => .int .i64 (j : Int)) (hk : ∀ k v, f0 k = some v → ∃ i : Nat, k = .int .i64 (i : Int))
    (hg1 : w.grownBy w1 (some (h + 1 + 1))) (hM : MapIs Tryz.prog 3 w2 (h + 1 + 1) n (upd (fun _ _ => Classical.propDecidable _) (upd (fun _ _ => Classical.propDecidable _) f0 (.int .i64 (f : Int)) (.int .i64 (i : Int))) (.int .i64 (i : Int)) (.int .i64 (i : Int)))) (hg2 : w1.grownBy w2 (some (h + 1 + 1)))
    (hc : CnOk s.D (cnUpd s.cn f i)) (hm : ∀ x j, s.cn x = some j → cnUpd s.cn f i x = some j) : PGo pp h s w ⟨s.lv, s.rv, s.bv, s.D, s.S, cnUpd s.cn f i⟩ w2 := by
  have kk := (keep_grown hg1).trans (keep_grown hg2) (fun _ _ h => h)
  obtain ⟨h1, h2⟩ := k.maps kk (fun b hb => by omega) hc (k.findKeep (kk.block _ (k.mapsLt (by omega)) (by omega))) (k.ordersKeep (kk.block _ (k.mapsLt (by omega)) (by omega))) ⟨n, _, hM, canon_stores hf, fun key v hv => by
    rcases upd_old hv with ⟨rfl, rfl⟩ | hv
    · exact ⟨i, rfl⟩
    · rcases upd_old hv with ⟨rfl, rfl⟩ | hv
      · exact ⟨f, rfl⟩
      · exact hk key v hv⟩
  exact ⟨h1, h2, fun _ h => .inl h, fun _ h => h, fun _ h => .inl h, ⟨[], by simp⟩, hm⟩

theorem PCanonOk.mono {m n : Nat} (h : PCanonOk n) (hm : m ≤ n) : PCanonOk m := fun pp hh s f w a b c d => h pp hh s f w a b (by omega) d

theorem canon_done {pp h : Nat} {s s1 s2 s3 : PSt} {w w1 w2 w3 : World} {f i : Nat} {FL FR : List Nat} (hP : PoolAt w pp h s) (hf : f < s.D.length) (hn : s.cn f = none)
    (k1 : PGo pp h s w s1 w1) (G1 : GrowR s f s1) (R1 : RedFact s1.D s1.cn f true FL) (k2 : PGo pp h s1 w1 s2 w2) (G2 : GrowR s1 f s2) (R2 : RedFact s2.D s2.cn f false FR) (k3 : PGo pp h s2 w2 s3 w3) (p : PutRel s2.D FL FR s3.D i) (hcn : s3.cn = s2.cn) :
    CnOk s3.D (cnUpd s3.cn f i) ∧ (∀ x j, s3.cn x = some j → cnUpd s3.cn f i x = some j) ∧ Grow s f ⟨s3.lv, s3.rv, s3.bv, s3.D, s3.S, cnUpd s3.cn f i⟩ := by
  have hw := hP.good.wf
  have h1 := k1.len
  have h2 := k2.len
  have h3 := p.len
  have hv1 := k1.vl hw hf
  have hn1 : s1.cn f = none := by
    cases e : s1.cn f with
    | none => rfl
    | some j => have := G1.2.1 f hf hn (by rw [e]; rfl); omega
  have hn2 : s2.cn f = none := by
    cases e : s2.cn f with
    | none => rfl
    | some j => have := G2.2.1 f (by omega) hn1 (by rw [e]; rfl); omega
  have R1' : RedFact s2.D s2.cn f true FL := by
    obtain ⟨E, hE⟩ := k2.more
    have hg := k2.pool.good.wf
    rw [hE] at hg ⊢
    exact R1.more k1.pool.good.wf hg (by omega) k2.known
  have hc3 := k3.pool.cnok
  rw [hcn] at hc3 ⊢
  obtain ⟨c1, c2⟩ := canon_cn k2.pool.good k3.pool.good k2.pool.cnok hc3 (by omega) hn2 R1' R2 p
  obtain ⟨d1, d2, d3⟩ := canon_node k2.pool.good k3.pool.good k2.pool.cnok (by omega) R1' R2 p
  refine ⟨c1, c2, fun N a b => ?_, fun x a b c => ?_, fun x a b => ?_⟩
  · have g1 := G1.1 N a b
    have g2 := G2.1 N a (by omega)
    have g3 := miss_lt (N := N) (cn := s2.cn) (cn' := cnUpd s2.cn f i) (fun x _ hx => by cases e : s2.cn x with | none => rw [e] at hx; cases hx | some j => rw [c2 x j e]; rfl) a hn2 (by simp [cnUpd])
    show s3.D.length + miss N (cnUpd s2.cn f i) ≤ _
    omega
  · have hk13 := (k1.trans k2).trans k3
    by_cases e1 : x = f
    · subst e1; exact Nat.le_refl _
    · by_cases e2 : x = i
      · subst e2
        rw [hk13.vl hw a, hk13.vl hw hf] at d3
        exact d3
      · have e3 : cnUpd s2.cn f i x = s2.cn x := by simp [cnUpd, e1, e2]
        rw [show (⟨s3.lv, s3.rv, s3.bv, s3.D, s3.S, cnUpd s2.cn f i⟩ : PSt).cn x = s2.cn x from e3] at c
        cases e : s1.cn x with
        | some j => exact Nat.le_of_lt (G1.2.1 x a b (by rw [e]; rfl))
        | none =>
          have := G2.2.1 x (by omega) e c
          rw [k1.vl hw a, hv1] at this
          omega
  · have hs2 : ∀ x, x < s2.D.length → s.D.length ≤ x → (s2.cn x).isSome := fun x h a => by
      by_cases c : x < s1.D.length
      · have h1 := G1.2.2 x a c
        cases e : s1.cn x with
        | none => rw [e] at h1; cases h1
        | some j => rw [k2.known x j e]; rfl
      · exact G2.2.2 x (by omega) h
    by_cases c : x < s2.D.length
    · have h1 := hs2 x c a
      cases e : s2.cn x with
      | none => rw [e] at h1; cases h1
      | some j => show (cnUpd s2.cn f i x).isSome = true; rw [c2 x j e]; rfl
    · have hxi : x = i := by
        obtain ⟨p1, p2⟩ := p
        have b' : x < s3.D.length := b
        rcases p2 with e | e
        · rw [e] at b'; omega
        · have hx : x = s2.D.length := by rw [e] at b'; simp at b'; omega
          have h1 : s3.D[x]? = some (sortN FL, sortN FR) := by rw [e, hx, List.getElem?_append_right (Nat.le_refl _)]; simp
          have h2 : i < s3.D.length := by
            rcases Nat.lt_or_ge i s3.D.length with h | h
            · exact h
            · rw [List.getElem?_eq_none h] at p1; cases p1
          exact (List.getElem?_inj (by rw [hx, e]; simp) k3.pool.good.nodup).1 (h1.trans p1.symm)
      subst hxi
      show (cnUpd s2.cn f x x).isSome = true
      simp [cnUpd]

set_option maxHeartbeats 4000000 in
theorem canon_step {m : Nat} (ih : PCanonOk m) : PCanonOk (m + 1) := by
  intro pp h s f w hP hf hm hroom
  have hds := hP.small
  obtain ⟨f0, hM, hf0, hk0⟩ := hP.canonsRoom
  have hkf := keyOfI f (by omega)
  have c5 := hP.c5
  go_enter Tryz.func104, Tryz.ntmps104
  cases hcn : s.cn f with
  | some j =>
    have e0 : f0 (.int .i64 (f : Int)) = some (.int .i64 (j : Int)) := by rw [hf0, hcn]; rfl
    have HCN := Lib.hid hcn
    have HF0 := Lib.hid hf0
    clear hcn hf0
    go_wp2_with (at_lookup; refine look_list rfl _ _ 135 true rfl 3 3 keyedI Tryz.underlying135 (.int .i64 0) (zeroI _) (h + 1 + 1) 900000 f0 rfl (hM.keep rfl) (.int .i64 (f : Int)) rfl hkf ?_; rw [e0]; simp only [if_true, Option.getD_some, Option.isSome_some])
    go_ret
    exact ⟨s, j, rfl, PGo.refl hP (Below.refl _ _), HCN.out, fun _ _ _ => Nat.le_refl _, fun x _ h k => (by rw [h] at k; cases k), fun x a b => absurd b (by omega)⟩
  | none =>
    have e0 : f0 (.int .i64 (f : Int)) = none := by rw [hf0, hcn]; rfl
    have HCN := Lib.hid hcn
    have ihf := ih.mono (show f ≤ m by omega)
    have R1 := Lib.hid (reduced_any pp h s f true w ihf hP hf hroom)
    have IH := Lib.hid ihf
    have HM := Lib.hid hM
    clear hcn hf0 hk0 ih ihf hM
    go_upto_region 5 with (first
      | (at_lookup; refine look_list rfl _ _ 135 true rfl 3 3 keyedI Tryz.underlying135 (.int .i64 0) (zeroI _) (h + 1 + 1) 900000 f0 rfl (HM.out.keep rfl) (.int .i64 (f : Int)) rfl hkf ?_; rw [e0]; simp only [if_true, Option.getD_none, Option.isSome_none])
      | (go_at_call 119; refine (node_any pp h s2 _ _ FL FR w2 hP2 hroom2 hFL hFR hlL hlR hI1 hI2).mono ?_; rintro e w3 ⟨s3, i, rfl, hgo3, hp3, hc3⟩)
      | (go_at_call 160; refine (reduced_any pp h s1 f false w1 IH.out hgo1.pool hf1 hroom1).mono ?_; rintro e w2 ⟨s2, v2, FR, rfl, ho2, hgo2, hcl2, hG2, hR2, hlR⟩
         have hG2' := Lib.hid hG2
         have hP2 := hgo2.pool
         have hf2 : f < s2.D.length := Nat.lt_of_lt_of_le hf1 hgo2.len
         have hn1 : s1.cn f = none := by
           cases e : s1.cn f with
           | none => rfl
           | some j => exact absurd (hG1'.out.2.1 f hf HCN.out (by rw [e]; rfl)) (Nat.lt_irrefl _)
         have hn2 : s2.cn f = none := by
           cases e : s2.cn f with
           | none => rfl
           | some j => exact absurd (hG2.2.1 f hf1 hn1 (by rw [e]; rfl)) (Nat.lt_irrefl _)
         have hroom2 : s2.D.length + 1 ≤ 900000 := Nat.le_trans (Nat.add_le_add_left (miss_pos (Nat.lt_succ_self f) hn2) _) (Nat.le_trans (hG2.1 (f + 1) (Nat.lt_succ_self f) hf1) hroom1)
         have hR1c : RedFact s2.D s2.cn f true FL := by
           obtain ⟨E, hE⟩ := hgo2.more
           have hg := hgo2.pool.good.wf
           rw [hE] at hg ⊢
           exact hR1'.out.more hgo1.pool.good.wf hg hf1 hgo2.known
         have hFL : ∀ x, x ∈ FL → x < s2.D.length := fun x hx => (red_mem hP2.good.wf hP2.cnok hR1c x hx).1
         have hFR : ∀ x, x ∈ FR → x < s2.D.length := fun x hx => (red_mem hP2.good.wf hP2.cnok hR2 x hx).1
         have hI1 : Ints w2 v1 (toZ FL) := Ints.of_own (own_keepG ho1 hgo2.keep (fun b hb => (hcl1 b hb).1)) (by rw [toZ_len]; exact Nat.le_trans hlL (by decide))
         have hI2 : Ints w2 v2 (toZ FR) := Ints.of_own ho2 (by rw [toZ_len]; exact Nat.le_trans hlR (by decide))
         have hR2' := Lib.hid hR2
         clear hn1 hn2 hR1c hG2 hR2)
      | (go_at_call 160; refine R1.out.mono ?_; rintro e w1 ⟨s1, v1, FL, rfl, ho1, hgo1, hcl1, hG1, hR1, hlL⟩
         have hf1 : f < s1.D.length := Nat.lt_of_lt_of_le hf hgo1.len
         have hroom1 : s1.D.length + miss (f + 1) s1.cn ≤ 900000 := Nat.le_trans (hG1.1 (f + 1) (Nat.lt_succ_self f) hf) hroom
         have hG1' := Lib.hid hG1
         have hR1' := Lib.hid hR1
         clear hG1 hR1))
    have hdone := Lib.hid (canon_done hP hf HCN.out hgo1 hG1'.out hR1'.out hgo2 hG2'.out hR2'.out hgo3 hp3 hc3)
    have hP3 := hgo3.pool
    have hi3 := hp3.lt
    have hds3 := hP3.small
    obtain ⟨f3, hM3, hf3, hk3⟩ := hP3.canonsRoom
    have hki := keyOfI i (by omega)
    have c53 := hP3.c5
    have hpp3 : ¬ (pp = h + 1 + 1) := by have := hP3.ap1; omega
    have hlt3 := blk_lt hP3.box
    have HF3 := Lib.hid (And.intro hf3 hk3)
    clear hf3 hk3 c5 e0 hI1 hI2 hFL hFR ho1 ho2 hroom1 hroom2
    go_wp2_with (first
      | (at_mapUpdate; refine store_list rfl _ _ _ 135 rfl 3 3 keyedI Tryz.underlying135 (h + 1 + 1) 900001 _ rfl hM4 (by unfold maxLen; omega) (.int .i64 (i : Int)) (.int .i64 (i : Int)) rfl rfl hki ?_; intro w5 hM5 hg5)
      | (at_mapUpdate; refine store_list rfl _ _ _ 135 rfl 3 3 keyedI Tryz.underlying135 (h + 1 + 1) 900000 f3 rfl (hM3.keep rfl) (by unfold maxLen; omega) (.int .i64 (f : Int)) (.int .i64 (i : Int)) rfl rfl hkf ?_; intro w4 hM4 hg4
         have c54 : w4.cell? ⟨pp, 5, none⟩ = some (.map (some (h + 1 + 1))) := (World.cell?_of_block ((keep_grown hg4).block pp hlt3 hpp3)).trans c53))
    go_ret
    have hin := PoolAt.canonIn hP3 HF3.out.1 HF3.out.2 hg4 hM5 hg5 hdone.out.1 hdone.out.2.1
    exact ⟨_, i, rfl, ((hgo1.trans hgo2).trans hgo3).trans hin, by simp [cnUpd], hdone.out.2.2⟩

theorem pcanonOk : ∀ m, PCanonOk m := by
  intro m
  induction m with
  | zero => intro pp h s f w _ _ h; omega
  | succ m ih => exact canon_step ih
theorem pcanon_any (pp h : Nat) (s : PSt) (f : Nat) (w : World) (hP : PoolAt w pp h s) (hf : f < s.D.length) (hroom : s.D.length + miss (f + 1) s.cn ≤ 900000) : Calls Tryz.prog 104 #[.pointer (some ⟨pp, 0, none⟩), .int .i64 (f : Int)] w (PCanonPost pp h s f w) :=
  pcanonOk (f + 1) pp h s f w hP hf (by omega) hroom
end
end Go.Proofs.YteknjeohbcgpdaaGreatDoor
