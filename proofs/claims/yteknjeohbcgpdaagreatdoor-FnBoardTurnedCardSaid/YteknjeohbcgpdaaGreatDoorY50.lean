/-
  The solver's own memory: the two lists, the block that holds them. (2 texts.)
-/
import Derived.Test.YteknjeohbcgpdaaGreatDoorY43
import Derived.Test.YteknjeohbcgpdaaGreatDoorY49
set_option maxRecDepth 100000
namespace Go.Proofs.YteknjeohbcgpdaaGreatDoor
section
open Go.RowKit
open Cgt (Dag Nd vl Gm Canon Eqv)

structure Sv where
  fn : FuncId
  T : Nat → Gm → ByteArray → Prop
  U : List ByteArray
  G : World → Prop

def Covers (V : Sv) (n : Nat) (opts : List Gm) (ss : List ByteArray) : Prop :=
  (∀ j (h : j < ss.length), ∃ m x, m < n ∧ x ∈ opts ∧ V.T m x ss[j]) ∧ ∀ x, x ∈ opts → ∃ j, ∃ (h : j < ss.length), ∃ m, V.T m x ss[j]
def side (g : Gm) (left : Bool) : List Gm := if left then g.l else g.r
def MovesPost (V : Sv) (n : Nat) (g : Gm) (left : Bool) (w : World) (e : Ending) (w' : World) : Prop :=
  ∃ (v : Value) (ss : List ByteArray), e = .returned v ∧ w'.ownsRow w.heap.size 9 1 v ss.length (ss.map Value.string) ∧ ss.length ≤ 1000 ∧ Covers V n (side g left) ss ∧ Ext w w'

structure Sv.Ok (V : Sv) : Prop where
  room : V.U.length ≤ 400000
  mem : ∀ {n g sb}, V.T n g sb → sb ∈ V.U
  one : ∀ {n g sb n' g'}, V.T n g sb → V.T n' g' sb → n = n' ∧ Eqv g g'
  size : ∀ {n g sb}, V.T n g sb → sb.size ≤ maxLen
  gext : ∀ {w w'}, V.G w → Ext w w' → V.G w'
  ent : ∀ (args : Array Value) (w : World), (callFunc V.fn args).run Tryz.prog w = .ok (.enter V.fn args) w
  moves : ∀ {n g sb} left w, V.T n g sb → V.G w → Calls Tryz.prog V.fn #[.string sb, .bool left] w (MovesPost V n g left w)

def kc (V : Sv) (fk : Value → Option Value) : Nat := V.U.countP fun sb => (fk (.string sb)).isSome
theorem kc_le {V : Sv} (h : V.Ok) (fk : Value → Option Value) : kc V fk ≤ 400000 := Nat.le_trans List.countP_le_length h.room
theorem countP_less {α : Type} {p q : α → Bool} {l : List α} (h : ∀ x, p x = true → q x = true) {a : α} (ha : a ∈ l) (hp : p a = false) (hq : q a = true) : l.countP p + 1 ≤ l.countP q := by
  induction l with
  | nil => cases ha
  | cons b l ih =>
    rw [List.countP_cons, List.countP_cons]
    have hm : l.countP p ≤ l.countP q := List.countP_mono_left fun x _ k => h x k
    rcases List.mem_cons.1 ha with e | e
    · subst e; rw [hp, hq]; simp; omega
    · have := ih e
      have hb := h b
      cases c : p b <;> cases d : q b <;> simp_all <;> omega
theorem kc_new {V : Sv} {fk : Value → Option Value} {sb : ByteArray} {v : Value} (hm : sb ∈ V.U) (hn : fk (.string sb) = none) : kc V fk + 1 ≤ kc V (upd (fun _ _ => Classical.propDecidable _) fk (.string sb) v) := by
  refine countP_less (fun x hx => ?_) hm (by rw [hn]; rfl) (by rw [upd_same]; rfl)
  by_cases c : Value.string x = .string sb
  · rw [c, upd_same]; rfl
  · rw [upd_ne c]; exact hx

def KnownOk (V : Sv) (D : Dag) (fk : Value → Option Value) : Prop := ∀ key v, fk key = some v → ∃ n g sb i, key = .string sb ∧ V.T n g sb ∧ v = .int .i64 ((i : Nat) : Int) ∧ i < D.length ∧ Canon (vl D i) ∧ Eqv (vl D i) g

def NewK (V : Sv) (n : Nat) (fk fk' : Value → Option Value) : Prop := ∀ key, (fk' key).isSome → (fk key).isSome ∨ ∃ m g sb, key = .string sb ∧ V.T m g sb ∧ m < n
theorem NewK.refl (V : Sv) (n : Nat) (fk : Value → Option Value) : NewK V n fk fk := fun _ h => .inl h
theorem NewK.trans {V : Sv} {n m : Nat} {a b c : Value → Option Value} (h : NewK V n a b) (k : NewK V m b c) (hm : m ≤ n) : NewK V n a c := fun key hk => by
  rcases k key hk with e | ⟨q, g, sb, e1, e2, e3⟩
  · exact h key e
  · exact .inr ⟨q, g, sb, e1, e2, by omega⟩
theorem NewK.none {V : Sv} (hV : V.Ok) {n : Nat} {a b : Value → Option Value} (h : NewK V n a b) {g : Gm} {sb : ByteArray} (hT : V.T n g sb) (ha : a (.string sb) = none) : b (.string sb) = none := by
  cases e : b (.string sb) with
  | none => rfl
  | some v =>
    rcases h _ (by rw [e]; rfl) with k | ⟨q, g', sb', e1, e2, e3⟩
    · rw [ha] at k; cases k
    · injection e1 with e1; subst e1
      have := (hV.one hT e2).1; omega

structure KAt (V : Sv) (q : Nat) (w0 w : World) (pp h kb : Nat) (s : PSt) (fk : Value → Option Value) : Prop where
  pool : PoolAt w pp h s
  all : ∀ x, x < s.D.length → (s.cn x).isSome
  kn : MapIs Tryz.prog 9 w kb (kc V fk) fk
  known : KnownOk V s.D fk
  small : s.D.length ≤ 2 * kc V fk + q
  kb1 : ¬ POwn pp h s kb
  kb2 : ¬ s.S kb
  kb0 : w0.heap.size ≤ kb
  base : ∀ b, POwn pp h s b → w0.heap.size ≤ b
  ext : Ext w0 w

structure GGo (pp h kb : Nat) (s : PSt) (w : World) (s' : PSt) (w' : World) : Prop where
  keep : Keep (fun b => POwn pp h s b ∨ b = kb) w w'
  own : ∀ b, POwn pp h s' b → POwn pp h s b ∨ w.heap.size ≤ b
  lists : ∀ b, s'.S b → s.S b ∨ w.heap.size ≤ b
  more : ∃ E, s'.D = s.D ++ E

theorem GGo.ext {pp h kb : Nat} {s : PSt} {w w' : World} (hx : Ext w w') : GGo pp h kb s w s w' := ⟨keep_ext hx, fun _ h => .inl h, fun _ h => .inl h, ⟨[], by simp⟩⟩
theorem GGo.trans {pp h kb : Nat} {s1 s2 s3 : PSt} {w1 w2 w3 : World} (k : GGo pp h kb s1 w1 s2 w2) (m : GGo pp h kb s2 w2 s3 w3) (hk : kb < w1.heap.size) : GGo pp h kb s1 w1 s3 w3 := by
  have hz := k.keep.size
  refine ⟨k.keep.trans m.keep (fun x hx hi => ?_), fun x hx => ?_, fun x hx => ?_, ?_⟩
  · rcases hi with h | h
    · rcases k.own x h with h | h
      · exact .inl h
      · omega
    · exact .inr h
  · rcases m.own x hx with h1 | h1
    · exact k.own x h1
    · exact .inr (by omega)
  · rcases m.lists x hx with h1 | h1
    · exact k.lists x h1
    · exact .inr (by omega)
  · obtain ⟨E, e⟩ := k.more
    obtain ⟨F, f⟩ := m.more
    exact ⟨E ++ F, by rw [f, e, List.append_assoc]⟩
theorem GGo.pool {pp h kb : Nat} {s s' : PSt} {w w' : World} (k : PGo pp h s w s' w') : GGo pp h kb s w s' w' :=
  ⟨⟨k.keep.os, k.keep.tape, k.keep.output, k.keep.size, fun b hb hn => k.keep.block b hb (fun h => hn (.inl h))⟩, k.own, k.lists, k.more⟩
theorem GGo.len {pp h kb : Nat} {s s' : PSt} {w w' : World} (k : GGo pp h kb s w s' w') : s.D.length ≤ s'.D.length := by
  obtain ⟨E, e⟩ := k.more; rw [e, List.length_append]; omega

def Aside (pp h kb : Nat) (s : PSt) (w : World) (b : Nat) : Prop := b < w.heap.size ∧ ¬ POwn pp h s b ∧ ¬ s.S b ∧ b ≠ kb
theorem Aside.go {pp h kb : Nat} {s s' : PSt} {w w' : World} {b : Nat} (a : Aside pp h kb s w b) (k : GGo pp h kb s w s' w') : Aside pp h kb s' w' b ∧ w'.heap[b]? = w.heap[b]? := by
  have hz := k.keep.size
  obtain ⟨a1, a2, a3, a4⟩ := a
  refine ⟨⟨by omega, fun h1 => ?_, fun h1 => ?_, a4⟩, k.keep.block b a1 (fun h1 => ?_)⟩
  · rcases k.own b h1 with h | h
    · exact a2 h
    · omega
  · rcases k.lists b h1 with h | h
    · exact a3 h
    · omega
  · rcases h1 with h | h
    · exact a2 h
    · exact a4 h
theorem KAt.aside {V : Sv} {q : Nat} {w0 w w' : World} {pp h kb : Nat} {s : PSt} {fk : Value → Option Value} (k : KAt V q w0 w pp h kb s fk) {b : Nat} (h1 : w.heap.size ≤ b) (h2 : b < w'.heap.size) : Aside pp h kb s w' b := by
  have hM := k.kn
  refine ⟨h2, fun h => ?_, fun h => ?_, fun h => ?_⟩
  · have := k.pool.ownLt h; omega
  · have := k.pool.listLt h; omega
  · have := hM.lt; omega
theorem KAt.ext' {V : Sv} {q : Nat} {w0 w w' : World} {pp h kb : Nat} {s : PSt} {fk : Value → Option Value} (k : KAt V q w0 w pp h kb s fk) (hx : Ext w w') : KAt V q w0 w' pp h kb s fk :=
  ⟨k.pool.ext hx, k.all, k.kn.keep (hx.block _ k.kn.lt), k.known, k.small, k.kb1, k.kb2, k.kb0, k.base, ext_trans k.ext hx⟩

theorem KAt.side {V : Sv} {q : Nat} {w0 w w' : World} {pp h kb : Nat} {s : PSt} {fk : Value → Option Value} {G : Nat → Prop} (k : KAt V q w0 w pp h kb s fk) (hk : Keep G w w') (hG : ∀ b, G b → Aside pp h kb s w b) (hb : ∀ b, G b → w0.heap.size ≤ b) : KAt V q w0 w' pp h kb s fk :=
  ⟨k.pool.keep hk (fun b h1 h2 => (hG b h2).2.1 h1) (fun b h1 h2 => (hG b h2).2.2.1 h1), k.all, k.kn.keep (hk.block _ k.kn.lt (fun h => (hG _ h).2.2.2 rfl)), k.known, k.small, k.kb1, k.kb2, k.kb0, k.base, ext_keep k.ext hk hb⟩

theorem KnownOk.more {V : Sv} {D E : Dag} {fk : Value → Option Value} (h : KnownOk V D fk) (g : Cgt.WF D) (g' : Cgt.WF (D ++ E)) : KnownOk V (D ++ E) fk := by
  intro key v hv
  obtain ⟨n, x, sb, i, h1, h2, h3, h4, h5, h6⟩ := h key v hv
  refine ⟨n, x, sb, i, h1, h2, h3, by rw [List.length_append]; omega, ?_, ?_⟩
  · rw [Cgt.vl_append g g' i h4]; exact h5
  · rw [Cgt.vl_append g g' i h4]; exact h6
theorem KnownOk.add {V : Sv} {D : Dag} {fk : Value → Option Value} (h : KnownOk V D fk) {n : Nat} {x : Gm} {sb : ByteArray} {i : Nat} (ht : V.T n x sb) (hi : i < D.length) (hc : Canon (vl D i)) (he : Eqv (vl D i) x) : KnownOk V D (upd (fun _ _ => Classical.propDecidable _) fk (.string sb) (.int .i64 ((i : Nat) : Int))) := by
  intro key v hv
  rcases upd_old hv with ⟨rfl, rfl⟩ | hv
  · exact ⟨n, x, sb, i, rfl, ht, rfl, hi, hc, he⟩
  · exact h key v hv

def Kid (V : Sv) (D : Dag) (ss : List ByteArray) (l : List Nat) : Prop := ∀ j (h : j < l.length), ∃ sb, ss[j]? = some sb ∧ l[j] < D.length ∧ ∀ m x, V.T m x sb → Eqv (vl D l[j]) x
theorem Kid.nil (V : Sv) (D : Dag) (ss : List ByteArray) : Kid V D ss [] := fun j h => absurd h (by simp)
theorem Kid.more {V : Sv} {D E : Dag} {ss : List ByteArray} {l : List Nat} (h : Kid V D ss l) (g : Cgt.WF D) (g' : Cgt.WF (D ++ E)) : Kid V (D ++ E) ss l := fun j hj => by
  obtain ⟨e, h1, h2, h3⟩ := h j hj
  exact ⟨e, h1, by rw [List.length_append]; omega, fun m x hT => by rw [Cgt.vl_append g g' _ h2]; exact h3 m x hT⟩
theorem Kid.add {V : Sv} (hV : V.Ok) {D : Dag} {ss : List ByteArray} {l : List Nat} (h : Kid V D ss l) {sb : ByteArray} {i n : Nat} {x : Gm} (he : ss[l.length]? = some sb) (hT : V.T n x sb) (hi : i < D.length) (hv : Eqv (vl D i) x) : Kid V D ss (l ++ [i]) := fun j hj => by
  by_cases c : j < l.length
  · rw [List.getElem_append_left c]; exact h j c
  · have hj' : j = l.length := by simp at hj; omega
    subst hj'
    simp only [List.getElem_append_right (Nat.le_refl _), Nat.sub_self, List.getElem_cons_zero]
    exact ⟨sb, he, hi, fun m y hy => hv.trans (hV.one hT hy).2⟩
theorem Kid.lt {V : Sv} {D : Dag} {ss : List ByteArray} {l : List Nat} (h : Kid V D ss l) : ∀ x, x ∈ l → x < D.length := fun x hx => by
  obtain ⟨j, hj, rfl⟩ := List.mem_iff_getElem.1 hx
  obtain ⟨e, _, h2, _⟩ := h j hj; exact h2

def Side (V : Sv) (D : Dag) (n : Nat) (opts : List Gm) (l : List Nat) : Prop := ∃ ss, Covers V n opts ss ∧ Kid V D ss l ∧ l.length = ss.length ∧ ss.length ≤ 1000
theorem Side.more {V : Sv} {D E : Dag} {n : Nat} {opts : List Gm} {l : List Nat} (h : Side V D n opts l) (g : Cgt.WF D) (g' : Cgt.WF (D ++ E)) : Side V (D ++ E) n opts l := by
  obtain ⟨ss, h1, h2, h3, h4⟩ := h; exact ⟨ss, h1, h2.more g g', h3, h4⟩
theorem Side.lt {V : Sv} {D : Dag} {n : Nat} {opts : List Gm} {l : List Nat} (h : Side V D n opts l) : (∀ x, x ∈ l → x < D.length) ∧ l.length ≤ 1000 := by
  obtain ⟨ss, h1, h2, h3, h4⟩ := h; exact ⟨h2.lt, by omega⟩
theorem side_node {V : Sv} {D D' : Dag} {n : Nat} {g : Gm} {l r : List Nat} {i : Nat} (hw : Cgt.WF D) (hw' : Cgt.WF D') (hl : Side V D n g.l l) (hr : Side V D n g.r r) (p : PutRel D l r D' i) : Eqv (vl D' i) g := by
  obtain ⟨p1, p2⟩ := p
  have hE : ∃ E, D' = D ++ E := by
    rcases p2 with e | e
    · exact ⟨[], by rw [e]; simp⟩
    · exact ⟨_, e⟩
  obtain ⟨E, rfl⟩ := hE
  have hl := hl.more hw hw'
  have hr := hr.more hw hw'
  have e : g = .mk g.l g.r := by cases g; rfl
  rw [Cgt.vl_mk hw' p1, e]
  have key : ∀ {opts : List Gm} {q : List Nat}, Side V (D ++ E) n opts q → (∀ x, x ∈ (sortN q).map (vl (D ++ E)) → ∃ y, y ∈ opts ∧ Eqv x y) ∧ (∀ y, y ∈ opts → ∃ x, x ∈ (sortN q).map (vl (D ++ E)) ∧ Eqv x y) := by
    rintro opts q ⟨ss, hc, hk, hn, -⟩
    refine ⟨fun x hx => ?_, fun y hy => ?_⟩
    · obtain ⟨a, ha, rfl⟩ := List.mem_map.1 hx
      obtain ⟨j, hj, rfl⟩ := List.mem_iff_getElem.1 (sortN_mem.1 ha)
      obtain ⟨sb, h1, h2, h3⟩ := hk j hj
      obtain ⟨m, x, _, hx, hT⟩ := hc.1 j (by omega)
      rw [List.getElem?_eq_getElem (by omega)] at h1
      injection h1 with h1
      exact ⟨x, hx, h3 m x (by rw [← h1]; exact hT)⟩
    · obtain ⟨j, hj, m, hT⟩ := hc.2 y hy
      obtain ⟨sb, h1, h2, h3⟩ := hk j (by omega)
      rw [List.getElem?_eq_getElem hj] at h1
      injection h1 with h1
      exact ⟨_, List.mem_map.2 ⟨_, sortN_mem.2 (List.getElem_mem (by omega)), rfl⟩, h3 m y (by rw [← h1]; exact hT)⟩
  exact mk_eqv (key hl).1 (key hl).2 (key hr).1 (key hr).2

theorem miss_one {N f : Nat} {cn : Nat → Option Nat} (h : ∀ x, x < N → x ≠ f → (cn x).isSome) : miss N cn ≤ 1 := by
  unfold miss
  have key : ∀ l : List Nat, l.Nodup → (∀ x, x ∈ l → x < N) → (l.filter fun x => (cn x).isNone).length ≤ 1 := by
    intro l hn hl
    have hs : ∀ x, x ∈ l.filter (fun x => (cn x).isNone) → x = f := fun x hx => by
      obtain ⟨h1, h2⟩ := List.mem_filter.1 hx
      by_cases c : x = f
      · exact c
      · have := h x (hl x h1) c
        cases e : cn x with
        | none => rw [e] at this; cases this
        | some j => simp [e] at h2
    have hd : (l.filter fun x => (cn x).isNone).Nodup := hn.sublist List.filter_sublist
    match hq : l.filter (fun x => (cn x).isNone) with
    | [] => simp
    | [a] => simp
    | a :: b :: t =>
      rw [hq] at hs hd
      have h1 := hs a (by simp)
      have h2 := hs b (by simp)
      rw [h1, h2] at hd
      simp at hd
  exact key _ List.nodup_range (fun x hx => List.mem_range.1 hx)

theorem step_done {V : Sv} {w0 w w1 w2 : World} {pp h kb : Nat} {fk : Value → Option Value} {s s1 s2 : PSt} {l r : List Nat} {f j : Nat} (K : KAt V 0 w0 w pp h kb s fk) (k1 : PGo pp h s w s1 w1) (p : PutRel s.D l r s1.D f) (hc : s1.cn = s.cn) (k2 : PGo pp h s1 w1 s2 w2) (hj : s2.cn f = some j) (G : Grow s1 f s2) :
    KAt V 2 w0 w2 pp h kb s2 fk ∧ GGo pp h kb s w s2 w2 ∧ s2.D.length ≤ s.D.length + 2 ∧ j < s2.D.length ∧ Canon (vl s2.D j) ∧ Eqv (vl s2.D j) (vl s1.D f) := by
  have k := k1.trans k2
  have hl1 : s1.D.length ≤ s.D.length + 1 := by
    rcases p.2 with e | e
    · rw [e]; omega
    · rw [e]; simp
  have hf : f < s1.D.length := by
    rcases Nat.lt_or_ge f s1.D.length with h | h
    · exact h
    · have := p.1; rw [List.getElem?_eq_none h] at this; cases this
  have hk1 : ∀ x, x < s1.D.length → x ≠ f → (s1.cn x).isSome := by
    intro x hx hxf
    rw [hc]
    by_cases c : x < s.D.length
    · exact K.all x c
    · exfalso
      rcases p.2 with e | e
      · rw [e] at hx; omega
      · have hxe : x = s.D.length := by rw [e] at hx; simp at hx; omega
        have h1 : s1.D[x]? = some (sortN l, sortN r) := by rw [e, hxe, List.getElem?_append_right (Nat.le_refl _)]; simp
        exact hxf ((List.getElem?_inj hx k1.pool.good.nodup).1 (h1.trans p.1.symm))
  have hm := miss_one hk1
  have hg := G.1 s1.D.length hf (Nat.le_refl _)
  obtain ⟨c1, c2, -⟩ := k2.pool.cnok.ok f j hj
  have hjl := (k2.pool.cnok.lt f j hj).2
  have hM := K.kn
  have hO := K.known
  have hs0 := K.small
  have hkl := hM.lt
  obtain ⟨E, hE⟩ := k.more
  have hw2 := k.pool.good.wf
  have hO2 : KnownOk V s2.D fk := by rw [hE] at hw2 ⊢; exact hO.more K.pool.good.wf hw2
  refine ⟨⟨k.pool, fun x hx => ?_, hM.keep (k.keep.block _ hkl K.kb1), hO2, by omega, fun h1 => ?_, fun h1 => ?_, K.kb0, fun b hb => ?_, ext_keep K.ext k.keep K.base⟩, GGo.pool k, by omega, hjl, c1, ?_⟩
  · by_cases c : x < s1.D.length
    · by_cases e : x = f
      · rw [e, hj]; rfl
      · have := hk1 x c e
        cases e2 : s1.cn x with
        | none => rw [e2] at this; cases this
        | some y => rw [k2.known x y e2]; rfl
    · exact G.2.2 x (by omega) hx
  · rcases k.own kb h1 with h | h
    · exact K.kb1 h
    · omega
  · rcases k.lists kb h1 with h | h
    · exact K.kb2 h
    · omega
  · rcases k.own b hb with h | h
    · exact K.base b h
    · have := K.ext.size; omega
  · rw [k2.vl k1.pool.good.wf hf] at c2; exact c2

theorem KAt.learn {V : Sv} (hV : V.Ok) {w0 w w' : World} {pp h kb n i : Nat} {s : PSt} {fk : Value → Option Value} {g : Gm} {sb : ByteArray} (k : KAt V 2 w0 w pp h kb s fk)
    (hM : MapIs Tryz.prog 9 w' kb (kc V fk + 1) (upd (fun _ _ => Classical.propDecidable _) fk (.string sb) (.int .i64 ((i : Nat) : Int)))) (hg : w.grownBy w' (some kb))
    (hT : V.T n g sb) (hn : fk (.string sb) = none) (hi : i < s.D.length) (hc : Canon (vl s.D i)) (he : Eqv (vl s.D i) g) : KAt V 0 w0 w' pp h kb s (upd (fun _ _ => Classical.propDecidable _) fk (.string sb) (.int .i64 ((i : Nat) : Int))) := by
  have hk := keep_grown hg
  have hq := kc_new (v := .int .i64 ((i : Nat) : Int)) (hV.mem hT) hn
  have hs := k.small
  exact ⟨k.pool.keep hk (fun b h1 h2 => k.kb1 (by subst h2; exact h1)) (fun b h1 h2 => k.kb2 (by subst h2; exact h1)), k.all, hM.mono hq, k.known.add hT hi hc he, by omega, k.kb1, k.kb2, k.kb0, k.base, ext_keep k.ext hk (fun b hb => by subst hb; exact k.kb0)⟩
theorem GGo.learn {pp h kb : Nat} {s s1 : PSt} {w w1 w3 : World} (k : GGo pp h kb s w s1 w1) (hg : w1.grownBy w3 (some kb)) : GGo pp h kb s w s1 w3 :=
  ⟨k.keep.trans (keep_grown hg) (fun x _ hx => .inr hx), k.own, k.lists, k.more⟩
theorem NewK.learn {V : Sv} {n : Nat} {fk fk' : Value → Option Value} (h : NewK V n fk fk') {g : Gm} {sb : ByteArray} {v : Value} (hT : V.T n g sb) : NewK V (n + 1) fk (upd (fun _ _ => Classical.propDecidable _) fk' (.string sb) v) := fun key hk => by
  by_cases c : key = .string sb
  · exact .inr ⟨n, g, sb, c, hT, by omega⟩
  · rw [upd_ne c] at hk
    rcases h key hk with e | ⟨q, x, sb', e1, e2, e3⟩
    · exact .inl e
    · exact .inr ⟨q, x, sb', e1, e2, by omega⟩
end
section
open Go.RowKit
open Cgt (Dag Nd vl Gm Canon Eqv)

theorem GGo.side {pp h kb : Nat} {s s1 : PSt} {w w1 w3 : World} {G : Nat → Prop} (k : GGo pp h kb s w s1 w1) (hk : Keep G w1 w3) (hG : ∀ b, G b → w.heap.size ≤ b) : GGo pp h kb s w s1 w3 :=
  ⟨k.keep.trans (G := G) (F := fun b => POwn pp h s b ∨ b = kb) hk (fun x hx hg => by have := hG x hg; omega), k.own, k.lists, k.more⟩

structure GM (w wr : World) (pp h kb : Nat) (s : PSt) (ab : Nat) (v0 v1 : Value) (l0 l1 : List Nat) (X : Nat → Prop) : Prop where
  arr : wr.heap[ab]? = some (.cells #[v0, v1] 177 (0, 0))
  r0 : wr.ownsRow w.heap.size 3 1 v0 l0.length ((toZ l0).map (Value.int .i64))
  r1 : wr.ownsRow w.heap.size 3 1 v1 l1.length ((toZ l1).map (Value.int .i64))
  a0 : ∀ b, v0.ownBlock = some b → Aside pp h kb s wr b ∧ b ≠ ab
  a1 : ∀ b, v1.ownBlock = some b → Aside pp h kb s wr b ∧ b ≠ ab
  a01 : ∀ b, v0.ownBlock = some b → v1.ownBlock ≠ some b
  aab : Aside pp h kb s wr ab
  abw : w.heap.size ≤ ab
  prot : ∀ b, X b → Aside pp h kb s wr b ∧ v0.ownBlock ≠ some b ∧ v1.ownBlock ≠ some b ∧ b ≠ ab

section
variable {V : Sv} {q : Nat} {w0 w wr w2 w3 wa : World} {pp h kb ab : Nat} {s s' : PSt} {fk : Value → Option Value} {v0 v1 v' : Value} {l0 l1 : List Nat} {X Y : Nat → Prop}
theorem GM.go (g : GM w wr pp h kb s ab v0 v1 l0 l1 X) (k : GGo pp h kb s wr s' w2) : GM w w2 pp h kb s' ab v0 v1 l0 l1 X ∧ (∀ b, X b → w2.heap[b]? = wr.heap[b]?) := by
  have hG : ∀ b, Aside pp h kb s wr b → ¬ (POwn pp h s b ∨ b = kb) := fun b a h1 => by
    rcases h1 with h1 | h1
    · exact a.2.1 h1
    · exact a.2.2.2 h1
  refine ⟨⟨((g.aab.go k).2).trans g.arr, own_keepG g.r0 k.keep (fun b hb => hG b (g.a0 b hb).1), own_keepG g.r1 k.keep (fun b hb => hG b (g.a1 b hb).1), fun b hb => ⟨((g.a0 b hb).1.go k).1, (g.a0 b hb).2⟩, fun b hb => ⟨((g.a1 b hb).1.go k).1, (g.a1 b hb).2⟩, g.a01, (g.aab.go k).1, g.abw, fun b hb => ⟨((g.prot b hb).1.go k).1, (g.prot b hb).2⟩⟩, fun b hb => ((g.prot b hb).1.go k).2⟩
theorem GM.mono (g : GM w wr pp h kb s ab v0 v1 l0 l1 X) (hX : ∀ b, Y b → X b) : GM w wr pp h kb s ab v0 v1 l0 l1 Y :=
  ⟨g.arr, g.r0, g.r1, g.a0, g.a1, g.a01, g.aab, g.abw, fun b hb => g.prot b (hX b hb)⟩

theorem GM.addX (g : GM w wr pp h kb s ab v0 v1 l0 l1 X) (K : KAt V q w0 wr pp h kb s fk) (hx : Ext wr w2) (hY : ∀ b, Y b → X b ∨ (wr.heap.size ≤ b ∧ b < w2.heap.size)) : GM w w2 pp h kb s ab v0 v1 l0 l1 Y := by
  obtain ⟨g2, -⟩ := g.go (GGo.ext hx)
  refine ⟨g2.arr, g2.r0, g2.r1, g2.a0, g2.a1, g2.a01, g2.aab, g2.abw, fun b hb => ?_⟩
  rcases hY b hb with h1 | ⟨h1, h2⟩
  · exact g2.prot b h1
  · refine ⟨K.aside h1 h2, fun e => ?_, fun e => ?_, fun e => ?_⟩
    · have := (g.a0 b e).1.1; omega
    · have := (g.a1 b e).1.1; omega
    · have := g.aab.1; omega

theorem GM.put0 (g : GM w wr pp h kb s ab v0 v1 l0 l1 X) (hx : Ext wr wa) (hz : wr.heap.size ≤ wa.heap.size) (K : KAt V q w0 wr pp h kb s fk) (hg : wa.grownBy w2 v0.ownBlock) {i n : Nat} {ys : List Value} (ho : w2.ownsRow w.heap.size 3 1 v' n ys) (hn : n = (l0 ++ [i]).length) (hy : ys = (toZ (l0 ++ [i])).map (Value.int .i64)) (hl : Lies wa v0 v') :
    GM w (w2.setCell ⟨ab, 0, none⟩ v') pp h kb s ab v' v1 (l0 ++ [i]) l1 X ∧ Keep (fun b => v0.ownBlock = some b ∨ b = ab) wr (w2.setCell ⟨ab, 0, none⟩ v') ∧ (∀ b, X b → (w2.setCell ⟨ab, 0, none⟩ v').heap[b]? = wr.heap[b]?) ∧ w2.cell? ⟨ab, 0, none⟩ = some v0 ∧ w2.frozen? ⟨ab, 0, none⟩ = false := by
  have hkg := keep_grownO hg
  have hk1 : Keep (fun b => v0.ownBlock = some b ∨ b = ab) wr w2 := (keep_ext hx).trans hkg (fun x _ h => .inl h)
  have hks : Keep (fun b => v0.ownBlock = some b ∨ b = ab) w2 (w2.setCell ⟨ab, 0, none⟩ v') := by
    have := keep_set (w := w2) (p := ⟨ab, 0, none⟩) (v := v')
    exact ⟨this.os, this.tape, this.output, this.size, fun b hb hn => this.block b hb (fun h => hn (.inr h))⟩
  have hk := hk1.trans hks (fun x _ h => h)
  have hxz := hkg.size
  have hab := g.aab.1
  have harr : w2.heap[ab]? = some (.cells #[v0, v1] 177 (0, 0)) := (hkg.block ab (by omega) (fun e => (g.a0 ab e).2 rfl)).trans ((hx.block ab hab).trans g.arr)
  have hL : ∀ b, v'.ownBlock = some b → v0.ownBlock = some b ∨ wr.heap.size ≤ b := fun b hb => by
    rcases hl with e | ⟨c, e, k⟩
    · exact .inl (e ▸ hb)
    · rw [e] at hb; injection hb with hb; exact .inr (by omega)
  have hup : ∀ b, Aside pp h kb s wr b → Aside pp h kb s (w2.setCell ⟨ab, 0, none⟩ v') b := fun b a => ⟨Nat.lt_of_lt_of_le a.1 hk.size, a.2⟩
  have hv' : ∀ b, v'.ownBlock = some b → Aside pp h kb s (w2.setCell ⟨ab, 0, none⟩ v') b ∧ b ≠ ab := fun b hb => by
    rcases hL b hb with e | e
    · exact ⟨hup b (g.a0 b e).1, (g.a0 b e).2⟩
    · exact ⟨K.aside e (Nat.lt_of_lt_of_le (ho.lt b hb).2 hks.size), by omega⟩
  subst hn hy
  have hNoab : ∀ b, v'.ownBlock = some b → ¬ b = ab := fun b hb => (hv' b hb).2
  refine ⟨⟨?_, own_keepG ho (keep_set (p := ⟨ab, 0, none⟩)) hNoab, own_keepG g.r1 hk (fun b hb e => ?_), hv', fun b hb => ⟨hup b (g.a1 b hb).1, (g.a1 b hb).2⟩, fun b hb e => ?_, hup ab g.aab, g.abw, fun b hb => ⟨hup b (g.prot b hb).1, fun e => ?_, (g.prot b hb).2.2⟩⟩, hk, fun b hb => hk.block b (g.prot b hb).1.1 (fun e => ?_), cell_of_row w2 ab 0 _ _ _ harr, frozen_of_row w2 ab 0 _ _ harr⟩
  · have := heap_setCell_same w2 ab 0 _ _ v' harr; exact this
  · rcases e with e | e
    · exact g.a01 b e hb
    · exact (g.a1 b hb).2 e
  · rcases hL b hb with h1 | h1
    · exact g.a01 b h1 e
    · have := (g.a1 b e).1.1; omega
  · rcases hL b e with h1 | h1
    · exact (g.prot b hb).2.1 h1
    · have := (g.prot b hb).1.1; omega
  · rcases e with e | e
    · exact (g.prot b hb).2.1 e
    · exact (g.prot b hb).2.2.2 e
theorem GM.put1 (g : GM w wr pp h kb s ab v0 v1 l0 l1 X) (hx : Ext wr wa) (hz : wr.heap.size ≤ wa.heap.size) (K : KAt V q w0 wr pp h kb s fk) (hg : wa.grownBy w2 v1.ownBlock) {i n : Nat} {ys : List Value} (ho : w2.ownsRow w.heap.size 3 1 v' n ys) (hn : n = (l1 ++ [i]).length) (hy : ys = (toZ (l1 ++ [i])).map (Value.int .i64)) (hl : Lies wa v1 v') :
    GM w (w2.setCell ⟨ab, 1, none⟩ v') pp h kb s ab v0 v' l0 (l1 ++ [i]) X ∧ Keep (fun b => v1.ownBlock = some b ∨ b = ab) wr (w2.setCell ⟨ab, 1, none⟩ v') ∧ (∀ b, X b → (w2.setCell ⟨ab, 1, none⟩ v').heap[b]? = wr.heap[b]?) ∧ w2.cell? ⟨ab, 1, none⟩ = some v1 ∧ w2.frozen? ⟨ab, 1, none⟩ = false := by
  have hkg := keep_grownO hg
  have hk1 : Keep (fun b => v1.ownBlock = some b ∨ b = ab) wr w2 := (keep_ext hx).trans hkg (fun x _ h => .inl h)
  have hks : Keep (fun b => v1.ownBlock = some b ∨ b = ab) w2 (w2.setCell ⟨ab, 1, none⟩ v') := by
    have := keep_set (w := w2) (p := ⟨ab, 1, none⟩) (v := v')
    exact ⟨this.os, this.tape, this.output, this.size, fun b hb hn => this.block b hb (fun h => hn (.inr h))⟩
  have hk := hk1.trans hks (fun x _ h => h)
  have hxz := hkg.size
  have hab := g.aab.1
  have harr : w2.heap[ab]? = some (.cells #[v0, v1] 177 (0, 0)) := (hkg.block ab (by omega) (fun e => (g.a1 ab e).2 rfl)).trans ((hx.block ab hab).trans g.arr)
  have hL : ∀ b, v'.ownBlock = some b → v1.ownBlock = some b ∨ wr.heap.size ≤ b := fun b hb => by
    rcases hl with e | ⟨c, e, k⟩
    · exact .inl (e ▸ hb)
    · rw [e] at hb; injection hb with hb; exact .inr (by omega)
  have hup : ∀ b, Aside pp h kb s wr b → Aside pp h kb s (w2.setCell ⟨ab, 1, none⟩ v') b := fun b a => ⟨Nat.lt_of_lt_of_le a.1 hk.size, a.2⟩
  have hv' : ∀ b, v'.ownBlock = some b → Aside pp h kb s (w2.setCell ⟨ab, 1, none⟩ v') b ∧ b ≠ ab := fun b hb => by
    rcases hL b hb with e | e
    · exact ⟨hup b (g.a1 b e).1, (g.a1 b e).2⟩
    · exact ⟨K.aside e (Nat.lt_of_lt_of_le (ho.lt b hb).2 hks.size), by omega⟩
  subst hn hy
  have hNoab : ∀ b, v'.ownBlock = some b → ¬ b = ab := fun b hb => (hv' b hb).2
  refine ⟨⟨?_, own_keepG g.r0 hk (fun b hb e => ?_), own_keepG ho (keep_set (p := ⟨ab, 1, none⟩)) hNoab, fun b hb => ⟨hup b (g.a0 b hb).1, (g.a0 b hb).2⟩, hv', fun b hb e => ?_, hup ab g.aab, g.abw, fun b hb => ⟨hup b (g.prot b hb).1, (g.prot b hb).2.1, fun e => ?_, (g.prot b hb).2.2.2⟩⟩, hk, fun b hb => hk.block b (g.prot b hb).1.1 (fun e => ?_), cell_of_row w2 ab 1 _ _ _ harr, frozen_of_row w2 ab 1 _ _ harr⟩
  · have := heap_setCell_same w2 ab 1 _ _ v' harr; exact this
  · rcases e with e | e
    · exact g.a01 b hb e
    · exact (g.a0 b hb).2 e
  · rcases hL b e with h1 | h1
    · exact g.a01 b hb h1
    · have := (g.a0 b hb).1.1; omega
  · rcases hL b e with h1 | h1
    · exact (g.prot b hb).2.2.1 h1
    · have := (g.prot b hb).1.1; omega
  · rcases e with e | e
    · exact (g.prot b hb).2.2.1 e
    · exact (g.prot b hb).2.2.2 e
end
end
end Go.Proofs.YteknjeohbcgpdaaGreatDoor
