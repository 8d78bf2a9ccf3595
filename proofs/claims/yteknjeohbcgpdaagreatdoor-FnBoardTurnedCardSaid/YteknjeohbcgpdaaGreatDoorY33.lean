/-
  The program's pool with its map of negatives: what a call of neg leaves, its own two lists; no condition.
-/
import Derived.Test.YteknjeohbcgpdaaGreatDoorY8
import Derived.Test.YteknjeohbcgpdaaGreatDoorY22
import Derived.Test.YteknjeohbcgpdaaGreatDoorY29
import Derived.Test.YteknjeohbcgpdaaGreatDoorY32
set_option maxRecDepth 100000
namespace Go.Proofs.YteknjeohbcgpdaaGreatDoor
open Go.RowKit
open Cgt (Dag Nd Gm vl Same ng)

theorem Keep.up {F G : Nat → Prop} {a b : World} (h : Keep F a b) (k : ∀ x, F x → G x) : Keep G a b := ⟨h.os, h.tape, h.output, h.size, fun b hb hn => h.block b hb fun c => hn (k b c)⟩

def NMap (w : World) (h : Nat) (s : PSt) : Prop := ∃ n f, MapIs Tryz.prog 3 w (h + 1 + 1 + 1 + 1) n f ∧ ∀ k v, f k = some v → ∃ a j : Nat, k = .int .i64 (a : Int) ∧ v = .int .i64 (j : Int) ∧ a < s.D.length ∧ j < s.D.length ∧ Same (vl s.D j) (ng (vl s.D a))

def NegIn (N : Nat) (D : Dag) : Prop := ∀ i, N ≤ i → i < D.length → ∃ a, a < N ∧ Same (vl D i) (ng (vl D a))
structure NSt (w : World) (pp h N : Nat) (s : PSt) : Prop where
  pool : PoolAt w pp h s
  map : NMap w h s
  le : N ≤ s.D.length
  neg : NegIn N s.D
theorem NSt.small {w : World} {pp h N : Nat} {s : PSt} (k : NSt w pp h N s) : s.D.length ≤ 2 * N := by
  have g := k.pool.good
  have := card_le (n := s.D.length) (at_ := List.range (2 * N)) (R := fun i j => (i < N ∧ j = i) ∨ (N ≤ i ∧ N ≤ j ∧ Same (vl s.D i) (ng (vl s.D (j - N))))) (fun i hi => by
    rcases Nat.lt_or_ge i N with c | c
    · exact ⟨i, List.mem_range.2 (by omega), .inl ⟨c, rfl⟩⟩
    · obtain ⟨a, ha, hs⟩ := k.neg i c hi
      exact ⟨N + a, List.mem_range.2 (by omega), .inr ⟨c, by omega, by rw [Nat.add_sub_cancel_left]; exact hs⟩⟩) (fun i i' j hi hi' h1 h2 => by
    rcases h1 with ⟨a, b⟩ | ⟨a, b, c⟩ <;> rcases h2 with ⟨a', b'⟩ | ⟨a', b', c'⟩
    · omega
    · omega
    · omega
    · exact Cgt.same_idx g i i' hi hi' (Cgt.same_trans c (Cgt.same_symm c')))
  simpa using this

structure NGo (pp h : Nat) (s : PSt) (w : World) (s' : PSt) (w' : World) : Prop where
  pool : PoolAt w' pp h s'
  keep : Keep (fun b => POwn pp h s b ∨ b = h + 1 + 1 + 1 + 1) w w'
  own : ∀ b, POwn pp h s' b → POwn pp h s b ∨ w.heap.size ≤ b
  old : ∀ b, s.S b → s'.S b
  lists : ∀ b, s'.S b → s.S b ∨ w.heap.size ≤ b
  more : ∃ E, s'.D = s.D ++ E
theorem PGo.n {pp h : Nat} {s s' : PSt} {w w' : World} (k : PGo pp h s w s' w') : NGo pp h s w s' w' := ⟨k.pool, k.keep.up fun _ h => .inl h, k.own, k.old, k.lists, k.more⟩
theorem NGo.trans {w1 w2 w3 : World} {pp h : Nat} {s1 s2 s3 : PSt} (k : NGo pp h s1 w1 s2 w2) (m : NGo pp h s2 w2 s3 w3) : NGo pp h s1 w1 s3 w3 := by
  have hz := k.keep.size
  refine ⟨m.pool, k.keep.trans m.keep (fun x hx hi => by
    rcases hi with hi | hi
    · rcases k.own x hi with h | h
      · exact .inl h
      · omega
    · exact .inr hi), fun x hx => ?_, fun b hb => m.old b (k.old b hb), fun x hx => ?_, ?_⟩
  · rcases m.own x hx with h1 | h1
    · exact k.own x h1
    · exact .inr (by omega)
  · rcases m.lists x hx with h1 | h1
    · exact k.lists x h1
    · exact .inr (by omega)
  · obtain ⟨E, h1⟩ := k.more
    obtain ⟨E', h2⟩ := m.more
    exact ⟨E ++ E', by rw [h2, h1, List.append_assoc]⟩
theorem NGo.len {w w' : World} {pp h : Nat} {s s' : PSt} (k : NGo pp h s w s' w') : s.D.length ≤ s'.D.length := by obtain ⟨E, h⟩ := k.more; rw [h]; simp
theorem NGo.vl {w w' : World} {pp h : Nat} {s s' : PSt} (k : NGo pp h s w s' w') (hw : Cgt.WF s.D) {i : Nat} (hi : i < s.D.length) : vl s'.D i = vl s.D i := by
  obtain ⟨E, h⟩ := k.more
  have hg := k.pool.good.wf
  rw [h] at hg ⊢
  exact Cgt.vl_append hw hg i hi

theorem NGo.sup {w w' : World} {pp h : Nat} {s s0 s' : PSt} {A : World → Prop} (a : Sup s0.S A w) (k : NGo pp h s w s' w') (hP : PoolAt w pp h s) (ho : ∀ b, s0.S b → s.S b) : Sup s0.S A w' :=
  a.keep k.keep fun b hb => by
    rintro (c | c)
    · exact hP.ap5 b (ho b hb) c
    · have := hP.ap6 b (ho b hb); omega
theorem NMap.go {w w' : World} {pp h : Nat} {s s' : PSt} (m : NMap w h s) (hP : PoolAt w pp h s) (k : PGo pp h s w s' w') : NMap w' h s' := by
  obtain ⟨n, f, h1, h2⟩ := m
  have hnp : ¬ POwn pp h s (h + 1 + 1 + 1 + 1) := by
    rintro (c | c | c | c | c)
    · have := hP.ap1; omega
    · omega
    · have := (hP.ap2 _ (.inl c)).2; omega
    · have := (hP.ap2 _ (.inr (.inl c))).2; omega
    · have := (hP.ap2 _ (.inr (.inr c))).2; omega
  refine ⟨n, f, h1.keep (k.keep.block _ h1.lt hnp), fun q v hv => ?_⟩
  obtain ⟨a, j, e1, e2, ha, hj, hs⟩ := h2 q v hv
  have := k.len
  exact ⟨a, j, e1, e2, by omega, by omega, by rw [k.vl hP.good.wf ha, k.vl hP.good.wf hj]; exact hs⟩
theorem NSt.ext {w w' : World} {pp h N : Nat} {s : PSt} (k : NSt w pp h N s) (hx : Ext w w') : NSt w' pp h N s :=
  ⟨k.pool.ext hx, k.map.go k.pool (PGo.refl k.pool hx), k.le, k.neg⟩

structure NegMem (pp h : Nat) (s : PSt) (w wr : World) (lv rv : Value) (L R : List Nat) : Prop where
  l : wr.ownsRow w.heap.size 3 1 lv L.length ((toZ L).map (Value.int .i64))
  r : wr.ownsRow w.heap.size 3 1 rv R.length ((toZ R).map (Value.int .i64))
  ap : ∀ b, lv.ownBlock = some b → rv.ownBlock ≠ some b
  clr : Clr pp h s wr (fun b => lv.ownBlock = some b ∨ rv.ownBlock = some b)
theorem NegMem.swap {pp h : Nat} {s : PSt} {w wr : World} {lv rv : Value} {L R : List Nat} (m : NegMem pp h s w wr lv rv L R) : NegMem pp h s w wr rv lv R L :=
  ⟨m.r, m.l, fun b h1 h2 => m.ap b h2 h1, fun b hb => m.clr b (hb.symm)⟩
theorem NegMem.keep {pp h : Nat} {s s' : PSt} {w wr w2 : World} {lv rv : Value} {L R : List Nat} {G : Nat → Prop} (m : NegMem pp h s w wr lv rv L R) (hk : Keep G wr w2) (hG : ∀ b, lv.ownBlock = some b ∨ rv.ownBlock = some b → ¬ G b)
    (hc : Clr pp h s' w2 (fun b => lv.ownBlock = some b ∨ rv.ownBlock = some b)) : NegMem pp h s' w w2 lv rv L R :=
  ⟨own_keepG m.l hk (fun b hb => hG b (.inl hb)), own_keepG m.r hk (fun b hb => hG b (.inr hb)), m.ap, hc⟩
theorem NegMem.ext {pp h : Nat} {s : PSt} {w wr w2 : World} {lv rv : Value} {L R : List Nat} (m : NegMem pp h s w wr lv rv L R) (hx : Ext wr w2) : NegMem pp h s w w2 lv rv L R :=
  m.keep (keep_ext (F := fun _ => False) hx) (fun _ _ => id) (m.clr.ext hx)
theorem NegMem.lo {pp h : Nat} {s : PSt} {w wr : World} {lv rv : Value} {L R : List Nat} (m : NegMem pp h s w wr lv rv L R) {b : Nat} (hb : lv.ownBlock = some b ∨ rv.ownBlock = some b) : w.heap.size ≤ b := by
  rcases hb with hb | hb
  · exact (m.l.lt b hb).1
  · exact (m.r.lt b hb).1
theorem NegMem.go {pp h : Nat} {s s' : PSt} {w wr w2 : World} {lv rv : Value} {L R : List Nat} (m : NegMem pp h s w wr lv rv L R) (hh : h + 1 + 1 + 1 + 1 < w.heap.size) (g : NGo pp h s wr s' w2) : NegMem pp h s' w w2 lv rv L R := by
  have hz := g.keep.size
  refine m.keep g.keep (fun b hb => ?_) (fun b hb => ?_)
  · rintro (c | c)
    · exact (m.clr b hb).2.1 c
    · have := m.lo hb; omega
  · obtain ⟨c1, c2, c3⟩ := m.clr b hb
    refine ⟨by omega, fun c => ?_, fun c => ?_⟩
    · rcases g.own b c with c | c
      · exact c2 c
      · omega
    · rcases g.lists b c with c | c
      · exact c3 c
      · omega
theorem NegMem.push {pp h : Nat} {s : PSt} {w wr wa w2 : World} {lv lv' rv : Value} {L news R : List Nat} {n : Nat} {ys : List Value} (m : NegMem pp h s w wr lv rv L R) (hP : PoolAt wr pp h s) (hx : Ext wr wa) (hg : wa.grownBy w2 lv.ownBlock)
    (ho : w2.ownsRow w.heap.size 3 1 lv' n ys) (hn : n = (L ++ news).length) (hy : ys = (toZ (L ++ news)).map (Value.int .i64)) (hl : Lies wa lv lv') : NegMem pp h s w w2 lv' rv (L ++ news) R := by
  have hz := hx.size
  have hz2 := hg.size
  have hL : ∀ b, lv'.ownBlock = some b → lv.ownBlock = some b ∨ wr.heap.size ≤ b := fun b hb => by
    rcases hl with e | ⟨g, e, k⟩
    · exact .inl (e ▸ hb)
    · rw [e] at hb; injection hb with hb; exact .inr (by omega)
  have m1 := m.ext hx
  have hkg := keep_grownO hg
  have hcm := m.clr
  refine ⟨own_of ho hn hy, own_keepG m1.r hkg (fun b hb hq => m.ap b hq hb), fun b hb hc => ?_, fun b hb => ?_⟩
  · rcases hL b hb with h1 | h1
    · exact m.ap b h1 hc
    · have := (hcm b (.inr hc)).1; omega
  · have hlt := ho.lt
    rcases hb with hb | hb
    · refine ⟨(hlt b hb).2, ?_⟩
      rcases hL b hb with h1 | h1
      · exact (hcm b (.inl h1)).2
      · exact hP.new h1
    · have := hcm b (.inr hb); exact ⟨by omega, this.2⟩

theorem NegMem.side {pp h : Nat} {s0 s : PSt} {w wr wa w2 : World} {lv rv : Value} {L R : List Nat} (m : NegMem pp h s w wr lv rv L R) (g : NGo pp h s0 w s wr) (hx : Ext wr wa) (hg : wa.grownBy w2 lv.ownBlock) : NGo pp h s0 w s w2 := by
  have hkg := keep_grownO hg
  have hz := hx.size
  have hP := g.pool.ext hx
  refine ⟨hP.keep hkg (fun b hb hc => (m.clr b (.inl hc)).2.1 hb) (fun b hb hc => (m.clr b (.inl hc)).2.2 hb), ?_, g.own, g.old, g.lists, g.more⟩
  have k1 := (g.keep.trans (keep_ext (F := fun _ => False) hx) (fun _ _ h => h.elim)).trans hkg (G := fun b => lv.ownBlock = some b) (fun x hx hc => by have := m.lo (.inl hc); omega)
  exact k1
theorem NSt.side {pp h N : Nat} {s : PSt} {w wr wa w2 : World} {lv rv : Value} {L R : List Nat} (k : NSt wr pp h N s) (m : NegMem pp h s w wr lv rv L R) (hh : h + 1 + 1 + 1 + 1 < w.heap.size) (hx : Ext wr wa) (hg : wa.grownBy w2 lv.ownBlock) : NSt w2 pp h N s := by
  have hkg := keep_grownO hg
  have k1 := k.ext hx
  refine ⟨k1.pool.keep hkg (fun b hb hc => (m.clr b (.inl hc)).2.1 hb) (fun b hb hc => (m.clr b (.inl hc)).2.2 hb), ?_, k.le, k.neg⟩
  obtain ⟨n, f, h1, h2⟩ := k1.map
  exact ⟨n, f, h1.keep (hkg.block _ h1.lt (fun hc => by have := m.lo (.inl hc); omega)), h2⟩

structure NegL (D' D : Dag) (O L : List Nat) (k : Nat) : Prop where
  len : L.length = k
  at_ : ∀ j (h : j < L.length) (h' : j < O.length), L[j] < D'.length ∧ Same (vl D' L[j]) (ng (vl D O[j]))
theorem NegL.nil (D' D : Dag) (O : List Nat) : NegL D' D O [] 0 := ⟨rfl, fun j h => absurd h (by simp)⟩
theorem NegL.go {pp h : Nat} {s s' : PSt} {w w' : World} {D : Dag} {O L : List Nat} {k : Nat} (n : NegL s.D D O L k) (hw : Cgt.WF s.D) (g : NGo pp h s w s' w') : NegL s'.D D O L k := by
  refine ⟨n.len, fun j h h' => ?_⟩
  obtain ⟨h1, h2⟩ := n.at_ j h h'
  have := g.len
  exact ⟨by omega, by rw [g.vl hw h1]; exact h2⟩
theorem NegL.next {D' D : Dag} {O L : List Nat} {k i : Nat} (n : NegL D' D O L k) (hk : k < O.length) (hi : i < D'.length) (hs : Same (vl D' i) (ng (vl D O[k]))) : NegL D' D O (L ++ [i]) (k + 1) := by
  refine ⟨by simp [n.len], fun j h h' => ?_⟩
  have hl := n.len
  by_cases c : j < L.length
  · rw [List.getElem_append_left c]; exact n.at_ j c h'
  · have e : j = k := by simp at h; omega
    subst e
    rw [List.getElem_append_right (by omega)]
    simp only [List.getElem_singleton]
    exact ⟨hi, hs⟩
theorem NegL.lt {D' D : Dag} {O L : List Nat} (n : NegL D' D O L O.length) : ∀ x, x ∈ L → x < D'.length := fun x hx => by
  obtain ⟨j, hj, rfl⟩ := List.mem_iff_getElem.1 hx
  exact (n.at_ j hj (by have := n.len; omega)).1

theorem neg_node {D0 D D' : Dag} {a i : Nat} {L R : List Nat} (h0 : Cgt.WF D0) (hD : Cgt.WF D) (hD' : Cgt.WF D') (ha : a < D0.length) (hl : NegL D D0 (D0[a]).2 L (D0[a]).2.length) (hr : NegL D D0 (D0[a]).1 R (D0[a]).1.length) (p : PutRel D L R D' i) :
    Same (vl D' i) (ng (vl D0 a)) := by
  rw [Cgt.vl_mk hD' p.1, Cgt.vl_mk h0 (List.getElem?_eq_getElem ha), Cgt.ng_mk, Cgt.same_iff]
  have hll := hl.len
  have hrl := hr.len
  simp only [Gm.l, Gm.r]
  refine ⟨fun x hx => ?_, fun y hy => ?_, fun x hx => ?_, fun y hy => ?_⟩
  · obtain ⟨k, hk, rfl⟩ := List.mem_map.1 hx
    obtain ⟨j, hj, rfl⟩ := List.mem_iff_getElem.1 (sortN_mem.1 hk)
    obtain ⟨h1, h2⟩ := hl.at_ j hj (by omega)
    exact ⟨_, List.mem_map_of_mem (List.mem_map_of_mem (List.getElem_mem (show j < (D0[a]).2.length by omega))), by rw [p.vl hD hD' h1]; exact h2⟩
  · obtain ⟨z, hz, rfl⟩ := List.mem_map.1 hy
    obtain ⟨o, ho, rfl⟩ := List.mem_map.1 hz
    obtain ⟨j, hj, rfl⟩ := List.mem_iff_getElem.1 ho
    obtain ⟨h1, h2⟩ := hl.at_ j (by omega) hj
    exact ⟨_, List.mem_map_of_mem (sortN_mem.2 (List.getElem_mem (show j < L.length by omega))), by rw [p.vl hD hD' h1]; exact h2⟩
  · obtain ⟨k, hk, rfl⟩ := List.mem_map.1 hx
    obtain ⟨j, hj, rfl⟩ := List.mem_iff_getElem.1 (sortN_mem.1 hk)
    obtain ⟨h1, h2⟩ := hr.at_ j hj (by omega)
    exact ⟨_, List.mem_map_of_mem (List.mem_map_of_mem (List.getElem_mem (show j < (D0[a]).1.length by omega))), by rw [p.vl hD hD' h1]; exact h2⟩
  · obtain ⟨z, hz, rfl⟩ := List.mem_map.1 hy
    obtain ⟨o, ho, rfl⟩ := List.mem_map.1 hz
    obtain ⟨j, hj, rfl⟩ := List.mem_iff_getElem.1 ho
    obtain ⟨h1, h2⟩ := hr.at_ j (by omega) hj
    exact ⟨_, List.mem_map_of_mem (sortN_mem.2 (List.getElem_mem (show j < R.length by omega))), by rw [p.vl hD hD' h1]; exact h2⟩

theorem NSt.put {w w' : World} {pp h N a i : Nat} {s s' : PSt} {L R : List Nat} (k : NSt w pp h N s) (g : PGo pp h s w s' w') (p : PutRel s.D L R s'.D i) (ha : a < N) (hs : Same (vl s'.D i) (ng (vl s.D a))) : NSt w' pp h N s' := by
  have hl := g.len
  have hle := k.le
  have hw := k.pool.good.wf
  refine ⟨g.pool, k.map.go k.pool g, by omega, fun x hx hlt => ?_⟩
  rcases Nat.lt_or_ge x s.D.length with c | c
  · obtain ⟨b, hb, hb2⟩ := k.neg x hx c
    exact ⟨b, hb, by rw [g.vl hw c, g.vl hw (show b < s.D.length by omega)]; exact hb2⟩
  · have hxi : x = i := by
      obtain ⟨p1, p2⟩ := p
      rcases p2 with e | e
      · rw [e] at hlt; omega
      · have hx' : x = s.D.length := by rw [e] at hlt; simp at hlt; omega
        have h1 : s'.D[x]? = some (sortN L, sortN R) := by rw [e, hx', List.getElem?_append_right (Nat.le_refl _)]; simp
        exact (List.getElem?_inj (by rw [hx', e]; simp) g.pool.good.nodup).1 (h1.trans p1.symm)
    subst hxi
    exact ⟨a, ha, by rw [g.vl hw (show a < s.D.length by omega)]; exact hs⟩

theorem NSt.store {w w1 w' : World} {pp h N a i n : Nat} {s : PSt} {f : Value → Option Value} (k : NSt w pp h N s) (hx : Ext w w1) (hf : ∀ k v, f k = some v → ∃ a j : Nat, k = .int .i64 (a : Int) ∧ v = .int .i64 (j : Int) ∧ a < s.D.length ∧ j < s.D.length ∧ Same (vl s.D j) (ng (vl s.D a)))
    (hM : MapIs Tryz.prog 3 w' (h + 1 + 1 + 1 + 1) n (upd (fun _ _ => Classical.propDecidable _) f (.int .i64 (a : Int)) (.int .i64 (i : Int)))) (hg : w1.grownBy w' (some (h + 1 + 1 + 1 + 1))) (ha : a < s.D.length) (hi : i < s.D.length) (hs : Same (vl s.D i) (ng (vl s.D a))) : NSt w' pp h N s ∧ NGo pp h s w s w' := by
  have kk := keep_grown hg
  have k1 := (k.ext hx).pool
  have hP : PoolAt w' pp h s := k1.keep kk (fun b hb c => by
    subst c
    rcases hb with c | c | c | c | c
    · have := k1.ap1; omega
    · omega
    · have := (k1.ap2 _ (.inl c)).2; omega
    · have := (k1.ap2 _ (.inr (.inl c))).2; omega
    · have := (k1.ap2 _ (.inr (.inr c))).2; omega) (fun b hb c => by have := k1.ap6 b hb; omega)
  refine ⟨⟨hP, ⟨n, _, hM, fun q v hv => ?_⟩, k.le, k.neg⟩, ⟨hP, ?_, fun _ h => .inl h, fun _ h => h, fun _ h => .inl h, ⟨[], by simp⟩⟩⟩
  · rcases upd_old hv with ⟨rfl, rfl⟩ | hv
    · exact ⟨a, i, rfl, rfl, ha, hi, hs⟩
    · exact hf q v hv
  · exact (keep_ext (F := fun b => POwn pp h s b ∨ b = h + 1 + 1 + 1 + 1) hx).trans kk (fun x _ c => .inr c)
theorem NSt.mapRoom {w : World} {pp h N : Nat} {s : PSt} (k : NSt w pp h N s) : ∃ f, MapIs Tryz.prog 3 w (h + 1 + 1 + 1 + 1) 900000 f ∧ ∀ k v, f k = some v → ∃ a j : Nat, k = .int .i64 (a : Int) ∧ v = .int .i64 (j : Int) ∧ a < s.D.length ∧ j < s.D.length ∧ Same (vl s.D j) (ng (vl s.D a)) := by
  obtain ⟨n, f, h1, h2⟩ := k.map
  refine ⟨f, (h1.room ((List.range s.D.length).map fun (a : Nat) => .int .i64 (a : Int)) fun key v hv => ?_).mono ?_, h2⟩
  · obtain ⟨a, j, rfl, _, ha, _⟩ := h2 key v hv
    exact List.mem_map.2 ⟨a, List.mem_range.2 ha, rfl⟩
  · rw [List.length_map, List.length_range]; exact k.pool.small
theorem PoolAt.c7 {w : World} {pp h : Nat} {s : PSt} (k : PoolAt w pp h s) : w.cell? ⟨pp, 7, none⟩ = some (.map (some (h + 1 + 1 + 1 + 1))) := cell_of_row w pp 7 _ _ _ k.box

end Go.Proofs.YteknjeohbcgpdaaGreatDoor
