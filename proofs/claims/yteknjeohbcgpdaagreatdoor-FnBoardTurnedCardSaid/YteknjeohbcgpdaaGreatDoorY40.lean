/-
  The two sorts of the program's order. (2 texts.)
-/
import Derived.Test.YteknjeohbcgpdaaGreatDoorY6
import Derived.Test.YteknjeohbcgpdaaGreatDoorY25
import Derived.Test.YteknjeohbcgpdaaGreatDoorY37
set_option maxRecDepth 100000
namespace Go.Proofs.YteknjeohbcgpdaaGreatDoor
section
open Go.RowKit
open Cgt (Dag Nd vl)
open Go.Sort (grow PermIn SortedIn SWO)

theorem own_putE {α : Type} [Inhabited α] (enc : α → Value) {w : World} {base e g n cap size : Nat} {xs : List Value} (h : w.ownsRow base e size (.slice (some ⟨g, 0, none⟩) n cap) n xs) (d : Array α) (hd : d.size = xs.length) (m : Nat) (os : Array Obj) :
    (grow (Go.Sort.putRow enc (Go.Sort.ahead w m) g 0 d) os).ownsRow base e size (.slice (some ⟨g, 0, none⟩) n cap) n (d.toList.map enc) ∧ Keep (fun b => b = g) w (grow (Go.Sort.putRow enc (Go.Sort.ahead w m) g 0 d) os) := by
  obtain ⟨hlen, h⟩ := h
  have hgl : g < w.heap.size := by
    rcases h with ⟨h, _⟩ | ⟨g', cap', cur, h1, h2, h3, _⟩
    · simp at h
    · simp only [Value.slice.injEq, Option.some.injEq, Addr.mk.injEq, and_true, true_and] at h1
      obtain ⟨rfl, rfl⟩ := h1; exact blk_lt h3
  have hsz : (Go.Sort.putRow enc (Go.Sort.ahead w m) g 0 d).heap.size = w.heap.size := by rw [Go.Sort.size_putRow]; rfl
  refine ⟨⟨by rw [List.length_map, Array.length_toList, hd, hlen], ?_⟩, rfl, rfl, rfl, by simp [Go.Sort.grow, hsz], fun k hk hn => ?_⟩
  · rcases h with ⟨h, _⟩ | ⟨g', cap', cur, h1, h2, h3, h4, h5, h6, h7⟩
    · simp at h
    · simp only [Value.slice.injEq, Option.some.injEq, Addr.mk.injEq, and_true, true_and] at h1
      obtain ⟨rfl, rfl⟩ := h1
      refine .inr ⟨g, cap, Go.Sort.putCells enc 0 d cur, rfl, h2, ?_, h4, h5, by simp [Go.Sort.putCells, h6], ?_⟩
      · rw [grow_heap _ _ (by rw [hsz]; exact hgl)]
        exact mapBlock_heap _ _ _ h3
      · apply List.ext_getElem?
        intro i
        rw [List.getElem?_take]
        by_cases c : i < n * size
        · rw [if_pos c, Array.getElem?_toList]
          have hc : i < cur.size := by rw [h6]; exact Nat.lt_of_lt_of_le c (Nat.mul_le_mul_right size h4)
          have hi : i < d.size := by rw [hd, hlen]; exact c
          rw [List.getElem?_map, Array.getElem?_toList, Array.getElem?_eq_getElem hi]
          simp only [Go.Sort.putCells, Array.getElem?_mapIdx, Array.getElem?_eq_getElem hc, Option.map_some]
          rw [if_pos (by simp; omega)]
          simp [hi]
        · rw [if_neg c, List.getElem?_eq_none (by rw [List.length_map, Array.length_toList, hd, hlen]; omega)]
  · rw [grow_heap _ _ (by rw [hsz]; exact hk)]
    exact mapBlock_other (Go.Sort.ahead w m) g k _ hn
theorem own_holdsE {α : Type} [Inhabited α] (enc : α → Value) {w : World} {base e g n cap size : Nat} {xs : List Value} (h : w.ownsRow base e size (.slice (some ⟨g, 0, none⟩) n cap) n xs) (d : Array α) (hd : d.toList.map enc = xs) : Go.Sort.Holds enc w g 0 d := by
  intro j hj
  have hl := h.1
  rw [Nat.zero_add]
  refine ⟨?_, h.frozenAt j⟩
  have hxl : xs.length = d.size := by rw [← hd]; simp
  rw [h.cellAt j (by omega), ← hd, List.getElem?_map, Array.getElem?_toList, Array.getElem?_eq_getElem hj]
  simp [hj]

theorem flatK_list {α : Type} [Inhabited α] (enc : α → List Value) (k : Nat) (hk : ∀ x, (enc x).length = k) (hk0 : 0 < k) (d : Array α) : (Go.Sort.flatK enc k d).toList = d.toList.flatMap enc := by
  have hlen : ∀ l : List α, (l.flatMap enc).length = l.length * k := by
    intro l
    induction l with
    | nil => simp
    | cons x l ih => rw [List.flatMap_cons, List.length_append, ih, hk, List.length_cons, Nat.add_mul, Nat.one_mul]; omega
  have hget : ∀ (l : List α) (t : Nat) (h : t < l.length * k), (l.flatMap enc)[t]? = (enc (l[t / k]'(Nat.div_lt_of_lt_mul (by rw [Nat.mul_comm]; exact h))))[t % k]? := by
    intro l
    induction l with
    | nil => intro t h; simp at h
    | cons x l ih =>
      intro t h
      rw [List.flatMap_cons]
      by_cases c : t < k
      · rw [List.getElem?_append_left (by rw [hk]; exact c)]
        have e1 : t / k = 0 := Nat.div_eq_of_lt c
        have e2 : t % k = t := Nat.mod_eq_of_lt c
        simp only [e1, e2, List.getElem_cons_zero]
      · have hge : k ≤ t := by omega
        obtain ⟨u, rfl⟩ : ∃ u, t = u + k := ⟨t - k, by omega⟩
        rw [List.getElem?_append_right (by rw [hk]; omega), hk, Nat.add_sub_cancel]
        have hu : u < l.length * k := by rw [List.length_cons, Nat.add_mul, Nat.one_mul] at h; omega
        rw [ih u hu]
        have e1 : (u + k) / k = u / k + 1 := Nat.add_div_right u hk0
        have e2 : (u + k) % k = u % k := Nat.add_mod_right u k
        simp only [e1, e2, List.getElem_cons_succ]
  apply List.ext_getElem?
  intro t
  by_cases c : t < d.size * k
  · have hd : t / k < d.size := Nat.div_lt_of_lt_mul (by rw [Nat.mul_comm]; exact c)
    have hm : t % k < (enc d[t / k]).length := by rw [hk]; exact Nat.mod_lt _ hk0
    rw [hget d.toList t (by simpa using c), Array.getElem?_toList]
    simp only [Go.Sort.flatK, Array.getElem?_map]
    rw [Array.getElem?_eq_getElem (by simpa using c)]
    simp [hd, hm]
  · rw [List.getElem?_eq_none (by simp [hlen]; omega), List.getElem?_eq_none (by rw [hlen]; simp; omega)]

theorem sort_out {n : Nat} [Inhabited (Fin n)] {lt : Fin n → Fin n → Bool} {d' : Array (Fin n)} (hp : PermIn 0 n (Array.ofFn (n := n) id) d') (hs : SortedIn lt 0 n d') : d'.toList.Perm (List.finRange n) ∧ d'.toList.Pairwise (fun x y => lt y x = false) := by
  obtain ⟨h1, _, h3⟩ := hp
  have hz : (Array.ofFn (n := n) (id : Fin n → Fin n)).size = n := by simp
  rw [hz] at h1
  constructor
  · have e1 : d'.extract 0 n = d' := Array.extract_eq_self_of_le (by omega)
    have e2 : (Array.ofFn (n := n) (id : Fin n → Fin n)).extract 0 n = Array.ofFn (n := n) (id : Fin n → Fin n) := Array.extract_eq_self_of_le (by omega)
    rw [e1, e2] at h3
    have e3 : (Array.ofFn (n := n) (id : Fin n → Fin n)).toList = List.finRange n := by
      rw [Array.toList_ofFn]; rfl
    rw [e3] at h3
    exact h3
  · rw [List.pairwise_iff_getElem]
    intro i j hi hj hij
    simp only [Array.length_toList] at hi hj
    have := hs i j (Nat.zero_le _) hij (by omega)
    simpa [hi, hj] using this

theorem swo_born {n : Nat} (f : Fin n → Nat) : SWO (fun x y : Fin n => decide (Lib.compareInt (f x : Int) (f y : Int) < 0)) := by
  have e : ∀ a b : Nat, decide (Lib.compareInt (a : Int) (b : Int) < 0) = decide (a < b) := fun a b => by
    unfold Lib.compareInt
    by_cases h1 : a < b
    · rw [if_pos (by omega)]; simp [h1]
    · rw [if_neg (by omega)]
      split <;> simp [h1]
  refine ⟨fun x => by simp [e], fun x y z h k => ?_, fun x y z h k => ?_⟩
  · simp only [e, decide_eq_true_eq] at *; omega
  · simp only [e, decide_eq_false_iff_not] at *; omega
theorem swo_nc {n : Nat} (f : Fin n → Nd) : SWO (fun x y : Fin n => decide (Cgt.nc (f x) (f y) < 0)) := by
  refine ⟨fun x => by simp [Cgt.nc_refl], fun x y z h k => ?_, fun x y z h k => ?_⟩
  · simp only [decide_eq_true_eq] at *; exact Cgt.nc_trans h k
  · simp only [decide_eq_false_iff_not] at *
    intro c
    by_cases e : Cgt.nc (f x) (f y) = 0
    · rw [Cgt.nc_zero e] at c; exact k c
    · have h1 : Cgt.nc (f y) (f x) < 0 := by rw [Cgt.nc_neg]; omega
      exact k (Cgt.nc_trans h1 c)
end
section
open Go.RowKit
open Cgt (Dag Nd vl)
open Go.Sort (grow PermIn SortedIn SWO)

theorem enters83 (args : Array Value) (w : World) : (callFunc 164 args).run Tryz.prog w = .ok (.enter 164 args) w := by kernel_rfl
theorem enters87 (args : Array Value) (w : World) : (callFunc 167 args).run Tryz.prog w = .ok (.enter 167 args) w := by kernel_rfl

theorem sortBorn_any (pp h : Nat) (s : PSt) (pb base g cap : Nat) (Ls : List Nat) (w : World) (hP : PoolAt w pp h s) (hown : w.ownsRow base 3 1 (.slice (some ⟨g, 0, none⟩) Ls.length cap) Ls.length ((toZ Ls).map (Value.int .i64))) (hL : ∀ x, x ∈ Ls → x < s.D.length) (hl0 : 0 < Ls.length) (hll : Ls.length ≤ 1000000)
    (hbox : w.cell? ⟨pb, 0, none⟩ = some (.pointer (some ⟨pp, 0, none⟩))) (hgp : g ≠ pb) (hgo : ¬ POwn pp h s g) (hgs : ¬ s.S g) :
    Calls Tryz.prog 163 #[.slice (some ⟨g, 0, none⟩) Ls.length cap, .func (.func 164) #[] #[.pointer (some ⟨pb, 0, none⟩)]] w fun e w' =>
      e = .returned (.tuple #[]) ∧ ∃ L0 : List Nat, L0.Perm Ls ∧ L0.Pairwise (fun a b => Cgt.born (vl s.D a) ≤ Cgt.born (vl s.D b)) ∧ w'.ownsRow base 3 1 (.slice (some ⟨g, 0, none⟩) Ls.length cap) Ls.length ((toZ L0).map (Value.int .i64)) ∧ Keep (fun b => b = g) w w' := by
  let I : Inhabited (Fin Ls.length) := ⟨⟨0, hl0⟩⟩
  let enc : Fin Ls.length → Value := fun i => .int .i64 (Ls[i] : Int)
  let bf : Fin Ls.length → Nat := fun i => Cgt.born (vl s.D Ls[i])
  let cf : Fin Ls.length → Fin Ls.length → Int := fun x y => Lib.compareInt (bf x : Int) (bf y : Int)
  have hd : (Array.ofFn (n := Ls.length) (id : Fin Ls.length → Fin Ls.length)).toList.map enc = (toZ Ls).map (Value.int .i64) := by
    rw [Array.toList_ofFn]
    apply List.ext_getElem
    · simp [toZ]
    · intro i h1 h2; simp [enc, toZ]
  have hsz : (Array.ofFn (n := Ls.length) (id : Fin Ls.length → Fin Ls.length)).size = Ls.length := by simp
  have hsl := Tryz.slices_SortFunc_f163 enc (fun x => rfl) cf (swo_born bf) 164 #[.pointer (some ⟨pb, 0, none⟩)] g 0 cap (Array.ofFn (n := Ls.length) id) w enters83
    (fun m os dk hs x y => by
      obtain ⟨-, hk⟩ := own_putE enc hown dk (by rw [hs, hsz]; simp [toZ]) m os
      have hPk := hP.keep hk (fun b hb e => hgo (e ▸ hb)) (fun b hb e => hgs (e ▸ hb))
      obtain ⟨gb, cb, c2, hn1, hn2, cx⟩ := hPk.bornAt (hL _ (List.getElem_mem x.2))
      obtain ⟨gb', cb', c2', -, -, cy⟩ := hPk.bornAt (hL _ (List.getElem_mem y.2))
      rw [c2] at c2'
      simp only [Option.some.injEq, Value.slice.injEq, Addr.mk.injEq, true_and, and_true] at c2'
      obtain ⟨rfl, rfl⟩ := c2'
      have hb := (World.cell?_of_block (hk.block pb (lt_of_cell hbox) (fun e => hgp e.symm))).trans hbox
      refine (order1_any pb gb cb s.D.length Ls[x] Ls[y] (bf x) (bf y) pp _ hb c2 hP.small (hL _ (List.getElem_mem x.2)) (hL _ (List.getElem_mem y.2)) cx cy).mono ?_
      rintro e w' ⟨rfl, q, rfl⟩
      exact ⟨rfl, q, #[], by rw [Go.Sort.grow_empty]; rfl⟩)
    (own_holdsE enc hown _ hd) (hown.lt g rfl).2 (by rw [hsz]; omega)
  rw [hsz] at hsl
  refine hsl.mono ?_
  rintro e w' ⟨rfl, d', m, os, hp, hs, hw⟩
  obtain ⟨p1, p2⟩ := sort_out hp hs
  have hds : d'.size = Ls.length := by have := hp.1; simpa using this
  obtain ⟨ho, hk⟩ := own_putE enc hown d' (by rw [hds]; simp [toZ]) m os
  refine ⟨rfl, d'.toList.map (fun i => Ls[i]), ?_, ?_, ?_, ?_⟩
  · have := p1.map (fun i : Fin Ls.length => Ls[i])
    refine this.trans (List.Perm.of_eq ?_)
    apply List.ext_getElem
    · simp
    · intro i h1 h2; simp
  · rw [List.pairwise_map]
    refine p2.imp fun {a b} hab => ?_
    simp only [Go.Proofs.ltOf, decide_eq_false_iff_not, cf, bf] at hab
    unfold Lib.compareInt at hab
    by_cases c : Cgt.born (vl s.D Ls[b]) < Cgt.born (vl s.D Ls[a])
    · rw [if_pos (by omega)] at hab; omega
    · omega
  · rw [hw]
    have e1 : (toZ (d'.toList.map (fun i => Ls[i]))).map (Value.int .i64) = d'.toList.map enc := by simp [toZ, enc]
    rw [e1]; exact ho
  · rw [hw]; exact hk

structure En where
  id : Nat
  lv : Value
  rv : Value
  l : List Nat
  r : List Nat
def En.cells (e : En) : List Value := [.int .i64 (e.id : Int), e.lv, e.rv]
def En.nd (e : En) : Nd := (e.l, e.r)
def En.blk (e : En) (b : Nat) : Prop := e.lv.ownBlock = some b ∨ e.rv.ownBlock = some b

def EnAt (base : Nat) (w : World) (e : En) : Prop := w.ownsRow base 3 1 e.lv e.l.length ((toZ e.l).map (Value.int .i64)) ∧ w.ownsRow base 3 1 e.rv e.r.length ((toZ e.r).map (Value.int .i64)) ∧ (∀ x, x ∈ e.l → x < 900000000) ∧ (∀ x, x ∈ e.r → x < 900000000) ∧ e.l.length ≤ 1000000 ∧ e.r.length ≤ 1000000
theorem EnAt.keep {base : Nat} {w w' : World} {e : En} {G : Nat → Prop} (h : EnAt base w e) (hk : Keep G w w') (hG : ∀ b, e.blk b → ¬ G b) : EnAt base w' e :=
  ⟨own_keepG h.1 hk (fun b hb => hG b (.inl hb)), own_keepG h.2.1 hk (fun b hb => hG b (.inr hb)), h.2.2⟩

theorem sortEnts_any (base g cap : Nat) (G : List En) (w : World) (hown : w.ownsRow base 192 3 (.slice (some ⟨g, 0, none⟩) G.length cap) G.length (G.flatMap En.cells)) (hG : ∀ e, e ∈ G → EnAt base w e) (hg0 : ∀ e, e ∈ G → ¬ e.blk g) (hl0 : 0 < G.length) (hll : G.length ≤ 1000000) :
    Calls Tryz.prog 166 #[.slice (some ⟨g, 0, none⟩) G.length cap, .func (.func 167) #[] #[]] w fun e w' =>
      e = .returned (.tuple #[]) ∧ ∃ G' : List En, G'.Perm G ∧ G'.Pairwise (fun a b => ¬ Cgt.nc b.nd a.nd < 0) ∧ w'.ownsRow base 192 3 (.slice (some ⟨g, 0, none⟩) G.length cap) G.length (G'.flatMap En.cells) ∧ Keep (fun b => b = g) w w' := by
  let I : Inhabited (Fin G.length) := ⟨⟨0, hl0⟩⟩
  let enc : Fin G.length → List Value := fun i => G[i].cells
  let cf : Fin G.length → Fin G.length → Int := fun x y => Cgt.nc G[x].nd G[y].nd
  have hk3 : ∀ x, (enc x).length = 3 := fun x => rfl
  have hfl : ∀ d : Array (Fin G.length), (Go.Sort.flatK enc 3 d).toList = (d.toList.map (fun i => G[i])).flatMap En.cells := fun d => by
    rw [flatK_list enc 3 hk3 (by omega), List.flatMap_map]
  have hG0 : (Array.ofFn (n := G.length) (id : Fin G.length → Fin G.length)).toList.map (fun i => G[i]) = G := by
    rw [Array.toList_ofFn]
    apply List.ext_getElem
    · simp
    · intro i h1 h2; simp
  have hsz : (Array.ofFn (n := G.length) (id : Fin G.length → Fin G.length)).size = G.length := by simp
  have hcell : ∀ x : Fin G.length, ∀ v, v ∈ enc x → v.oneCell' = true := fun x v hv => by
    obtain ⟨h1, h2, _⟩ := hG _ (List.getElem_mem x.2)
    obtain ⟨a1, c1, e1, _, _⟩ := own_len h1
    obtain ⟨a2, c2, e2, _, _⟩ := own_len h2
    have : v = .int .i64 (G[x].id : Int) ∨ v = G[x].lv ∨ v = G[x].rv := by simpa [enc, En.cells] using hv
    rcases this with rfl | rfl | rfl
    · rfl
    · rw [show G[x].lv = _ from e1]; rfl
    · rw [show G[x].rv = _ from e2]; rfl
  have hxl : ∀ l : List En, (l.flatMap En.cells).length = l.length * 3 := by
    intro l
    induction l with
    | nil => simp
    | cons x l ih => rw [List.flatMap_cons, List.length_append, ih]; simp [En.cells]; omega
  have hsl := Tryz.slices_SortFunc 3 (fun w => by kernel_rfl) (fun w => by kernel_rfl) enc hk3 hcell cf (swo_nc fun i => G[i].nd) 167 #[] g 0 cap (Array.ofFn (n := G.length) id) w enters87
    (fun m os dk hs x y => by
      obtain ⟨-, hk⟩ := own_putE (α := Value) id hown (Go.Sort.flatK enc 3 dk) (by rw [Go.Sort.size_flatK, hs, hsz, hxl]) m os
      obtain ⟨x1, x2, x3, x4, x5, x6⟩ := (hG _ (List.getElem_mem x.2)).keep hk (fun b hb e => hg0 _ (List.getElem_mem x.2) (e ▸ hb))
      obtain ⟨y1, y2, y3, y4, y5, y6⟩ := (hG _ (List.getElem_mem y.2)).keep hk (fun b hb e => hg0 _ (List.getElem_mem y.2) (e ▸ hb))
      have h := order2_any G[x].id G[y].id G[x].lv G[x].rv G[y].lv G[y].rv G[x].l G[x].r G[y].l G[y].r _ (Ints.of_own x1 (by rw [toZ_len]; exact Nat.le_trans x5 (by decide))) (Ints.of_own x2 (by rw [toZ_len]; exact Nat.le_trans x6 (by decide))) (Ints.of_own y1 (by rw [toZ_len]; exact Nat.le_trans y5 (by decide))) (Ints.of_own y2 (by rw [toZ_len]; exact Nat.le_trans y6 (by decide))) x3 x4 y3 y4
      refine h.mono ?_
      rintro e w' ⟨rfl, q, os', rfl⟩
      exact ⟨rfl, q, os', rfl⟩)
    (own_holdsE (α := Value) id hown _ (by rw [List.map_id, hfl, hG0])) (hown.lt g rfl).2 (by rw [hsz]; omega)
  rw [hsz] at hsl
  refine hsl.mono ?_
  rintro e w' ⟨rfl, d', m, os, hp, hs, hw⟩
  obtain ⟨p1, p2⟩ := sort_out hp hs
  have hds : d'.size = G.length := by have := hp.1; simpa using this
  obtain ⟨ho, hk⟩ := own_putE (α := Value) id hown (Go.Sort.flatK enc 3 d') (by rw [Go.Sort.size_flatK, hds, hxl]) m os
  rw [List.map_id, hfl] at ho
  refine ⟨rfl, d'.toList.map (fun i => G[i]), ?_, ?_, ?_, ?_⟩
  · have := p1.map (fun i : Fin G.length => G[i])
    refine this.trans (List.Perm.of_eq ?_)
    apply List.ext_getElem
    · simp
    · intro i h1 h2; simp
  · rw [List.pairwise_map]
    exact p2.imp fun {a b} hab => by simpa [Go.Proofs.ltOf, cf] using hab
  · rw [hw]; exact ho
  · rw [hw]; exact hk
end
end Go.Proofs.YteknjeohbcgpdaaGreatDoor
