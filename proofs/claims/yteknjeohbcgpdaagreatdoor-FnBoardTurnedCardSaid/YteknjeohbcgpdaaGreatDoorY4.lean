/-
  Plain laws of the sorted lists of the reference: members, rising, births. (5 texts.)
-/
import Derived.Test.YteknjeohbcgpdaaGreatDoorY1
import Derived.Test.YteknjeohbcgpdaaGreatDoorY3
import Derived.Deep.RegionLaw
import Derived.BigRegion
import Derived.Handy
set_option maxRecDepth 100000
namespace Go.Proofs.YteknjeohbcgpdaaGreatDoor
section
open Go.RowKit

def Lies (w : World) (v v' : Value) : Prop := v'.ownBlock = v.ownBlock ∨ ∃ g, v'.ownBlock = some g ∧ w.heap.size ≤ g

theorem app_run {P : Program} (w : World) (base : Nat) (t ty e : TypeId) (i : TypeInfo) (z : Value) (size bytes : Nat) (ht : P.underlying t = some (.slice e)) (hi : P.info? e = some i) (hz : i.zero = some z)
    (hsize : i.size = size) (hby : i.bytes = bytes) (hzs : z.cells.size = size) (hsz : 0 < size)
    (v : Value) (n : Nat) (xs : List Value) (hown : w.ownsRow base e size v n xs)
    (ao : Option Addr) (m c : Nat) (news : List Value) (hl : news.length = m * size) (hsrc : m = 0 ∨ ∃ ad, ao = some ad ∧ ∀ j u, news[j]? = some u → w.cell? (ad.add j) = some u) (h1 : ∀ u ∈ news, u.oneCell' = true)
    (h63 : n + m ≤ maxLen) (hbytes : (n + m) * bytes ≤ 140737488355328) (hbase : base ≤ w.heap.size) :
    ∃ v' w', (Builtin.append_ #[t, t] ty #[v, .slice ao m c]).run P w = .ok v' w' ∧ w'.ownsRow base e size v' (n + m) (xs ++ news) ∧ w.grownBy w' v.ownBlock ∧ Lies w v v' := by
  subst hsize
  subst hby
  by_cases hm : m = 0
  · subst hm
    have hn : news = [] := List.eq_nil_of_length_eq_zero (by simpa using hl)
    subst hn
    refine ⟨v, w, ?_, by simpa using hown, ⟨rfl, rfl, rfl, Nat.le_refl _, fun _ _ _ => rfl⟩, .inl rfl⟩
    rcases hown.2 with ⟨rfl, h0⟩ | ⟨g, cap, cur, rfl, hbg, hg, hnc, hcm, hcs, htake⟩
    · subst h0
      cases ao <;> simp [Builtin.append_, run_underlying ht, sizeOf, typeInfo, hi, Builtin.lenOf, Builtin.firstCells, loadCells, loadCellsFrom]
    · cases ao <;> simp [Builtin.append_, run_underlying ht, sizeOf, typeInfo, hi, Builtin.lenOf, Builtin.firstCells, loadCells, loadCellsFrom, hnc, storeCells]
  · obtain ⟨ad, rfl, hnews⟩ := hsrc.resolve_left hm
    obtain ⟨v', w', hr, h2, h3, h4⟩ := run_append_own (P := P) w base t ty e i z i.size i.bytes ht hi hz rfl rfl hzs hsz v n xs hown ad m c news hl hnews h1 h63 hbytes hbase
    refine ⟨v', w', hr, h2, h3, ?_⟩
    have hml : maxLen = 9223372036854775807 := by simp [maxLen]
    rcases hown.2 with ⟨rfl, h0⟩ | ⟨g, cap, cur, rfl, hbg, hg, hnc, hcm, hcs, htake⟩
    · subst h0
      have hr2 := run_append_nil (P := P) (w := w) t ty e i z ht hi hz ad m c news hl hnews (by omega) (by omega) (by simp only [Nat.zero_add] at hbytes; omega)
      rw [hr] at hr2
      injection hr2 with hv hw
      subst hv
      exact .inr ⟨_, rfl, Nat.le_refl _⟩
    · by_cases hroom : n + m ≤ cap
      · have hfit : n * i.size + news.length ≤ cur.size := by rw [hl, hcs, ← Nat.add_mul]; exact Nat.mul_le_mul_right _ hroom
        have hr2 := run_append_room (P := P) (w := w) t ty e i ht hi g n cap cur hg ad m c news hl hnews h1 hroom hfit
        rw [hr] at hr2
        injection hr2 with hv hw
        subst hv
        exact .inl rfl
      · have hr2 := run_append_grow (P := P) (w := w) t ty e i z ht hi hz ⟨g, 0, none⟩ n cap xs hown.1 (hown.cells (g := g) rfl) ad m c news hl hnews (by omega) (by omega) (growslice_fits (by omega) hbytes)
        rw [hr] at hr2
        injection hr2 with hv hw
        subst hv
        exact .inr ⟨_, rfl, Nat.le_refl _⟩

theorem app_wp {P : Program} {w : World} {o : Oper} {a : Act} {K : Act → World → Prop} {Q : Exit → Act → World → Prop} (s x : Operand) (t : TypeId)
    (ho : o.op = .call { callee := .builtin .append, args := #[s, x], argTypes := #[t, t] })
    (base : Nat) (e : TypeId) (i : TypeInfo) (z : Value) (size bytes : Nat) (ht : P.underlying t = some (.slice e)) (hi : P.info? e = some i) (hz : i.zero = some z)
    (hsize : i.size = size) (hby : i.bytes = bytes) (hzs : z.cells.size = size) (hsz : 0 < size)
    (v : Value) (n : Nat) (xs : List Value) (hs : a.eval s = v) (hown : w.ownsRow base e size v n xs)
    (ao : Option Addr) (m c : Nat) (news : List Value) (hx : a.eval x = .slice ao m c) (hl : news.length = m * size) (hsrc : m = 0 ∨ ∃ ad, ao = some ad ∧ ∀ j u, news[j]? = some u → w.cell? (ad.add j) = some u) (h1 : ∀ u ∈ news, u.oneCell' = true)
    (h63 : n + m ≤ maxLen) (hbytes : (n + m) * bytes ≤ 140737488355328) (hbase : base ≤ w.heap.size)
    (h : ∀ v' w', w'.ownsRow base e size v' (n + m) (xs ++ news) → w.grownBy w' v.ownBlock → Lies w v v' → K (a.put o.dst v') w') : o.wp P a w K Q := by
  obtain ⟨v', w', hr, h2, h3, h4⟩ := app_run (P := P) w base t o.type e i z size bytes ht hi hz hsize hby hzs hsz v n xs hown ao m c news hl hsrc h1 h63 hbytes hbase
  unfold Oper.wp execOp
  simp only [ho, resolve, invoke, builtin, Sem.run_bind, Sem.run_pure, Result.andThen_ok, List.map_toArray, List.map_cons, List.map_nil, hs, hx, hr]
  exact h v' w' h2 h3 h4

theorem app_list {P : Program} {w : World} {ops : Array Oper} {rest : List Oper} {o : Oper} {a : Act} {Q : Exit → Act → World → Prop} (hgd : o.guard = none) (s x : Operand) (t : TypeId)
    (ho : o.op = .call { callee := .builtin .append, args := #[s, x], argTypes := #[t, t] })
    (base : Nat) (e : TypeId) (i : TypeInfo) (z : Value) (size bytes : Nat) (ht : P.underlying t = some (.slice e)) (hi : P.info? e = some i) (hz : i.zero = some z)
    (hsize : i.size = size) (hby : i.bytes = bytes) (hzs : z.cells.size = size) (hsz : 0 < size)
    (v : Value) (n : Nat) (xs : List Value) (hs : a.eval s = v) (hown : w.ownsRow base e size v n xs)
    (ao : Option Addr) (m c : Nat) (news : List Value) (hx : a.eval x = .slice ao m c) (hl : news.length = m * size) (hsrc : m = 0 ∨ ∃ ad, ao = some ad ∧ ∀ j u, news[j]? = some u → w.cell? (ad.add j) = some u) (h1 : ∀ u ∈ news, u.oneCell' = true)
    (h63 : n + m ≤ maxLen) (hbytes : (n + m) * bytes ≤ 140737488355328) (hbase : base ≤ w.heap.size)
    (h : ∀ v' w', w'.ownsRow base e size v' (n + m) (xs ++ news) → w.grownBy w' v.ownBlock → Lies w v v' → wpList P ops Q rest (a.put o.dst v') w') : wpList P ops Q (o :: rest) a w :=
  wpList_plain hgd fun _ hK => app_wp s x t ho base e i z size bytes ht hi hz hsize hby hzs hsz v n xs hs hown ao m c news hx hl hsrc h1 h63 hbytes hbase fun v' w' h2 h3 h4 => hK _ _ (h v' w' h2 h3 h4)

theorem app_step {P : Program} {w : World} {ops : Array Oper} {o : Oper} {a : Act} {K : Act → World → Prop} {Q : Exit → Act → World → Prop} {E : Prop} (hgd : o.guard = none) (s x : Operand) (t : TypeId)
    (ho : o.op = .call { callee := .builtin .append, args := #[s, x], argTypes := #[t, t] })
    (base : Nat) (e : TypeId) (i : TypeInfo) (z : Value) (size bytes : Nat) (ht : P.underlying t = some (.slice e)) (hi : P.info? e = some i) (hz : i.zero = some z)
    (hsize : i.size = size) (hby : i.bytes = bytes) (hzs : z.cells.size = size) (hsz : 0 < size)
    (v : Value) (n : Nat) (xs : List Value) (hs : a.eval s = v) (hown : w.ownsRow base e size v n xs)
    (ao : Option Addr) (m c : Nat) (news : List Value) (hx : a.eval x = .slice ao m c) (hl : news.length = m * size) (hsrc : m = 0 ∨ ∃ ad, ao = some ad ∧ ∀ j u, news[j]? = some u → w.cell? (ad.add j) = some u) (h1 : ∀ u ∈ news, u.oneCell' = true)
    (h63 : n + m ≤ maxLen) (hbytes : (n + m) * bytes ≤ 140737488355328) (hbase : base ≤ w.heap.size)
    (h : ∀ v' w', w'.ownsRow base e size v' (n + m) (xs ++ news) → w.grownBy w' v.ownBlock → Lies w v v' → K (a.put o.dst v') w') : if Region.wanted o (yielded ops a.tmps) = true then Oper.wp P o a w K Q else E := by
  have hw : Region.wanted o (yielded ops a.tmps) = true := by simp [Region.wanted, hgd]
  rw [if_pos hw]
  exact app_wp s x t ho base e i z size bytes ht hi hz hsize hby hzs hsz v n xs hs hown ao m c news hx hl hsrc h1 h63 hbytes hbase h
end
section
open Go.RowKit

def putAt (l : List Int) (n : Int) : Nat := (l.takeWhile fun x => decide (x < n)).length
def putZ (l : List Int) (n : Int) : List Int :=
  if putAt l n < l.length ∧ zat l (putAt l n) = n then l else l.take (putAt l n) ++ [n] ++ l.drop (putAt l n)
end
section
open Go.RowKit

def sortZ (l : List Int) : List Int := l.foldl putZ []
theorem putZ_len (l : List Int) (x : Int) : (putZ l x).length ≤ l.length + 1 := by
  unfold putZ
  split
  · omega
  · have : putAt l x ≤ l.length := (List.takeWhile_sublist _).length_le
    simp; omega
theorem sortZ_len (l : List Int) : (sortZ l).length ≤ l.length := by
  have main : ∀ (l acc : List Int), (l.foldl putZ acc).length ≤ acc.length + l.length := by
    intro l
    induction l with
    | nil => intro acc; simp
    | cons x l ih => intro acc; have := ih (putZ acc x); have := putZ_len acc x; simp; omega
  have := main l []
  simpa [sortZ] using this

def woK (l p : List Int) (k : Nat) : List Int := ((List.range k).filter fun (i : Nat) => !hasZ p (i : Int)).map (zat l)
def withoutZ (l p : List Int) : List Int := woK l p l.length
theorem woK_in (l p : List Int) (k : Nat) (h : hasZ p (k : Int) = true) : woK l p (k + 1) = woK l p k := by
  simp [woK, List.range_succ, List.filter_append, h]
theorem woK_out (l p : List Int) (k : Nat) (h : hasZ p (k : Int) = false) : woK l p (k + 1) = woK l p k ++ [zat l k] := by
  simp [woK, List.range_succ, List.filter_append, h]
theorem woK_len (l p : List Int) (k : Nat) : (woK l p k).length ≤ k := by
  have := List.length_filter_le (fun (i : Nat) => !hasZ p (i : Int)) (List.range k)
  simp [woK] at this ⊢; exact this
end
section
open Go.RowKit
open Cgt

def toZ (l : List Nat) : List Int := l.map fun (n : Nat) => (n : Int)
theorem toZ_len (l : List Nat) : (toZ l).length = l.length := by simp [toZ]
theorem toZ_zat {l : List Nat} {k : Nat} (h : k < l.length) : zat (toZ l) k = (l[k] : Int) := by
  rw [zat_lt (by rw [toZ_len]; exact h)]; simp [toZ]
theorem toZ_mem {l : List Nat} {x : Int} (h : x ∈ toZ l) : ∃ n, n ∈ l ∧ x = (n : Int) := by
  obtain ⟨n, hn, rfl⟩ := List.mem_map.1 h; exact ⟨n, hn, rfl⟩

structure Keep (F : Nat → Prop) (w w' : World) : Prop where
  os : w'.os = w.os
  tape : w'.tape = w.tape
  output : w'.output = w.output
  size : w.heap.size ≤ w'.heap.size
  block : ∀ k, k < w.heap.size → ¬ F k → w'.heap[k]? = w.heap[k]?
theorem keep_ext {F : Nat → Prop} {w w' : World} (h : Ext w w') : Keep F w w' := ⟨h.os, h.tape, h.output, h.size, fun k hk _ => h.block k hk⟩
theorem Keep.trans {F G : Nat → Prop} {a b c : World} (h : Keep F a b) (k : Keep G b c) (hG : ∀ x, x < a.heap.size → G x → F x) : Keep F a c :=
  ⟨k.os.trans h.os, k.tape.trans h.tape, k.output.trans h.output, Nat.le_trans h.size k.size, fun x hx hf =>
    (k.block x (Nat.lt_of_lt_of_le hx h.size) (fun g => hf (hG x hx g))).trans (h.block x hx hf)⟩
theorem Keep.refl (F : Nat → Prop) (w : World) : Keep F w w := ⟨rfl, rfl, rfl, Nat.le_refl _, fun _ _ _ => rfl⟩

theorem own_at {w : World} {B : Nat} {e : TypeId} {size : Nat} {v : Value} {n : Nat} {xs : List Value} (h : w.ownsRow B e size v n xs) (hn : 0 < n) :
    ∃ g cap, v = .slice (some ⟨g, 0, none⟩) n cap ∧ n ≤ cap ∧ cap ≤ maxLen ∧ ∀ j, j < n * size → w.cell? ⟨g, j, none⟩ = xs[j]? := by
  rcases h.2 with ⟨rfl, h0⟩ | ⟨g, cap, cur, rfl, hb, hg, hnc, hcm, hcs, ht⟩
  · omega
  · exact ⟨g, cap, rfl, hnc, hcm, fun j hj => World.ownsRow.cellAt h j hj⟩
theorem own_len {w : World} {B : Nat} {e : TypeId} {size : Nat} {v : Value} {n : Nat} {xs : List Value} (h : w.ownsRow B e size v n xs) :
    ∃ a cap, v = .slice a n cap ∧ n ≤ cap ∧ cap ≤ maxLen := by
  rcases h.2 with ⟨rfl, h0⟩ | ⟨g, cap, cur, rfl, hb, hg, hnc, hcm, hcs, ht⟩
  · exact ⟨none, 0, by rw [h0], by omega, by simp [maxLen]⟩
  · exact ⟨_, cap, rfl, hnc, hcm⟩
end
section
open Go.RowKit
open Cgt (Dag Nd vl Asc)

theorem zat_pair {l : List Int} (h : l.Pairwise (· < ·)) {i j : Nat} (hij : i < j) (hj : j < l.length) : zat l i < zat l j := by
  rw [zat_lt (by omega), zat_lt hj]
  exact List.pairwise_iff_getElem.1 h i j (by omega) hj hij

theorem take_putAt_lt (l : List Int) (n : Int) : ∀ y, y ∈ l.take (putAt l n) → y < n := by
  intro y hy
  unfold putAt at hy
  rw [← List.takeWhile_append_dropWhile (p := fun x => decide (x < n)) (l := l)] at hy
  simp at hy
  induction l with
  | nil => simp at hy
  | cons a l ih =>
    by_cases ha : a < n
    · simp [ha] at hy
      rcases hy with rfl | hy
      · exact ha
      · exact ih hy
    · simp [ha] at hy
theorem drop_putAt_ge {l : List Int} {n : Int} (h : l.Pairwise (· < ·)) : ∀ y, y ∈ l.drop (putAt l n) → n ≤ y := by
  induction l with
  | nil => intro y hy; simp at hy
  | cons a l ih =>
    intro y hy
    have hl := List.pairwise_cons.1 h
    by_cases ha : a < n
    · have e : putAt (a :: l) n = putAt l n + 1 := by simp [putAt, ha]
      rw [e] at hy
      exact ih hl.2 y (by simpa using hy)
    · have e : putAt (a :: l) n = 0 := by simp [putAt, ha]
      rw [e] at hy
      simp at hy
      rcases hy with rfl | hy
      · omega
      · have := hl.1 y hy; omega

theorem putZ_mem {l : List Int} {n y : Int} : y ∈ putZ l n ↔ y ∈ l ∨ y = n := by
  unfold putZ
  split
  · rename_i hp
    constructor
    · exact .inl
    · rintro (h | rfl)
      · exact h
      · obtain ⟨hk, he⟩ := hp
        rw [zat_lt hk] at he
        rw [← he]; exact List.getElem_mem hk
  · have : y ∈ l ↔ y ∈ l.take (putAt l n) ∨ y ∈ l.drop (putAt l n) := by
      rw [← List.mem_append, List.take_append_drop]
    rw [this]
    simp
    constructor
    · rintro (h | h | h)
      · exact .inl (.inl h)
      · exact .inr h
      · exact .inl (.inr h)
    · rintro ((h | h) | h)
      · exact .inl h
      · exact .inr (.inr h)
      · exact .inr (.inl h)
theorem putZ_asc {l : List Int} {n : Int} (h : l.Pairwise (· < ·)) : (putZ l n).Pairwise (· < ·) := by
  unfold putZ
  split
  · exact h
  · rename_i hp
    rw [show l.take (putAt l n) ++ [n] ++ l.drop (putAt l n) = l.take (putAt l n) ++ n :: l.drop (putAt l n) by simp, List.pairwise_append]
    refine ⟨h.sublist (List.take_sublist _ _), List.pairwise_cons.2 ⟨?_, h.sublist (List.drop_sublist _ _)⟩, ?_⟩
    · intro y hy
      have h1 := drop_putAt_ge h y hy
      have h2 : y ≠ n := by
        rintro rfl
        apply hp
        obtain ⟨i, hi, e⟩ := List.mem_iff_getElem.1 hy
        simp at hi
        have h0 := drop_putAt_ge (n := y) h (zat l (putAt l y)) (by
          rw [zat_lt (by omega)]
          have : (l.drop (putAt l y))[0]'(by simp; omega) = l[putAt l y] := by simp
          rw [← this]; exact List.getElem_mem _)
        refine ⟨by omega, ?_⟩
        by_cases hi0 : i = 0
        · subst hi0
          rw [zat_lt (by omega)]; simpa using e
        · have h3 := zat_pair h (i := putAt l y) (j := putAt l y + i) (by omega) (by omega)
          rw [List.getElem_drop] at e
          rw [zat_lt (k := putAt l y + i) (by omega), e] at h3
          omega
      omega
    · intro a ha b hb
      have h1 := take_putAt_lt l n a ha
      rcases List.mem_cons.1 hb with rfl | hb
      · exact h1
      · have := drop_putAt_ge h b hb
        omega

theorem sortZ_mem {l : List Int} {y : Int} : y ∈ sortZ l ↔ y ∈ l := by
  have main : ∀ (l acc : List Int), y ∈ l.foldl putZ acc ↔ y ∈ acc ∨ y ∈ l := by
    intro l
    induction l with
    | nil => intro acc; simp
    | cons x l ih => intro acc; simp only [List.foldl_cons, ih, putZ_mem, List.mem_cons]; exact or_assoc
  have := main l []
  simpa [sortZ] using this
theorem sortZ_asc (l : List Int) : (sortZ l).Pairwise (· < ·) := by
  have main : ∀ (l acc : List Int), acc.Pairwise (· < ·) → (l.foldl putZ acc).Pairwise (· < ·) := by
    intro l
    induction l with
    | nil => intro acc h; exact h
    | cons x l ih => intro acc h; exact ih _ (putZ_asc h)
  exact main l [] List.Pairwise.nil

def sortN (l : List Nat) : List Nat := (sortZ (toZ l)).map Int.toNat
theorem sortN_toZ (l : List Nat) : sortZ (toZ l) = toZ (sortN l) := by
  unfold sortN
  conv => rhs; rw [toZ, List.map_map]
  conv => lhs; rw [← List.map_id (sortZ (toZ l))]
  refine List.map_congr_left fun x hx => ?_
  obtain ⟨n, _, rfl⟩ := toZ_mem (sortZ_mem.1 hx)
  simp
theorem mem_toZ {l : List Nat} {x : Nat} : (x : Int) ∈ toZ l ↔ x ∈ l := by
  constructor
  · intro h; obtain ⟨n, hn, e⟩ := toZ_mem h; have : x = n := by omega
    rw [this]; exact hn
  · intro h; exact List.mem_map.2 ⟨x, h, rfl⟩
theorem sortN_mem {l : List Nat} {x : Nat} : x ∈ sortN l ↔ x ∈ l := by
  rw [← mem_toZ, ← sortN_toZ, sortZ_mem, mem_toZ]
theorem sortN_asc (l : List Nat) : Asc (sortN l) := by
  have h := sortZ_asc (toZ l)
  rw [sortN_toZ] at h
  unfold toZ at h
  rw [List.pairwise_map] at h
  exact h.imp fun h => by omega
theorem sortN_len (l : List Nat) : (sortN l).length ≤ l.length := by
  have := sortZ_len (toZ l); rw [sortN_toZ, toZ_len, toZ_len] at this; exact this
end
end Go.Proofs.YteknjeohbcgpdaaGreatDoor
