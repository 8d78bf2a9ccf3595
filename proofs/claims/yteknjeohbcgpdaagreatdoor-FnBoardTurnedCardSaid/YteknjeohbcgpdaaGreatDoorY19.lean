/-
  Plain law of the program's reduced and canon: a stack of open options; the canonical node. (2 texts.)
-/
import Derived.Test.YteknjeohbcgpdaaGreatDoorY5
import Derived.Test.YteknjeohbcgpdaaGreatDoorY18
set_option maxRecDepth 100000
namespace Go.Proofs.YteknjeohbcgpdaaGreatDoor
section
open Go.RowKit
open Cgt (Dag Nd vl Same)

def bytesN (l : List Nat) : ByteArray := ⟨(l.map UInt8.ofNat).toArray⟩
theorem bytesN_inj {l m : List Nat} (hl : ∀ x, x ∈ l → x < 256) (hm : ∀ x, x ∈ m → x < 256) (h : bytesN l = bytesN m) : l = m := by
  have h1 : l.map UInt8.ofNat = m.map UInt8.ofNat := by
    have := congrArg (fun b : ByteArray => b.data.toList) h
    simpa [bytesN] using this
  have h2 := congrArg (fun l => l.map UInt8.toNat) h1
  simp only [List.map_map] at h2
  have e : ∀ {l : List Nat}, (∀ x, x ∈ l → x < 256) → l.map (UInt8.toNat ∘ UInt8.ofNat) = l := fun {l} h => by
    conv => rhs; rw [← List.map_id l]
    refine List.map_congr_left fun x hx => ?_
    have := h x hx
    simp [Nat.mod_eq_of_lt this]
  rwa [e hl, e hm] at h2
def keyV (nd : List Nat × List Nat) : Value := .string (bytesN (keyN nd.1 nd.2))
theorem keyV_inj {a b : List Nat × List Nat} (h1 : ∀ i, i ∈ a.1 ++ a.2 → i < 1000000) (h2 : ∀ i, i ∈ b.1 ++ b.2 → i < 1000000) (h : keyV a = keyV b) : a = b := by
  simp only [keyV, Value.string.injEq] at h
  have e := bytesN_inj (fun x hx => by have := keyN_range hx; omega) (fun x hx => by have := keyN_range hx; omega) h
  obtain ⟨e1, e2⟩ := keyN_inj (fun i hi => h1 i (by simp [hi])) (fun i hi => h1 i (by simp [hi])) (fun i hi => h2 i (by simp [hi])) (fun i hi => h2 i (by simp [hi])) e
  exact Prod.ext e1 e2

def ListR (W : World) (ys : List Value) (l : List Nat) : Prop := ∃ a c, ys = [.slice a l.length c] ∧ Ints W (.slice a l.length c) (toZ l)

def SInts (S : Nat → Prop) (w : World) (v : Value) (l : List Nat) : Prop := Sup S (fun W => Ints W v (toZ l)) w

structure PSt where
  lv : Value
  rv : Value
  bv : Value
  D : Dag
  S : Nat → Prop
  cn : Nat → Option Nat

def POwn (pp h : Nat) (s : PSt) (b : Nat) : Prop := b = pp ∨ (h ≤ b ∧ b < h + 1 + 1 + 1) ∨ s.lv.ownBlock = some b ∨ s.rv.ownBlock = some b ∨ s.bv.ownBlock = some b

structure CnOk (D : Dag) (cn : Nat → Option Nat) : Prop where
  lt : ∀ i j, cn i = some j → i < D.length ∧ j < D.length
  ok : ∀ i j, cn i = some j → Cgt.Canon (vl D j) ∧ Cgt.Eqv (vl D j) (vl D i) ∧ Cgt.born (vl D j) ≤ Cgt.born (vl D i)
  self : ∀ i j, cn i = some j → cn j = some j
  sub : ∀ i j nd, cn i = some j → D[i]? = some nd → ∀ x, x ∈ nd.1 ++ nd.2 → (cn x).isSome

structure PoolAt (w : World) (pp h : Nat) (s : PSt) : Prop where
  good : Cgt.Good s.D
  small : s.D.length ≤ 900000
  cnok : CnOk s.D s.cn
  box : w.heap[pp]? = some (.cells #[s.lv, s.rv, s.bv, .map (some h), .map (some (h + 1)), .map (some (h + 1 + 1)), .map (some (h + 1 + 1 + 1)), .map (some (h + 1 + 1 + 1 + 1))] 139 (0, 0))
  left : ∃ xs, w.ownsRow 0 80 1 s.lv s.D.length xs ∧ Items ListR s.S 1 xs (s.D.map (·.1)) w
  right : ∃ xs, w.ownsRow 0 80 1 s.rv s.D.length xs ∧ Items ListR s.S 1 xs (s.D.map (·.2)) w
  born : w.ownsRow 0 3 1 s.bv s.D.length ((s.D.mapIdx fun i _ => (Cgt.born (vl s.D i) : Int)).map (Value.int .i64))
  find : ∃ f, MapIs Tryz.prog 9 w h s.D.length f ∧ (∀ i (hi : i < s.D.length), f (keyV s.D[i]) = some (.int .i64 (i : Int))) ∧ ∀ k v, f k = some v → ∃ i, ∃ hi : i < s.D.length, k = keyV s.D[i] ∧ v = .int .i64 (i : Int)
  orders : ∃ n f, MapIs Tryz.prog 183 w (h + 1) n f ∧ ∀ k v, f k = some v → ∃ (a b : Nat) (g : Bool), k = .agg #[.int .i64 (a : Int), .int .i64 (b : Int)] ∧ v = .bool g ∧ a < s.D.length ∧ b < s.D.length ∧ (g = true ↔ Cgt.Ge (vl s.D a) (vl s.D b))
  canons : ∃ n f, MapIs Tryz.prog 3 w (h + 1 + 1) n f ∧ (∀ i : Nat, f (.int .i64 (i : Int)) = (s.cn i).map fun j => .int .i64 (j : Int)) ∧ ∀ k v, f k = some v → ∃ i : Nat, k = .int .i64 (i : Int)
  ap1 : pp < h ∨ h + 1 + 1 + 1 + 1 + 1 ≤ pp
  ap2 : ∀ b, s.lv.ownBlock = some b ∨ s.rv.ownBlock = some b ∨ s.bv.ownBlock = some b → b ≠ pp ∧ (b < h ∨ h + 1 + 1 + 1 + 1 + 1 ≤ b)
  ap3 : ∀ b, s.lv.ownBlock = some b → s.rv.ownBlock ≠ some b ∧ s.bv.ownBlock ≠ some b
  ap4 : ∀ b, s.rv.ownBlock = some b → s.bv.ownBlock ≠ some b
  ap5 : ∀ b, s.S b → ¬ POwn pp h s b
  ap6 : ∀ b, s.S b → b < h ∨ h + 1 + 1 + 1 + 1 + 1 ≤ b
  mapsLt : ∀ {m}, m < h + 1 + 1 + 1 + 1 + 1 → m < w.heap.size

theorem PoolAt.keep {w w' : World} {pp h : Nat} {s : PSt} {G : Nat → Prop} (k : PoolAt w pp h s) (hk : Keep G w w') (h1 : ∀ b, POwn pp h s b → ¬ G b) (h2 : ∀ b, s.S b → ¬ G b) : PoolAt w' pp h s := by
  obtain ⟨x1, a1, b1⟩ := k.left
  obtain ⟨x2, a2, b2⟩ := k.right
  obtain ⟨f, c1, c2⟩ := k.find
  obtain ⟨n, g, d1, d2⟩ := k.orders
  obtain ⟨m, q, e1, e2⟩ := k.canons
  have hL : ∀ b, s.lv.ownBlock = some b → ¬ G b := fun b hb => h1 b (.inr (.inr (.inl hb)))
  have hR : ∀ b, s.rv.ownBlock = some b → ¬ G b := fun b hb => h1 b (.inr (.inr (.inr (.inl hb))))
  have hB : ∀ b, s.bv.ownBlock = some b → ¬ G b := fun b hb => h1 b (.inr (.inr (.inr (.inr hb))))
  have hM : ∀ m, h ≤ m → m < h + 1 + 1 + 1 → ¬ G m := fun m a b => h1 m (.inr (.inl ⟨a, b⟩))
  exact ⟨k.good, k.small, k.cnok, (hk.block _ (blk_lt k.box) (h1 pp (.inl rfl))).trans k.box, ⟨x1, own_keepG a1 hk hL, b1.keep hk h2⟩, ⟨x2, own_keepG a2 hk hR, b2.keep hk h2⟩, own_keepG k.born hk hB,
    ⟨f, c1.keep (hk.block _ c1.lt (hM _ (by omega) (by omega))), c2⟩, ⟨n, g, d1.keep (hk.block _ d1.lt (hM _ (by omega) (by omega))), d2⟩, ⟨m, q, e1.keep (hk.block _ e1.lt (hM _ (by omega) (by omega))), e2⟩, k.ap1, k.ap2, k.ap3, k.ap4, k.ap5, k.ap6, fun hm => Nat.lt_of_lt_of_le (k.mapsLt hm) hk.size⟩
theorem PoolAt.ext {w w' : World} {pp h : Nat} {s : PSt} (k : PoolAt w pp h s) (hx : Ext w w') : PoolAt w' pp h s :=
  k.keep (keep_ext (F := fun _ => False) hx) (fun _ _ => id) (fun _ _ => id)
theorem PoolAt.ownLt {w : World} {pp h : Nat} {s : PSt} (k : PoolAt w pp h s) {b : Nat} (hb : POwn pp h s b) : b < w.heap.size := by
  obtain ⟨x1, a1, b1⟩ := k.left
  obtain ⟨x2, a2, b2⟩ := k.right
  obtain ⟨f, c1, c2⟩ := k.find
  rcases hb with rfl | ⟨h1, h2⟩ | hb | hb | hb
  · exact blk_lt k.box
  · exact k.mapsLt (by omega)
  · exact (a1.lt b hb).2
  · exact (a2.lt b hb).2
  · exact (k.born.lt b hb).2
theorem PoolAt.listLt {w : World} {pp h : Nat} {s : PSt} (k : PoolAt w pp h s) {b : Nat} (hb : s.S b) : b < w.heap.size := by
  obtain ⟨x1, a1, b1⟩ := k.left
  exact b1.2.1 b hb

theorem PoolAt.c0 {w : World} {pp h : Nat} {s : PSt} (k : PoolAt w pp h s) : w.cell? ⟨pp, 0, none⟩ = some s.lv := cell_of_row w pp 0 _ _ _ k.box
theorem PoolAt.c1 {w : World} {pp h : Nat} {s : PSt} (k : PoolAt w pp h s) : w.cell? ⟨pp, 1, none⟩ = some s.rv := cell_of_row w pp 1 _ _ _ k.box
theorem PoolAt.c2 {w : World} {pp h : Nat} {s : PSt} (k : PoolAt w pp h s) : w.cell? ⟨pp, 2, none⟩ = some s.bv := cell_of_row w pp 2 _ _ _ k.box
theorem PoolAt.c3 {w : World} {pp h : Nat} {s : PSt} (k : PoolAt w pp h s) : w.cell? ⟨pp, 3, none⟩ = some (.map (some h)) := cell_of_row w pp 3 _ _ _ k.box
theorem PoolAt.c4 {w : World} {pp h : Nat} {s : PSt} (k : PoolAt w pp h s) : w.cell? ⟨pp, 4, none⟩ = some (.map (some (h + 1))) := cell_of_row w pp 4 _ _ _ k.box
theorem PoolAt.c5 {w : World} {pp h : Nat} {s : PSt} (k : PoolAt w pp h s) : w.cell? ⟨pp, 5, none⟩ = some (.map (some (h + 1 + 1))) := cell_of_row w pp 5 _ _ _ k.box
theorem SInts.out {S : Nat → Prop} {w : World} {v : Value} {l : List Nat} (h : SInts S w v l) : Ints w v (toZ l) := Sup.out h
theorem PoolAt.leftAt {w : World} {pp h : Nat} {s : PSt} (k : PoolAt w pp h s) {i : Nat} (hi : i < s.D.length) :
    ∃ g cap a c, w.cell? ⟨pp, 0, none⟩ = some (.slice (some ⟨g, 0, none⟩) s.D.length cap) ∧ s.D.length ≤ cap ∧ cap ≤ maxLen ∧ w.cell? ⟨g, i, none⟩ = some (.slice a s.D[i].1.length c) ∧ SInts s.S w (.slice a s.D[i].1.length c) s.D[i].1 := by
  obtain ⟨xs, h1, h2⟩ := k.left
  obtain ⟨g, cap, e1, e2, e3, e4⟩ := own_at h1 (by omega)
  have hi' : i < (s.D.map (·.1)).length := by simpa using hi
  obtain ⟨a, c, q1, q2⟩ := h2.2.out i hi'
  rw [List.getElem_map] at q1 q2
  have q3 := take_at q1 (j := 0) (by omega)
  refine ⟨g, cap, a, c, by rw [k.c0, e1], e2, e3, by rw [e4 i (by omega)]; rw [Nat.mul_one] at q3; exact q3, h2.2.1, fun w2 h3 => ?_⟩
  obtain ⟨a', c', q1', q2'⟩ := h2.2.2 w2 h3 i hi'
  rw [List.getElem_map] at q1' q2'
  rw [q1] at q1'
  simp only [List.cons.injEq, Value.slice.injEq, true_and, and_true] at q1'
  obtain ⟨rfl, rfl⟩ := q1'
  exact q2'
theorem PoolAt.rightAt {w : World} {pp h : Nat} {s : PSt} (k : PoolAt w pp h s) {i : Nat} (hi : i < s.D.length) :
    ∃ g cap a c, w.cell? ⟨pp, 1, none⟩ = some (.slice (some ⟨g, 0, none⟩) s.D.length cap) ∧ s.D.length ≤ cap ∧ cap ≤ maxLen ∧ w.cell? ⟨g, i, none⟩ = some (.slice a s.D[i].2.length c) ∧ SInts s.S w (.slice a s.D[i].2.length c) s.D[i].2 := by
  obtain ⟨xs, h1, h2⟩ := k.right
  obtain ⟨g, cap, e1, e2, e3, e4⟩ := own_at h1 (by omega)
  have hi' : i < (s.D.map (·.2)).length := by simpa using hi
  obtain ⟨a, c, q1, q2⟩ := h2.2.out i hi'
  rw [List.getElem_map] at q1 q2
  have q3 := take_at q1 (j := 0) (by omega)
  refine ⟨g, cap, a, c, by rw [k.c1, e1], e2, e3, by rw [e4 i (by omega)]; rw [Nat.mul_one] at q3; exact q3, h2.2.1, fun w2 h3 => ?_⟩
  obtain ⟨a', c', q1', q2'⟩ := h2.2.2 w2 h3 i hi'
  rw [List.getElem_map] at q1' q2'
  rw [q1] at q1'
  simp only [List.cons.injEq, Value.slice.injEq, true_and, and_true] at q1'
  obtain ⟨rfl, rfl⟩ := q1'
  exact q2'
theorem PoolAt.bornAt {w : World} {pp h : Nat} {s : PSt} (k : PoolAt w pp h s) {i : Nat} (hi : i < s.D.length) :
    ∃ g cap, w.cell? ⟨pp, 2, none⟩ = some (.slice (some ⟨g, 0, none⟩) s.D.length cap) ∧ s.D.length ≤ cap ∧ cap ≤ maxLen ∧ w.cell? ⟨g, i, none⟩ = some (.int .i64 (Cgt.born (vl s.D i) : Int)) := by
  obtain ⟨g, cap, h1, h2, h3, h4⟩ := own_at k.born (by omega)
  refine ⟨g, cap, by rw [k.c2, h1], h2, h3, ?_⟩
  rw [h4 i (by omega)]
  simp [hi]

theorem PoolAt.empty {w : World} {h : Nat} (hb : w.heap[h + 1 + 1 + 1 + 1 + 1]? = some (.cells #[.slice none 0 0, .slice none 0 0, .slice none 0 0, .map (some h), .map (some (h + 1)), .map (some (h + 1 + 1)), .map (some (h + 1 + 1 + 1)), .map (some (h + 1 + 1 + 1 + 1))] 139 (0, 0)))
    (hm : ∀ m, h ≤ m → m < h + 1 + 1 + 1 + 1 + 1 → w.heap[m]? = some (.map #[] 0)) : PoolAt w (h + 1 + 1 + 1 + 1 + 1) h ⟨.slice none 0 0, .slice none 0 0, .slice none 0 0, [], fun _ => False, fun _ => none⟩ := by
  have nb : ∀ b, (Value.slice none 0 0).ownBlock ≠ some b := by intro b; simp [Value.ownBlock]
  refine ⟨Cgt.Good.nil, Nat.zero_le _, ⟨fun _ _ h => by simp at h, fun _ _ h => by simp at h, fun _ _ h => by simp at h, fun _ _ _ h => by simp at h⟩, hb, ⟨[], ⟨by simp, .inl ⟨rfl, rfl⟩⟩, Items.nil fun _ h => h.elim⟩, ⟨[], ⟨by simp, .inl ⟨rfl, rfl⟩⟩, Items.nil fun _ h => h.elim⟩, ⟨by simp, .inl ⟨rfl, rfl⟩⟩, ?_, ?_, ?_, by omega, ?_, ?_, ?_, fun _ h => h.elim, fun _ h => h.elim, ?_⟩
  · exact ⟨_, MapIs.made _ _ (hm h (by omega) (by omega)), fun i hi => absurd hi (by simp), fun _ _ h => by cases h⟩
  · exact ⟨0, _, MapIs.made _ _ (hm (h + 1) (by omega) (by omega)), fun _ _ h => by cases h⟩
  · exact ⟨0, _, MapIs.made _ _ (hm (h + 1 + 1) (by omega) (by omega)), fun _ => rfl, fun _ _ h => by cases h⟩
  · intro b hb; simp [nb] at hb
  · intro b hb; simp [nb] at hb
  · intro b hb; simp [nb] at hb
  · intro m h1; have := blk_lt hb; omega

structure PGo (pp h : Nat) (s : PSt) (w : World) (s' : PSt) (w' : World) : Prop where
  pool : PoolAt w' pp h s'
  keep : Keep (POwn pp h s) w w'
  own : ∀ b, POwn pp h s' b → POwn pp h s b ∨ w.heap.size ≤ b
  old : ∀ b, s.S b → s'.S b
  lists : ∀ b, s'.S b → s.S b ∨ w.heap.size ≤ b
  more : ∃ E, s'.D = s.D ++ E
  known : ∀ i j, s.cn i = some j → s'.cn i = some j

theorem PGo.refl {w w' : World} {pp h : Nat} {s : PSt} (k : PoolAt w pp h s) (hx : Ext w w') : PGo pp h s w s w' := ⟨k.ext hx, keep_ext hx, fun _ h => .inl h, fun _ h => h, fun _ h => .inl h, ⟨[], by simp⟩, fun _ _ h => h⟩
theorem PGo.trans {w1 w2 w3 : World} {pp h : Nat} {s1 s2 s3 : PSt} (k : PGo pp h s1 w1 s2 w2) (m : PGo pp h s2 w2 s3 w3) : PGo pp h s1 w1 s3 w3 := by
  have hz := k.keep.size
  refine ⟨m.pool, k.keep.trans m.keep (fun x hx hi => by rcases k.own x hi with h | h; exact h; omega), fun x hx => ?_, fun b hb => m.old b (k.old b hb), fun x hx => ?_, ?_, fun i j hi => m.known i j (k.known i j hi)⟩
  · rcases m.own x hx with h1 | h1
    · exact k.own x h1
    · exact .inr (by omega)
  · rcases m.lists x hx with h1 | h1
    · exact k.lists x h1
    · exact .inr (by omega)
  · obtain ⟨E, h1⟩ := k.more
    obtain ⟨E', h2⟩ := m.more
    exact ⟨E ++ E', by rw [h2, h1, List.append_assoc]⟩
theorem PGo.ext {w1 w2 w3 : World} {pp h : Nat} {s1 s2 : PSt} (k : PGo pp h s1 w1 s2 w2) (hx : Ext w2 w3) : PGo pp h s1 w1 s2 w3 := k.trans (PGo.refl k.pool hx)
theorem PGo.len {w w' : World} {pp h : Nat} {s s' : PSt} (k : PGo pp h s w s' w') : s.D.length ≤ s'.D.length := by obtain ⟨E, h⟩ := k.more; rw [h]; simp
theorem PGo.vl {w w' : World} {pp h : Nat} {s s' : PSt} (k : PGo pp h s w s' w') (hw : Cgt.WF s.D) {i : Nat} (hi : i < s.D.length) : vl s'.D i = vl s.D i := by
  obtain ⟨E, h⟩ := k.more
  have hg := k.pool.good.wf
  rw [h] at hg ⊢
  exact Cgt.vl_append hw hg i hi
theorem PGo.nd {w w' : World} {pp h : Nat} {s s' : PSt} (k : PGo pp h s w s' w') {i : Nat} {nd : Nd} (hi : s.D[i]? = some nd) : s'.D[i]? = some nd := by
  obtain ⟨E, h⟩ := k.more
  rw [h]; exact Cgt.getElem?_append_some hi

def Off (pp h : Nat) (s : PSt) (w : World) (T : Nat → Prop) : Prop := ∀ b, T b → b < w.heap.size ∧ ¬ POwn pp h s b
theorem Off.go {w w' : World} {pp h : Nat} {s s' : PSt} {T : Nat → Prop} (o : Off pp h s w T) (k : PGo pp h s w s' w') : Off pp h s' w' T := fun b hb => by
  have h1 := o b hb
  have hz := k.keep.size
  refine ⟨by omega, fun h2 => ?_⟩
  rcases k.own b h2 with h3 | h3
  · exact h1.2 h3
  · omega
theorem Off.lists {w : World} {pp h : Nat} {s : PSt} (k : PoolAt w pp h s) : Off pp h s w s.S := fun b hb => ⟨k.listLt hb, k.ap5 b hb⟩
theorem Off.ext {w w' : World} {pp h : Nat} {s : PSt} {T : Nat → Prop} (o : Off pp h s w T) (hx : Ext w w') : Off pp h s w' T := fun b hb => ⟨Nat.lt_of_lt_of_le (o b hb).1 hx.size, (o b hb).2⟩
theorem Sup.go {w w' : World} {pp h : Nat} {s s' : PSt} {T : Nat → Prop} {A : World → Prop} (a : Sup T A w) (o : Off pp h s w T) (k : PGo pp h s w s' w') : Sup T A w' := a.keep k.keep fun b hb => (o b hb).2
end
section
open Cgt

structure StackInv (D : Dag) (root : Nat) (left : Bool) (l q line B : List Nat) : Prop where
  nodup : line.Nodup
  lt : ∀ x, x ∈ line ∨ x ∈ q → x < D.length
  sub : ∀ x, x ∈ l → x ∈ line ∨ x ∈ q
  sound : ∀ x, x ∈ line ∨ x ∈ q → x ∈ l ∨ ∃ k, k < D.length ∧ GeS D left root k ∧ x ∈ opt D left k
  kept : ∀ x, x ∈ B → x ∈ line ∧ ∀ y, y ∈ opt D (!left) x → ¬ GeS D left root y
  bnodup : B.Nodup
  done : ∀ x, x ∈ line → x ∈ B ∨ ∃ y, y ∈ opt D (!left) x ∧ GeS D left root y ∧ ∀ z, z ∈ opt D left y → z ∈ line ∨ z ∈ q
  blen : B.length ≤ line.length
  clos : ∀ P : Nat → Prop, (∀ i side x, P i → x ∈ opt D side i → P x) → (∀ x, x ∈ l → P x) → ∀ x, x ∈ line ∨ x ∈ q → P x

theorem StackInv.start {D : Dag} {root : Nat} {left : Bool} {l : List Nat} (hl : ∀ x, x ∈ l → x < D.length) : StackInv D root left l l [] [] :=
  ⟨List.nodup_nil, fun x h => by rcases h with h | h; cases h; exact hl x h, fun x h => .inr h, fun x h => by rcases h with h | h; cases h; exact .inl h, by simp, List.nodup_nil, by simp, Nat.le_refl _, fun P _ hp x h => by rcases h with h | h; cases h; exact hp x h⟩
theorem StackInv.len {D : Dag} {root : Nat} {left : Bool} {l q line B : List Nat} (h : StackInv D root left l q line B) : line.length ≤ D.length := nodup_len h.nodup fun x hx => h.lt x (.inl hx)

theorem StackInv.skip {D : Dag} {root : Nat} {left : Bool} {l q line B : List Nat} {i : Nat} (h : StackInv D root left l (q ++ [i]) line B) (hi : i ∈ line) : StackInv D root left l q line B := by
  have m : ∀ x, x ∈ line ∨ x ∈ q ++ [i] → x ∈ line ∨ x ∈ q := fun x hx => by
    rcases hx with hx | hx
    · exact .inl hx
    · rcases List.mem_append.1 hx with hx | hx
      · exact .inr hx
      · simp at hx; subst hx; exact .inl hi
  have m2 : ∀ x, x ∈ line ∨ x ∈ q → x ∈ line ∨ x ∈ q ++ [i] := fun x hx => by
    rcases hx with hx | hx
    · exact .inl hx
    · exact .inr (List.mem_append.2 (.inl hx))
  exact ⟨h.nodup, fun x hx => h.lt x (m2 x hx), fun x hx => m x (h.sub x hx), fun x hx => h.sound x (m2 x hx), h.kept, h.bnodup, fun x hx => by
    rcases h.done x hx with a | ⟨y, a, b, c⟩
    · exact .inl a
    · exact .inr ⟨y, a, b, fun z hz => m z (c z hz)⟩, h.blen, fun P hc hp x hx => h.clos P hc hp x (m2 x hx)⟩

theorem StackInv.keep {D : Dag} {root : Nat} {left : Bool} {l q line B : List Nat} {i : Nat} (h : StackInv D root left l (q ++ [i]) line B) (hi : i ∉ line) (hn : ∀ y, y ∈ opt D (!left) i → ¬ GeS D left root y) : StackInv D root left l q (line ++ [i]) (B ++ [i]) := by
  have m : ∀ x, x ∈ line ∨ x ∈ q ++ [i] → x ∈ line ++ [i] ∨ x ∈ q := fun x hx => by
    rcases hx with hx | hx
    · exact .inl (by simp [hx])
    · rcases List.mem_append.1 hx with hx | hx
      · exact .inr hx
      · exact .inl (List.mem_append.2 (.inr hx))
  have m2 : ∀ x, x ∈ line ++ [i] ∨ x ∈ q → x ∈ line ∨ x ∈ q ++ [i] := fun x hx => by
    rcases hx with hx | hx
    · rcases List.mem_append.1 hx with hx | hx
      · exact .inl hx
      · exact .inr (List.mem_append.2 (.inr hx))
    · exact .inr (List.mem_append.2 (.inl hx))
  refine ⟨?_, fun x hx => h.lt x (m2 x hx), fun x hx => m x (h.sub x hx), fun x hx => h.sound x (m2 x hx), fun x hx => ?_, ?_, fun x hx => ?_, by simp; exact h.blen, fun P hc hp x hx => h.clos P hc hp x (m2 x hx)⟩
  · rw [List.nodup_append]; exact ⟨h.nodup, by simp, fun a ha b hb => by simp at hb; subst hb; rintro rfl; exact hi ha⟩
  · rcases List.mem_append.1 hx with hx | hx
    · exact ⟨by simp [(h.kept x hx).1], (h.kept x hx).2⟩
    · simp at hx; subst hx; exact ⟨by simp, hn⟩
  · rw [List.nodup_append]; exact ⟨h.bnodup, by simp, fun a ha b hb => by simp at hb; subst hb; rintro rfl; exact hi (h.kept a ha).1⟩
  · rcases List.mem_append.1 hx with hx | hx
    · rcases h.done x hx with a | ⟨y, a, b, c⟩
      · exact .inl (by simp [a])
      · exact .inr ⟨y, a, b, fun z hz => m z (c z hz)⟩
    · exact .inl (List.mem_append.2 (.inr hx))

theorem StackInv.pass {D : Dag} (hD : WF D) {root : Nat} {left : Bool} {l q line B : List Nat} {i y : Nat} (h : StackInv D root left l (q ++ [i]) line B) (hi : i ∉ line) (hy : y ∈ opt D (!left) i) (hg : GeS D left root y) : StackInv D root left l (q ++ opt D left y) (line ++ [i]) B := by
  have hil : i < D.length := h.lt i (.inr (by simp))
  have hyl : y < D.length := by have := opt_lt hD hy; omega
  have m : ∀ x, x ∈ line ∨ x ∈ q ++ [i] → x ∈ line ++ [i] ∨ x ∈ q ++ opt D left y := fun x hx => by
    rcases hx with hx | hx
    · exact .inl (by simp [hx])
    · rcases List.mem_append.1 hx with hx | hx
      · exact .inr (by simp [hx])
      · exact .inl (List.mem_append.2 (.inr hx))
  have m2 : ∀ x, x ∈ line ++ [i] ∨ x ∈ q ++ opt D left y → (x ∈ line ∨ x ∈ q ++ [i]) ∨ x ∈ opt D left y := fun x hx => by
    rcases hx with hx | hx
    · rcases List.mem_append.1 hx with hx | hx
      · exact .inl (.inl hx)
      · exact .inl (.inr (List.mem_append.2 (.inr hx)))
    · rcases List.mem_append.1 hx with hx | hx
      · exact .inl (.inr (List.mem_append.2 (.inl hx)))
      · exact .inr hx
  refine ⟨?_, fun x hx => ?_, fun x hx => m x (h.sub x hx), fun x hx => ?_, fun x hx => ⟨by simp [(h.kept x hx).1], (h.kept x hx).2⟩, h.bnodup, fun x hx => ?_, by simp; have := h.blen; omega, fun P hc hp x hx => ?_⟩
  · rw [List.nodup_append]; exact ⟨h.nodup, by simp, fun a ha b hb => by simp at hb; subst hb; rintro rfl; exact hi ha⟩
  · rcases m2 x hx with hx | hx
    · exact h.lt x hx
    · have := opt_lt hD hx; omega
  · rcases m2 x hx with hx | hx
    · exact h.sound x hx
    · exact .inr ⟨y, hyl, hg, hx⟩
  · rcases List.mem_append.1 hx with hx | hx
    · rcases h.done x hx with a | ⟨y, a, b, c⟩
      · exact .inl a
      · exact .inr ⟨y, a, b, fun z hz => m z (c z hz)⟩
    · simp at hx; subst hx
      exact .inr ⟨y, hy, hg, fun z hz => .inr (List.mem_append.2 (.inr hz))⟩
  · rcases m2 x hx with hx | hx
    · exact h.clos P hc hp x hx
    · exact hc _ _ _ (hc _ _ _ (h.clos P hc hp i (.inr (by simp))) hy) hx

theorem StackInv.open {D : Dag} {root : Nat} {left : Bool} {l line B : List Nat} (h : StackInv D root left l [] line B) : OpenInv D root left l line B line.length := by
  have m : ∀ x, x ∈ line ∨ x ∈ ([] : List Nat) → x ∈ line := fun x hx => by rcases hx with hx | hx; exact hx; cases hx
  exact ⟨h.nodup, fun x hx => h.lt x (.inl hx), fun x hx => m x (h.sub x hx), fun x hx => h.sound x (.inl hx), h.kept, fun j hj _ => by
    rcases h.done _ (List.getElem_mem hj) with a | ⟨y, a, b, c⟩
    · exact .inl a
    · exact .inr ⟨y, a, b, fun z hz => m z (c z hz)⟩, h.blen, fun P hc hp x hx => h.clos P hc hp x (.inl hx)⟩

theorem opt_more {D : Dag} {side : Bool} {i : Nat} : ∀ x, x ∈ opt D side i → i < D.length := fun x hx => by
  unfold opt at hx
  cases e : D[i]? with
  | none => rw [e] at hx; simp at hx
  | some nd => exact (List.getElem?_eq_some_iff.1 e).1
theorem geS_more {D E : Dag} (hD : WF D) (hE : WF (D ++ E)) {left : Bool} {i j : Nat} (hi : i < D.length) (hj : j < D.length) : GeS (D ++ E) left i j ↔ GeS D left i j := by
  unfold GeS; rw [vl_append hD hE i hi, vl_append hD hE j hj]

theorem OpenInv.more {D E : Dag} (hD : WF D) (hE : WF (D ++ E)) {root : Nat} {left : Bool} {l line B : List Nat} {i : Nat} (hr : root < D.length) (h : OpenInv D root left l line B i) : OpenInv (D ++ E) root left l line B i := by
  refine ⟨h.nodup, fun x hx => by have := h.lt x hx; simp; omega, h.sub, fun x hx => ?_, fun x hx => ?_, fun j hj hji => ?_, h.blen, fun P hc hp x hx => ?_⟩
  · rcases h.sound x hx with a | ⟨k, a, b, c⟩
    · exact .inl a
    · exact .inr ⟨k, by simp; omega, (geS_more hD hE hr a).2 b, by rw [opt_old a]; exact c⟩
  · obtain ⟨a, b⟩ := h.kept x hx
    refine ⟨a, fun y hy hg => ?_⟩
    have hxl := h.lt x a
    rw [opt_old hxl] at hy
    exact b y hy ((geS_more hD hE hr (by have := opt_lt hD hy; omega)).1 hg)
  · rcases h.done j hj hji with a | ⟨y, a, b, c⟩
    · exact .inl a
    · have hjl := h.lt _ (List.getElem_mem hj)
      have hyl : y < D.length := by have := opt_lt hD a; omega
      exact .inr ⟨y, by rw [opt_old hjl]; exact a, (geS_more hD hE hr hyl).2 b, fun z hz => c z (by rw [opt_old hyl] at hz; exact hz)⟩
  · exact h.clos P (fun i side x hi hx' => hc i side x hi (by rw [opt_old (opt_more x hx')]; exact hx')) hp x hx
theorem Tops.more {D E : Dag} (hD : WF D) (hE : WF (D ++ E)) {left : Bool} {B F : List Nat} (hB : ∀ x, x ∈ B → x < D.length) (h : Tops D left B F) : Tops (D ++ E) left B F := by
  refine ⟨fun x hx => ?_, fun x hx => ?_⟩
  · obtain ⟨a, b⟩ := h.1 x hx
    exact ⟨a, fun z hz hg => b z hz ((geS_more hD hE (hB z hz) (hB x a)).1 hg)⟩
  · obtain ⟨z, hz, hg⟩ := h.2 x hx
    exact ⟨z, hz, (geS_more hD hE (hB z (h.1 z hz).1) (hB x hx)).2 hg⟩

theorem node_law2 {D : Dag} (hD : WF D) {root : Nat} {l r lineL BL lineR BR FL FR : List Nat} (hE : Eqv (.mk (l.map (vl D)) (r.map (vl D))) (vl D root)) (cl : ∀ x, x ∈ l → Canon (vl D x)) (cr : ∀ x, x ∈ r → Canon (vl D x))
    (iL : OpenInv D root true l lineL BL lineL.length) (iR : OpenInv D root false r lineR BR lineR.length) (mL : Tops D true BL FL) (mR : Tops D false BR FR) :
    Eqv (.mk (FL.map (vl D)) (FR.map (vl D))) (vl D root) ∧ Canon (.mk (FL.map (vl D)) (FR.map (vl D))) := by
  have sR : ∀ x, x ∈ FR → ¬ Ge (vl D root) (vl D x) := by
    intro x hx
    rcases iR.sound x (iR.kept x (mR.1 x hx).1).1 with h | ⟨k, _, hk, h⟩
    · intro c
      exact not_ge_r (a := .mk (l.map (vl D)) (r.map (vl D))) (List.mem_map.2 ⟨x, h, rfl⟩) (hE.ge_left.2 c)
    · exact sound_r (by simpa [GeS] using hk) (opt_r hD h)
  have sL : ∀ x, x ∈ FL → ¬ Ge (vl D x) (vl D root) := by
    intro x hx
    rcases iL.sound x (iL.kept x (mL.1 x hx).1).1 with h | ⟨k, _, hk, h⟩
    · intro c
      exact not_ge_l (a := .mk (l.map (vl D)) (r.map (vl D))) (List.mem_map.2 ⟨x, h, rfl⟩) (hE.ge_right.2 c)
    · exact sound_l (by simpa [GeS] using hk) (opt_l hD h)
  have g1 : Ge (.mk (FL.map (vl D)) (FR.map (vl D))) (.mk (l.map (vl D)) (r.map (vl D))) := by
    refine reduce_ge (fun g => ∃ x, x ∈ lineL ∧ g = vl D x) ?_ ?_ ?_
    · intro g hg
      obtain ⟨x, hx, rfl⟩ := List.mem_map.1 (show g ∈ l.map (vl D) from hg)
      exact ⟨_, ⟨x, iL.sub x hx, rfl⟩, ge_refl _⟩
    · rintro _ ⟨x, hx, rfl⟩
      obtain ⟨j, hj, rfl⟩ := List.mem_iff_getElem.1 hx
      rcases iL.done j hj hj with h | ⟨y, hy, hg, hz⟩
      · obtain ⟨z, hz, hg⟩ := mL.2 _ h
        exact .inl ⟨vl D z, List.mem_map.2 ⟨z, hz, rfl⟩, by simpa [GeS] using hg⟩
      · refine .inr ⟨vl D y, opt_r hD (by simpa using hy), hE.ge_left.2 (by simpa [GeS] using hg), fun g hg' => ?_⟩
        obtain ⟨z, hz', rfl⟩ := l_opt hD hg'
        exact ⟨z, hz z hz', rfl⟩
    · intro g hg
      obtain ⟨x, hx, rfl⟩ := List.mem_map.1 (show g ∈ FR.map (vl D) from hg)
      intro c
      exact sR x hx (hE.ge_left.1 c)
  have g2 : Ge (.mk (l.map (vl D)) (r.map (vl D))) (.mk (FL.map (vl D)) (FR.map (vl D))) := by
    refine reduce_le (fun g => ∃ x, x ∈ lineR ∧ g = vl D x) ?_ ?_ ?_
    · intro g hg
      obtain ⟨x, hx, rfl⟩ := List.mem_map.1 (show g ∈ r.map (vl D) from hg)
      exact ⟨_, ⟨x, iR.sub x hx, rfl⟩, ge_refl _⟩
    · rintro _ ⟨x, hx, rfl⟩
      obtain ⟨j, hj, rfl⟩ := List.mem_iff_getElem.1 hx
      rcases iR.done j hj hj with h | ⟨y, hy, hg, hz⟩
      · obtain ⟨z, hz, hg⟩ := mR.2 _ h
        exact .inl ⟨vl D z, List.mem_map.2 ⟨z, hz, rfl⟩, by simpa [GeS] using hg⟩
      · refine .inr ⟨vl D y, opt_l hD (by simpa using hy), hE.ge_right.2 (by simpa [GeS] using hg), fun g hg' => ?_⟩
        obtain ⟨z, hz', rfl⟩ := r_opt hD hg'
        exact ⟨z, hz z hz', rfl⟩
    · intro g hg
      obtain ⟨x, hx, rfl⟩ := List.mem_map.1 (show g ∈ FL.map (vl D) from hg)
      intro c
      exact sL x hx (hE.ge_right.1 c)
  refine ⟨Eqv.trans ⟨g1, g2⟩ hE, Canon.mk _ ⟨?_, ?_, ?_, ?_⟩ ?_ ?_⟩
  · intro x y hx hy h
    obtain ⟨a, ha, rfl⟩ := List.mem_map.1 hx
    obtain ⟨b, hb, rfl⟩ := List.mem_map.1 hy
    rw [(mL.1 b hb).2 a (mL.1 a ha).1 (by simpa [GeS] using h)]
    exact same_refl _
  · intro x y hx hy h
    obtain ⟨a, ha, rfl⟩ := List.mem_map.1 hx
    obtain ⟨b, hb, rfl⟩ := List.mem_map.1 hy
    rw [(mR.1 a ha).2 b (mR.1 b hb).1 (by simpa [GeS] using h)]
    exact same_refl _
  · intro x hx y hy h
    obtain ⟨a, ha, rfl⟩ := List.mem_map.1 hx
    obtain ⟨c, hc, rfl⟩ := r_opt hD hy
    have := (iL.kept a (mL.1 a ha).1).2 c (by simpa using hc)
    simp [GeS] at this
    exact this (hE.ge_left.1 (ge_trans _ _ _ g2 h))
  · intro x hx y hy h
    obtain ⟨a, ha, rfl⟩ := List.mem_map.1 hx
    obtain ⟨c, hc, rfl⟩ := l_opt hD hy
    have := (iR.kept a (mR.1 a ha).1).2 c (by simpa using hc)
    simp [GeS] at this
    exact this (hE.ge_right.1 (ge_trans _ _ _ h g1))
  · intro x hx
    obtain ⟨a, ha, rfl⟩ := List.mem_map.1 hx
    exact line_canon hD iL cl a (iL.kept a (mL.1 a ha).1).1
  · intro x hx
    obtain ⟨a, ha, rfl⟩ := List.mem_map.1 hx
    exact line_canon hD iR cr a (iR.kept a (mR.1 a ha).1).1

def miss (N : Nat) (cn : Nat → Option Nat) : Nat := ((List.range N).filter fun x => (cn x).isNone).length
theorem miss_lt {N f : Nat} {cn cn' : Nat → Option Nat} (h : ∀ x, x < N → (cn x).isSome → (cn' x).isSome) (hf : f < N) (h1 : cn f = none) (h2 : (cn' f).isSome) : miss N cn' + 1 ≤ miss N cn := by
  unfold miss
  have key : ∀ l : List Nat, (∀ x, x ∈ l → x < N) → (f ∈ l → (l.filter fun x => (cn' x).isNone).length + 1 ≤ (l.filter fun x => (cn x).isNone).length) ∧ (l.filter fun x => (cn' x).isNone).length ≤ (l.filter fun x => (cn x).isNone).length := by
    intro l
    induction l with
    | nil => intro _; simp
    | cons x l ih =>
      intro hl
      obtain ⟨h3, h4⟩ := ih fun y hy => hl y (by simp [hy])
      have hx := h x (hl x (by simp))
      simp only [List.filter_cons, List.mem_cons]
      by_cases e : f = x
      · subst e
        have : (cn' f).isNone = false := by cases e : cn' f with | none => rw [e] at h2; cases h2 | some _ => rfl
        rw [this, h1]; simp; omega
      · have hm : (f = x ∨ f ∈ l) ↔ f ∈ l := by simp [e]
        rw [hm]
        cases e1 : cn x with
        | none => split <;> simp <;> constructor <;> intros <;> first | omega | (have := h3 (by assumption); omega)
        | some j =>
          rw [e1] at hx
          have h5 := hx rfl
          have : (cn' x).isNone = false := by cases e : cn' x with | none => rw [e] at h5; cases h5 | some _ => rfl
          simp [this]; exact ⟨fun h => by have := h3 h; omega, h4⟩
  exact (key _ fun x hx => List.mem_range.1 hx).1 (List.mem_range.2 hf)
theorem miss_mono {N M : Nat} (h : N ≤ M) (cn : Nat → Option Nat) : miss N cn ≤ miss M cn := by
  unfold miss
  obtain ⟨k, rfl⟩ : ∃ k, M = N + k := ⟨M - N, by omega⟩
  rw [List.range_add, List.filter_append, List.length_append]; omega
end
end Go.Proofs.YteknjeohbcgpdaaGreatDoor
