/-
  append onto a slice that the call owns, from whatever source; where the result lies.
  Contract of the reference's l1Put: a number put to its place in a rising list.
-/
import Derived.Test.YtjkdanmpihildaaGreatDoorQ5
import Derived.Deep.RegionLaw
import Derived.BigRegion
import Derived.Handy
namespace Go.Proofs.YtjkdanmpihildaaGreatDoor
open Go.RowKit

def Lies (w : World) (v v' : Value) : Prop := v'.ownBlock = v.ownBlock ∨ ∃ g, v'.ownBlock = some g ∧ w.heap.size ≤ g

theorem app_run {P : Program} (w : World) (base : Nat) (t ty e : TypeId) (i : TypeInfo) (z : Value) (size bytes : Nat) (ht : P.underlying t = some (.slice e)) (hi : P.info? e = some i) (hz : i.zero = some z)
    (hsize : i.size = size) (hby : i.bytes = bytes) (hzs : z.cells.size = size) (hsz : 0 < size)
    (v : Value) (n : Nat) (xs : List Value) (hown : w.ownsRow base e size v n xs)
    (ao : Option Addr) (m c : Nat) (news : List Value) (hl : news.length = m * size) (hsrc : m = 0 ∨ ∃ ad, ao = some ad ∧ ∀ j u, news[j]? = some u → w.cell? (ad.add j) = some u) (h1 : ∀ u ∈ news, u.oneCell' = true)
    (h63 : n + m ≤ maxLen) (hbytes : (n + m) * bytes ≤ 140737488355328) (hbase : base ≤ w.heap.size) :
    ∃ v' w', (Builtin.append_ #[t, t] ty #[v, .slice ao m c]).run P w = .ok v' w' ∧ w'.ownsRow base e size v' (n + m) (xs ++ news) ∧ w.grownBy w' v.ownBlock ∧ Lies w v v' := by
  subst hsize
  subst hby
  by_cases hm : m = 0
  · subst hm
    have hn : news = [] := List.eq_nil_of_length_eq_zero (by simpa using hl)
    subst hn
    refine ⟨v, w, ?_, by simpa using hown, ⟨rfl, rfl, rfl, Nat.le_refl _, fun _ _ _ => rfl⟩, .inl rfl⟩
    rcases hown.2 with ⟨rfl, h0⟩ | ⟨g, cap, cur, rfl, hbg, hg, hnc, hcm, hcs, htake⟩
    · subst h0
      cases ao <;> simp [Builtin.append_, run_underlying ht, sizeOf, typeInfo, hi, Builtin.lenOf, Builtin.firstCells, loadCells, loadCellsFrom]
    · cases ao <;> simp [Builtin.append_, run_underlying ht, sizeOf, typeInfo, hi, Builtin.lenOf, Builtin.firstCells, loadCells, loadCellsFrom, hnc, storeCells]
  · obtain ⟨ad, rfl, hnews⟩ := hsrc.resolve_left hm
    obtain ⟨v', w', hr, h2, h3, h4⟩ := run_append_own (P := P) w base t ty e i z i.size i.bytes ht hi hz rfl rfl hzs hsz v n xs hown ad m c news hl hnews h1 h63 hbytes hbase
    refine ⟨v', w', hr, h2, h3, ?_⟩
    have hml : maxLen = 9223372036854775807 := by simp [maxLen]
    rcases hown.2 with ⟨rfl, h0⟩ | ⟨g, cap, cur, rfl, hbg, hg, hnc, hcm, hcs, htake⟩
    · subst h0
      have hr2 := run_append_nil (P := P) (w := w) t ty e i z ht hi hz ad m c news hl hnews (by omega) (by omega) (by simp only [Nat.zero_add] at hbytes; omega)
      rw [hr] at hr2
      injection hr2 with hv hw
      subst hv
      exact .inr ⟨_, rfl, Nat.le_refl _⟩
    · by_cases hroom : n + m ≤ cap
      · have hfit : n * i.size + news.length ≤ cur.size := by rw [hl, hcs, ← Nat.add_mul]; exact Nat.mul_le_mul_right _ hroom
        have hr2 := run_append_room (P := P) (w := w) t ty e i ht hi g n cap cur hg ad m c news hl hnews h1 hroom hfit
        rw [hr] at hr2
        injection hr2 with hv hw
        subst hv
        exact .inl rfl
      · have hr2 := run_append_grow (P := P) (w := w) t ty e i z ht hi hz ⟨g, 0, none⟩ n cap xs hown.1 (hown.cells (g := g) rfl) ad m c news hl hnews (by omega) (by omega) (growslice_fits (by omega) hbytes)
        rw [hr] at hr2
        injection hr2 with hv hw
        subst hv
        exact .inr ⟨_, rfl, Nat.le_refl _⟩

theorem app_wp {P : Program} {w : World} {o : Oper} {a : Act} {K : Act → World → Prop} {Q : Exit → Act → World → Prop} (s x : Operand) (t : TypeId)
    (ho : o.op = .call { callee := .builtin .append, args := #[s, x], argTypes := #[t, t] })
    (base : Nat) (e : TypeId) (i : TypeInfo) (z : Value) (size bytes : Nat) (ht : P.underlying t = some (.slice e)) (hi : P.info? e = some i) (hz : i.zero = some z)
    (hsize : i.size = size) (hby : i.bytes = bytes) (hzs : z.cells.size = size) (hsz : 0 < size)
    (v : Value) (n : Nat) (xs : List Value) (hs : a.eval s = v) (hown : w.ownsRow base e size v n xs)
    (ao : Option Addr) (m c : Nat) (news : List Value) (hx : a.eval x = .slice ao m c) (hl : news.length = m * size) (hsrc : m = 0 ∨ ∃ ad, ao = some ad ∧ ∀ j u, news[j]? = some u → w.cell? (ad.add j) = some u) (h1 : ∀ u ∈ news, u.oneCell' = true)
    (h63 : n + m ≤ maxLen) (hbytes : (n + m) * bytes ≤ 140737488355328) (hbase : base ≤ w.heap.size)
    (h : ∀ v' w', w'.ownsRow base e size v' (n + m) (xs ++ news) → w.grownBy w' v.ownBlock → Lies w v v' → K (a.put o.dst v') w') : o.wp P a w K Q := by
  obtain ⟨v', w', hr, h2, h3, h4⟩ := app_run (P := P) w base t o.type e i z size bytes ht hi hz hsize hby hzs hsz v n xs hown ao m c news hl hsrc h1 h63 hbytes hbase
  unfold Oper.wp execOp
  simp only [ho, resolve, invoke, builtin, Sem.run_bind, Sem.run_pure, Result.andThen_ok, List.map_toArray, List.map_cons, List.map_nil, hs, hx, hr]
  exact h v' w' h2 h3 h4

theorem app_list {P : Program} {w : World} {ops : Array Oper} {rest : List Oper} {o : Oper} {a : Act} {Q : Exit → Act → World → Prop} (hgd : o.guard = none) (s x : Operand) (t : TypeId)
    (ho : o.op = .call { callee := .builtin .append, args := #[s, x], argTypes := #[t, t] })
    (base : Nat) (e : TypeId) (i : TypeInfo) (z : Value) (size bytes : Nat) (ht : P.underlying t = some (.slice e)) (hi : P.info? e = some i) (hz : i.zero = some z)
    (hsize : i.size = size) (hby : i.bytes = bytes) (hzs : z.cells.size = size) (hsz : 0 < size)
    (v : Value) (n : Nat) (xs : List Value) (hs : a.eval s = v) (hown : w.ownsRow base e size v n xs)
    (ao : Option Addr) (m c : Nat) (news : List Value) (hx : a.eval x = .slice ao m c) (hl : news.length = m * size) (hsrc : m = 0 ∨ ∃ ad, ao = some ad ∧ ∀ j u, news[j]? = some u → w.cell? (ad.add j) = some u) (h1 : ∀ u ∈ news, u.oneCell' = true)
    (h63 : n + m ≤ maxLen) (hbytes : (n + m) * bytes ≤ 140737488355328) (hbase : base ≤ w.heap.size)
    (h : ∀ v' w', w'.ownsRow base e size v' (n + m) (xs ++ news) → w.grownBy w' v.ownBlock → Lies w v v' → wpList P ops Q rest (a.put o.dst v') w') : wpList P ops Q (o :: rest) a w :=
  wpList_plain hgd fun _ hK => app_wp s x t ho base e i z size bytes ht hi hz hsize hby hzs hsz v n xs hs hown ao m c news hx hl hsrc h1 h63 hbytes hbase fun v' w' h2 h3 h4 => hK _ _ (h v' w' h2 h3 h4)

theorem app_step {P : Program} {w : World} {ops : Array Oper} {o : Oper} {a : Act} {K : Act → World → Prop} {Q : Exit → Act → World → Prop} {E : Prop} (hgd : o.guard = none) (s x : Operand) (t : TypeId)
    (ho : o.op = .call { callee := .builtin .append, args := #[s, x], argTypes := #[t, t] })
    (base : Nat) (e : TypeId) (i : TypeInfo) (z : Value) (size bytes : Nat) (ht : P.underlying t = some (.slice e)) (hi : P.info? e = some i) (hz : i.zero = some z)
    (hsize : i.size = size) (hby : i.bytes = bytes) (hzs : z.cells.size = size) (hsz : 0 < size)
    (v : Value) (n : Nat) (xs : List Value) (hs : a.eval s = v) (hown : w.ownsRow base e size v n xs)
    (ao : Option Addr) (m c : Nat) (news : List Value) (hx : a.eval x = .slice ao m c) (hl : news.length = m * size) (hsrc : m = 0 ∨ ∃ ad, ao = some ad ∧ ∀ j u, news[j]? = some u → w.cell? (ad.add j) = some u) (h1 : ∀ u ∈ news, u.oneCell' = true)
    (h63 : n + m ≤ maxLen) (hbytes : (n + m) * bytes ≤ 140737488355328) (hbase : base ≤ w.heap.size)
    (h : ∀ v' w', w'.ownsRow base e size v' (n + m) (xs ++ news) → w.grownBy w' v.ownBlock → Lies w v v' → K (a.put o.dst v') w') : if Region.wanted o (yielded ops a.tmps) = true then Oper.wp P o a w K Q else E := by
  have hw : Region.wanted o (yielded ops a.tmps) = true := by simp [Region.wanted, hgd]
  rw [if_pos hw]
  exact app_wp s x t ho base e i z size bytes ht hi hz hsize hby hzs hsz v n xs hs hown ao m c news hx hl hsrc h1 h63 hbytes hbase h

end Go.Proofs.YtjkdanmpihildaaGreatDoor

namespace Go.Proofs.YtjkdanmpihildaaGreatDoor
open Go.RowKit

def putAt (l : List Int) (n : Int) : Nat := (l.takeWhile fun x => decide (x < n)).length
def putZ (l : List Int) (n : Int) : List Int :=
  if putAt l n < l.length ∧ zat l (putAt l n) = n then l else l.take (putAt l n) ++ [n] ++ l.drop (putAt l n)

theorem putAt_eq {l : List Int} {n : Int} {k : Nat} (hk : k ≤ l.length) (h1 : ∀ i, i < k → zat l i < n) (h2 : k < l.length → n ≤ zat l k) : putAt l n = k := by
  induction l generalizing k with
  | nil => simp at hk; subst hk; rfl
  | cons x l ih =>
    cases k with
    | zero =>
      have := h2 (by simp)
      simp [zat] at this
      simp [putAt, List.takeWhile_cons]; omega
    | succ k =>
      have h0 := h1 0 (by omega)
      simp [zat] at h0
      have e := ih (k := k) (by simpa using hk) (fun i hi => by have := h1 (i + 1) (by omega); simpa [zat] using this) (fun h => by have := h2 (by simpa using h); simpa [zat] using this)
      simp [putAt, h0] at e ⊢
      exact e

def NewOr (w w' : World) (v v' : Value) : Prop := ∀ b, v'.ownBlock = some b → v.ownBlock = some b ∨ (w.heap.size ≤ b ∧ b < w'.heap.size)

theorem put_done {W : World} {B : Nat} {e : TypeId} {v : Value} {l : List Int} {n : Int} {k N : Nat} (hk : k ≤ l.length) (h1 : ∀ i, i < k → zat l i < n) (h2 : k < l.length → n < zat l k) (hsz : l.length ≤ 1000000000)
    (ho : W.ownsRow B e 1 v N (((((l.drop 0).take k).map (Value.int .i64)) ++ [Value.int .i64 n]) ++ ((l.drop k).take (l.length - k)).map (Value.int .i64))) : Ints W v (putZ l n) := by
  have ea := putAt_eq hk h1 (fun h => by have := h2 h; omega)
  have ep : putZ l n = l.take k ++ [n] ++ l.drop k := by
    rw [putZ, ea, if_neg (fun h => by have := h2 h.1; omega)]
  rw [ep]
  refine Ints.of_own (B := B) (e := e) (n := N) ?_ (by simp; omega)
  have e1 : (l.drop k).take (l.length - k) = l.drop k := List.take_of_length_le (by simp)
  rw [e1] at ho
  simpa using ho

set_option maxHeartbeats 1000000 in
set_option maxRecDepth 100000 in
theorem l1Put_any (v : Value) (l : List Int) (n : Int) (w : World) (h : Ints w v l) (hsz : l.length ≤ 1000000000) :
    Calls Tryz.prog 72 #[v, .int .i64 n] w fun e w' => ∃ v', e = .returned v' ∧ Ints w' v' (putZ l n) ∧ Ext w w' ∧ NewOr w w' v v' := by
  obtain ⟨a, cap, rfl, hlc, hcap, hc⟩ := h
  obtain ⟨i0, hi, hz0, hz1, hz2⟩ := info_parts info_int
  go_enter Tryz.func72, Tryz.ntmps72
  go_wp2
  go_loop [5] (fun i => ∃ k : Nat, k ≤ l.length ∧ i = .int .i64 k ∧ Hid (∀ i, i < k → zat l i < n)) (fun i => l.length - (intOf i).toNat)
  case atStart => exact ⟨0, Nat.zero_le _, rfl, fun i h => absurd h (by omega)⟩
  case round =>
    obtain ⟨k, hk, rfl, HN⟩ := hrel
    by_cases hlt : k < l.length
    · obtain ⟨b, off, rfl, hcell⟩ := hc (by omega)
      have hck := hcell k hlt
      by_cases hlss : zat l k < n
      · clear hcell hc
        go_wp2
        go_round
        case rel => exact ⟨k + 1, by omega, by go_num, fun i hi => by
          rcases Nat.lt_or_ge i k with h | h
          · exact HN.out i h
          · rw [show i = k by omega]; exact hlss⟩
        case measure => simp [intOf]; omega
      · by_cases heq : zat l k = n
        · have hb : (zat l k == n) = true := by simp [heq]
          have hd : decide (zat l k < n) = false := by simpa using hlss
          have HE := Lib.hid heq
          clear heq
          go_wp2
          go_ret
          refine ⟨_, rfl, ?_, Below.refl _ _, fun b hb => .inl hb⟩
          have e := putAt_eq hk HN.out (fun _ => by have := HE.out; omega)
          rw [putZ, e, if_pos ⟨hlt, HE.out⟩]
          exact ⟨_, _, rfl, hlc, hcap, hc⟩
        · have hb : (zat l k == n) = false := by simp [heq]
          have hd : decide (zat l k < n) = false := by simpa using hlss
          have HE := Lib.hid heq
          clear heq
          have hcc := fun (W : World) (hE : Ext w W) => src_of hcell hE
          have HC := Lib.hid hcc
          clear hcc hcell hc
          have hkc : k ≤ cap := by omega
          have hkn : ¬ cap = k := by omega
          go_wp2
          go_region_law (first
            | (refine app_step rfl (.tmp 33) (.tmp 36) 22 rfl w.heap.size 3 i0 (.int .i64 0) 1 8 Tryz.underlying22 hi hz0 hz1 hz2 rfl (by decide) (.slice (some ⟨_, 0, none⟩) 0 0) 0 [] rfl (by first | exact own_empty _ _ (by simp) _ | exact (own_empty _ _ (by simp) _).alloc _ | exact own_empty2 _ _ _ (by simp) _) _ k _ (((l.drop 0).take k).map (Value.int .i64)) rfl (by simp; omega) (.inr ⟨⟨b, off, none⟩, rfl, by exact HC.out _ (by go_grown) 0 k (by omega)⟩) (ints_onecell _) (by unfold maxLen; omega) (by omega) (by first | (simp; done) | (simp; omega)) ?_; intro v1 w1 ho1 hg1 hl1; simp only [Nat.zero_add, List.nil_append] at ho1; have e1 : Ext w w1 := ext_grown (by go_grown) hg1 (fun k hk => by simp [Value.ownBlock] at hk; omega))
            | (refine app_step rfl (.tmp 37) (.tmp 39) 22 rfl w.heap.size 3 i0 (.int .i64 0) 1 8 Tryz.underlying22 hi hz0 hz1 hz2 rfl (by decide) v1 k (((l.drop 0).take k).map (Value.int .i64)) rfl (by first | exact ho1 | exact ho1.alloc _) _ 1 _ [Value.int .i64 n] rfl rfl (.inr ⟨_, rfl, one_src (by first | exact new_cell _ _ _ | exact grown_cell hg1 (by first | exact new_cell _ _ _ | exact new_cell2 _ _ _ _ | exact new_cell3 _ _ _ _) (by simp [Value.ownBlock]))⟩) one_cell (by unfold maxLen; omega) (by omega) (by have := e1.size; first | omega | (simp; omega)) ?_; intro v2 w2 ho2 hg2 hl2; have e2 : Ext w w2 := ext_grown (by first | exact e1 | exact ext_alloc e1 _) hg2 (fun k hk => (ho1.lt k hk).1))
            | (refine app_step rfl (.tmp 40) (.tmp 43) 22 rfl w.heap.size 3 i0 (.int .i64 0) 1 8 Tryz.underlying22 hi hz0 hz1 hz2 rfl (by decide) v2 (k + 1) (((l.drop 0).take k).map (Value.int .i64) ++ [Value.int .i64 n]) rfl ho2 _ (l.length - k) _ (((l.drop k).take (l.length - k)).map (Value.int .i64)) rfl (by simp) (.inr ⟨⟨b, off + k, none⟩, rfl, HC.out _ e2 k (l.length - k) (by omega)⟩) (ints_onecell _) (by unfold maxLen; omega) (by omega) e2.size ?_; intro v3 w3 ho3 hg3 hl3; have e3 : Ext w w3 := ext_grown e2 hg3 (fun k hk => (ho2.lt k hk).1)))
          all_goals go_wp2
          all_goals go_ret
          all_goals exact ⟨_, rfl, put_done hk HN.out (fun _ => by have := HE.out; omega) hsz ho3, e3, fun b hb => .inr (ho3.lt b hb)⟩
    · by_cases h0 : 0 < l.length
      · obtain ⟨b, off, rfl, hcell⟩ := hc h0
        have hcc := fun (W : World) (hE : Ext w W) => src_of hcell hE
        have HC := Lib.hid hcc
        have hke : k = l.length := by omega
        have HK := Lib.hid hke
        clear hcc hcell hc
        subst hke
        go_wp2
        go_region_law (first
            | (refine app_step rfl (.tmp 33) (.tmp 36) 22 rfl w.heap.size 3 i0 (.int .i64 0) 1 8 Tryz.underlying22 hi hz0 hz1 hz2 rfl (by decide) (.slice (some ⟨_, 0, none⟩) 0 0) 0 [] rfl (by first | exact own_empty _ _ (by simp) _ | exact (own_empty _ _ (by simp) _).alloc _ | exact own_empty2 _ _ _ (by simp) _) _ l.length _ (((l.drop 0).take l.length).map (Value.int .i64)) rfl (by simp) (.inr ⟨⟨b, off, none⟩, rfl, HC.out _ (by go_grown) 0 l.length (by omega)⟩) (ints_onecell _) (by unfold maxLen; omega) (by omega) (by first | (simp; done) | (simp; omega)) ?_; intro v1 w1 ho1 hg1 hl1; simp only [Nat.zero_add, List.nil_append] at ho1; have e1 : Ext w w1 := ext_grown (by go_grown) hg1 (fun k hk => by simp [Value.ownBlock] at hk; omega))
            | (refine app_step rfl (.tmp 37) (.tmp 39) 22 rfl w.heap.size 3 i0 (.int .i64 0) 1 8 Tryz.underlying22 hi hz0 hz1 hz2 rfl (by decide) v1 l.length (((l.drop 0).take l.length).map (Value.int .i64)) rfl (by first | exact ho1 | exact ho1.alloc _) _ 1 _ [Value.int .i64 n] rfl rfl (.inr ⟨_, rfl, one_src (by first | exact new_cell _ _ _ | exact grown_cell hg1 (by first | exact new_cell _ _ _ | exact new_cell2 _ _ _ _ | exact new_cell3 _ _ _ _) (by simp [Value.ownBlock]))⟩) one_cell (by unfold maxLen; omega) (by omega) (by have := e1.size; first | omega | (simp; omega)) ?_; intro v2 w2 ho2 hg2 hl2; have e2 : Ext w w2 := ext_grown (by first | exact e1 | exact ext_alloc e1 _) hg2 (fun k hk => (ho1.lt k hk).1))
            | (refine app_step rfl (.tmp 40) (.tmp 43) 22 rfl w.heap.size 3 i0 (.int .i64 0) 1 8 Tryz.underlying22 hi hz0 hz1 hz2 rfl (by decide) v2 (l.length + 1) (((l.drop 0).take l.length).map (Value.int .i64) ++ [Value.int .i64 n]) rfl ho2 _ 0 _ [] rfl (by simp) (.inl rfl) (by simp) (by unfold maxLen; omega) (by omega) e2.size ?_; intro v3 w3 ho3 hg3 hl3; have e3 : Ext w w3 := ext_grown e2 hg3 (fun k hk => (ho2.lt k hk).1)))
        all_goals go_wp2
        all_goals go_ret
        all_goals exact ⟨_, rfl, put_done (k := l.length) (Nat.le_refl _) HN.out (fun h => absurd h (by omega)) hsz (B := w.heap.size) (e := 3) (v := v3) (N := l.length + 1) (by simpa using ho3), e3, fun b hb => .inr (ho3.lt b hb)⟩
      · have hl0 : l = [] := List.eq_nil_of_length_eq_zero (by omega)
        subst hl0
        have hk0 : k = 0 := by simpa using hk
        subst hk0
        cases a with
        | none =>
          go_wp2
          go_region_law (first
            | (refine app_step rfl (.tmp 33) (.tmp 36) 22 rfl w.heap.size 3 i0 (.int .i64 0) 1 8 Tryz.underlying22 hi hz0 hz1 hz2 rfl (by decide) (.slice (some ⟨_, 0, none⟩) 0 0) 0 [] rfl (by first | exact own_empty _ _ (by simp) _ | exact (own_empty _ _ (by simp) _).alloc _ | exact own_empty2 _ _ _ (by simp) _) _ 0 _ [] rfl (by simp) (.inl rfl) (by simp) (by unfold maxLen; omega) (by omega) (by first | (simp; done) | (simp; omega)) ?_; intro v1 w1 ho1 hg1 hl1; simp only [Nat.add_zero, List.append_nil] at ho1; have e1 : Ext w w1 := ext_grown (by go_grown) hg1 (fun k hk => by simp [Value.ownBlock] at hk; omega))
            | (refine app_step rfl (.tmp 37) (.tmp 39) 22 rfl w.heap.size 3 i0 (.int .i64 0) 1 8 Tryz.underlying22 hi hz0 hz1 hz2 rfl (by decide) v1 0 [] rfl (by first | exact ho1 | exact ho1.alloc _) _ 1 _ [Value.int .i64 n] rfl rfl (.inr ⟨_, rfl, one_src (by first | exact new_cell _ _ _ | exact grown_cell hg1 (by first | exact new_cell _ _ _ | exact new_cell2 _ _ _ _ | exact new_cell3 _ _ _ _) (by simp [Value.ownBlock]))⟩) one_cell (by unfold maxLen; omega) (by omega) (by have := e1.size; first | omega | (simp; omega)) ?_; intro v2 w2 ho2 hg2 hl2; simp only [Nat.zero_add, List.nil_append] at ho2; have e2 : Ext w w2 := ext_grown (by first | exact e1 | exact ext_alloc e1 _) hg2 (fun k hk => (ho1.lt k hk).1))
            | (refine app_step rfl (.tmp 40) (.tmp 43) 22 rfl w.heap.size 3 i0 (.int .i64 0) 1 8 Tryz.underlying22 hi hz0 hz1 hz2 rfl (by decide) v2 1 [Value.int .i64 n] rfl ho2 _ 0 _ [] rfl (by simp) (.inl rfl) (by simp) (by unfold maxLen; omega) (by omega) e2.size ?_; intro v3 w3 ho3 hg3 hl3; have e3 : Ext w w3 := ext_grown e2 hg3 (fun k hk => (ho2.lt k hk).1)))
          all_goals go_wp2
          all_goals go_ret
          all_goals exact ⟨_, rfl, put_done (l := []) (k := 0) (Nat.le_refl _) (fun i h => absurd h (by omega)) (fun h => absurd h (by simp)) (by simp) (B := w.heap.size) (e := 3) (v := v3) (N := 1) (by simpa using ho3), e3, fun b hb => .inr (ho3.lt b hb)⟩
        | some ad =>
          go_wp2
          go_region_law (first
            | (refine app_step rfl (.tmp 33) (.tmp 36) 22 rfl w.heap.size 3 i0 (.int .i64 0) 1 8 Tryz.underlying22 hi hz0 hz1 hz2 rfl (by decide) (.slice (some ⟨_, 0, none⟩) 0 0) 0 [] rfl (by first | exact own_empty _ _ (by simp) _ | exact (own_empty _ _ (by simp) _).alloc _ | exact own_empty2 _ _ _ (by simp) _) _ 0 _ [] rfl (by simp) (.inl rfl) (by simp) (by unfold maxLen; omega) (by omega) (by first | (simp; done) | (simp; omega)) ?_; intro v1 w1 ho1 hg1 hl1; simp only [Nat.add_zero, List.append_nil] at ho1; have e1 : Ext w w1 := ext_grown (by go_grown) hg1 (fun k hk => by simp [Value.ownBlock] at hk; omega))
            | (refine app_step rfl (.tmp 37) (.tmp 39) 22 rfl w.heap.size 3 i0 (.int .i64 0) 1 8 Tryz.underlying22 hi hz0 hz1 hz2 rfl (by decide) v1 0 [] rfl (by first | exact ho1 | exact ho1.alloc _) _ 1 _ [Value.int .i64 n] rfl rfl (.inr ⟨_, rfl, one_src (by first | exact new_cell _ _ _ | exact grown_cell hg1 (by first | exact new_cell _ _ _ | exact new_cell2 _ _ _ _ | exact new_cell3 _ _ _ _) (by simp [Value.ownBlock]))⟩) one_cell (by unfold maxLen; omega) (by omega) (by have := e1.size; first | omega | (simp; omega)) ?_; intro v2 w2 ho2 hg2 hl2; simp only [Nat.zero_add, List.nil_append] at ho2; have e2 : Ext w w2 := ext_grown (by first | exact e1 | exact ext_alloc e1 _) hg2 (fun k hk => (ho1.lt k hk).1))
            | (refine app_step rfl (.tmp 40) (.tmp 43) 22 rfl w.heap.size 3 i0 (.int .i64 0) 1 8 Tryz.underlying22 hi hz0 hz1 hz2 rfl (by decide) v2 1 [Value.int .i64 n] rfl ho2 _ 0 _ [] rfl (by simp) (.inl rfl) (by simp) (by unfold maxLen; omega) (by omega) e2.size ?_; intro v3 w3 ho3 hg3 hl3; have e3 : Ext w w3 := ext_grown e2 hg3 (fun k hk => (ho2.lt k hk).1)))
          all_goals go_wp2
          all_goals go_ret
          all_goals exact ⟨_, rfl, put_done (l := []) (k := 0) (Nat.le_refl _) (fun i h => absurd h (by omega)) (fun h => absurd h (by simp)) (by simp) (B := w.heap.size) (e := 3) (v := v3) (N := 1) (by simpa using ho3), e3, fun b hb => .inr (ho3.lt b hb)⟩

end Go.Proofs.YtjkdanmpihildaaGreatDoor
