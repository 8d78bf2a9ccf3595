/-
  Contract of the program's order at one root: the subpositions in order, each with the ranks of its options.
-/
import Derived.Test.YteknjeohbcgpdaaGreatDoorY41
set_option maxRecDepth 100000
namespace Go.Proofs.YteknjeohbcgpdaaGreatDoor
open Go.RowKit
open Cgt (Dag Nd vl IsForm topOf Same)

theorem OM.gdrop {w wr : World} {lb lc rb mr : Nat} {nv gv : Value} {Lc : List Nat} {fm : Value → Option Value} {nodes group V : List En} (m : OM w wr lb lc rb nv gv Lc mr fm nodes group V) : OM w wr lb lc rb nv (.slice none 0 0) Lc mr fm nodes [] V :=
  ⟨m.list, m.rank, m.rb0, m.node, ⟨by simp, .inl ⟨rfl, rfl⟩⟩, m.ents, m.apart, m.self, fun e he x hx => ⟨(m.far e he x hx).1, (m.far e he x hx).2.1, (m.far e he x hx).2.2.1, by simp [Value.ownBlock]⟩, m.a1, m.a2, by simp [Value.ownBlock], by simp [Value.ownBlock], m.ext⟩
def OrderPost (s : PSt) (root : Nat) (w : World) (e : Ending) (w' : World) : Prop :=
  ∃ W1 lv nv lb lc rb gv Lc mr fm nodes, e = .returned (.tuple #[lv, nv]) ∧ Ext w W1 ∧ OM W1 w' lb lc rb nv gv Lc mr fm nodes [] nodes ∧ IsForm (nodes.map En.nd) ∧ Same (topOf (nodes.map En.nd)) (vl s.D root) ∧ (nodes.map En.id).Nodup ∧ (∀ j, j ∈ nodes.map En.id ↔ Cgt.Reach s.D root j)

structure OInv (D : Dag) (root : Nat) (N : Nat) (nodes : List En) (idx at_ : List Nat) (b : Nat) (rest : List Nat) (fm : Value → Option Value) : Prop where
  st : StInv D root (nodes.map En.nd) idx at_ b rest
  ids : nodes.map En.id = idx
  len : (idx ++ rest).length = N
  rank : ∀ x, x ∈ idx → fm (.int .i64 (x : Int)) = some (.int .i64 ((at_.getD x 0 : Nat) : Int))

structure GInv (D : Dag) (at_ : List Nat) (b q : Nat) (rest : List Nat) (group : List En) : Prop where
  ids : group.map En.id = rest.take q
  nds : ∀ e, e ∈ group → e.nd = Xn D at_ e.id
  born : ∀ j (hj : j < rest.length), j < q → Cgt.born (vl D rest[j]) = b
theorem GInv.start (D : Dag) (at_ : List Nat) (b : Nat) (rest : List Nat) : GInv D at_ b 0 rest [] := ⟨by simp, by simp, fun _ _ h => absurd h (by omega)⟩
theorem GInv.add {D : Dag} {at_ : List Nat} {b q : Nat} {rest : List Nat} {group : List En} (h : GInv D at_ b q rest group) (hq : q < rest.length) {e : En} (he : e.id = rest[q]) (hn : e.nd = Xn D at_ e.id) (hb : Cgt.born (vl D rest[q]) = b) : GInv D at_ b (q + 1) rest (group ++ [e]) := by
  refine ⟨?_, fun a ha => ?_, fun j hj hjq => ?_⟩
  · rw [List.map_append, h.ids, List.take_succ_eq_append_getElem hq, ← he]; rfl
  · rcases List.mem_append.1 ha with ha | ha
    · exact h.nds a ha
    · simp at ha; subst ha; exact hn
  · by_cases c : j = q
    · subst c; exact hb
    · exact h.born j hj (by omega)
theorem GInv.len {D : Dag} {at_ : List Nat} {b q : Nat} {rest : List Nat} {group : List En} (h : GInv D at_ b q rest group) (hq : q ≤ rest.length) : group.length = q := by
  have := congrArg List.length h.ids; simp at this; omega

theorem nodes_made (w : World) (B n : Nat) (hB : B ≤ w.heap.size) (hn : n ≤ 1000000) : (w.alloc (.cells (madeCells #[Value.slice none 0 0, .slice none 0 0] (n * 2)) 89)).ownsRow B 89 2 (.slice (some ⟨w.heap.size, 0, none⟩) 0 n) 0 [] :=
  ⟨by simp, .inr ⟨w.heap.size, n, _, rfl, hB, heap_alloc_new w _, Nat.zero_le _, by unfold maxLen; omega, by rw [size_madeCells], by simp⟩⟩
theorem order_start {w w3 : World} {lb lc N : Nat} {L0 : List Nat} (hE : Ext w w3) (hN : L0.length = N) (hl : N ≤ 1000000) {B : Nat} (hB : w.heap.size ≤ B) (ho : w3.ownsRow B 3 1 (.slice (some ⟨lb, 0, none⟩) N lc) N ((toZ L0).map (Value.int .i64))) :
    OM w ((w3.alloc (.map #[] 0)).alloc (.cells (madeCells #[Value.slice none 0 0, .slice none 0 0] (N * 2)) 89)) lb lc w3.heap.size (.slice (some ⟨w3.heap.size + 1, 0, none⟩) 0 N) (.slice none 0 0) L0 0 (fun _ => none) [] [] [] := by
  have z1 : (w3.alloc (.map #[] 0)).heap.size = w3.heap.size + 1 := World.size_alloc _ _
  have hz := hE.size
  have hlb := ho.lt lb rfl
  refine ⟨?_, ?_, hz, ?_, ⟨by simp, .inl ⟨rfl, rfl⟩⟩, by simp, List.Pairwise.nil, by simp, by simp, by omega, ?_, by simp [Value.ownBlock], by simp [Value.ownBlock], by go_grown⟩
  · rw [hN]; exact ((own_lower ho hB).alloc _).alloc _
  · refine MapIs.made _ _ (c := 0) ?_
    rw [Below.heap_alloc _ _ _ (by omega)]; exact alloc_at rfl
  · have := nodes_made (w3.alloc (.map #[] 0)) w.heap.size N (by omega) hl
    rw [z1] at this; exact this
  · simp [Value.ownBlock]; omega
theorem list_step {idx from_ rest : List Nat} {j : Nat} (hj : j < from_.length) (hl : from_.length ≤ rest.length) : (idx ++ (from_.take j ++ rest.drop j)).set (idx.length + j) from_[j] = idx ++ (from_.take (j + 1) ++ rest.drop (j + 1)) := by
  have h1 : (from_.take j).length = j := by rw [List.length_take]; omega
  rw [List.set_append_right _ _ (by omega), Nat.add_sub_cancel_left, List.set_append_right _ _ (by omega), h1, Nat.sub_self, List.drop_eq_getElem_cons (by omega : j < rest.length), List.set_cons_zero, List.take_succ_eq_append_getElem hj, List.append_assoc]
  rfl
theorem rank_step {fm : Value → Option Value} {idx from_ at2 : List Nat} {j m : Nat} (hj : j < from_.length) (h : ∀ x, x ∈ idx ++ from_.take j → fm (.int .i64 (x : Int)) = some (.int .i64 ((at2.getD x 0 : Nat) : Int))) (ha : at2[from_[j]]? = some m) :
    ∀ x, x ∈ idx ++ from_.take (j + 1) → upd (fun _ _ => Classical.propDecidable _) fm (.int .i64 (from_[j] : Int)) (.int .i64 (m : Int)) (.int .i64 (x : Int)) = some (.int .i64 ((at2.getD x 0 : Nat) : Int)) := by
  intro x hx
  by_cases c : x = from_[j]
  · subst c; rw [upd_same, List.getD_eq_getElem?_getD, ha]; rfl
  · rw [upd_ne (by simp; omega)]
    refine h x ?_
    rw [List.take_succ_eq_append_getElem hj] at hx
    simp only [List.mem_append, List.mem_singleton] at hx ⊢
    rcases hx with hx | hx | hx
    · exact .inl hx
    · exact .inr hx
    · exact absurd hx c

theorem info_entry : (Tryz.prog.info? 192).map (fun i => (i.zero, i.size, i.bytes)) = some (some (.agg #[.int .i64 0, .slice none 0 0, .slice none 0 0]), 3, 56) := by kernel_rfl
theorem three_src {w : World} {x y z : Value} {e : TypeId} : ∀ j u, ([x, y, z] : List Value)[j]? = some u → (w.alloc (.cells #[x, y, z] e)).cell? ((⟨w.heap.size, 0, none⟩ : Addr).add j) = some u := by
  intro j u h
  match j with
  | 0 => simp at h; subst h; exact (World.cell?_alloc_at (w := w) #[x, y, z] e _ 0 rfl)
  | 1 => simp at h; subst h; exact (World.cell?_alloc_at (w := w) #[x, y, z] e _ 1 rfl)
  | 2 => simp at h; subst h; exact (World.cell?_alloc_at (w := w) #[x, y, z] e _ 2 rfl)
  | n + 3 => simp at h
theorem three_cell {a b : Option Addr} {k : IntKind} {x : Int} {n m c d : Nat} : ∀ u ∈ ([Value.int k x, Value.slice a n c, Value.slice b m d] : List Value), u.oneCell' = true := by
  intro u h; simp at h; rcases h with rfl | rfl | rfl <;> rfl
theorem list_at {w wr : World} {lb lc rb mr : Nat} {nv gv : Value} {Lc : List Nat} {fm : Value → Option Value} {nodes group V : List En} (m : OM w wr lb lc rb nv gv Lc mr fm nodes group V) {k : Nat} (hk : k < Lc.length) : wr.cell? ⟨lb, k, none⟩ = some (.int .i64 (Lc[k] : Int)) := by
  rw [m.list.cellAt k (by omega)]; simp [toZ, hk]
theorem flat3 : ∀ (G : List En) (j : Nat) (hj : j < G.length) (t : Nat), t < 3 → (G.flatMap En.cells)[j * 3 + t]? = (G[j].cells)[t]?
  | [], j, hj, _, _ => by simp at hj
  | x :: G, 0, _, t, ht => by
    rw [List.flatMap_cons, List.getElem?_append_left (by simp [En.cells]; omega)]; simp
  | x :: G, j + 1, hj, t, ht => by
    rw [List.flatMap_cons, List.getElem?_append_right (by simp [En.cells]; omega)]
    have e : (j + 1) * 3 + t - x.cells.length = j * 3 + t := by simp [En.cells]; omega
    rw [e, flat3 G j (by simpa using hj) t ht]; simp
theorem ent_cell {w wr : World} {lb lc rb mr gg cg : Nat} {nv : Value} {Lc : List Nat} {fm : Value → Option Value} {nodes group V : List En} (m : OM w wr lb lc rb nv (.slice (some ⟨gg, 0, none⟩) group.length cg) Lc mr fm nodes group V) {j : Nat} (hj : j < group.length) (t : Nat) (ht : t < 3) : wr.cell? ⟨gg, j * 3 + t, none⟩ = (group[j].cells)[t]? := by
  rw [← flat3 group j hj t ht]
  exact m.grp.cellAt (j * 3 + t) (by omega)
def rowsGrp : List Row := [⟨0, [], 65, [10]⟩, ⟨1, [], 66, [12]⟩, ⟨2, [], 67, [2]⟩, ⟨3, [2], 68, [66]⟩, ⟨4, [3], 69, [67]⟩, ⟨5, [4], 70, [68]⟩, ⟨6, [], 71, [12]⟩, ⟨7, [5, 6], 72, [69, 70]⟩, ⟨8, [7], 73, [71]⟩, ⟨9, [], 74, [7]⟩, ⟨10, [8, 9], 75, [72, 73]⟩, ⟨11, [], 76, [2]⟩, ⟨12, [11], 77, [75]⟩, ⟨13, [12], 78, [76]⟩, ⟨14, [13], 79, [77]⟩, ⟨15, [], 80, [12]⟩, ⟨16, [14, 15], 81, [78, 79]⟩, ⟨17, [16], 82, [80]⟩, ⟨18, [], 83, [7]⟩, ⟨19, [17, 18, 10], 84, [81, 82]⟩, ⟨20, [10, 19], 85, [74, 83]⟩, ⟨21, [1, 20], 86, [65, 84]⟩, ⟨22, [21], 87, [85]⟩, ⟨23, [0, 22, 19], 88, [64, 86]⟩, ⟨24, [23, 23, 0, 1, 2, 3, 4, 5, 6, 7, 8, 9, 10, 11, 12, 13, 14, 15, 16, 17, 18, 19, 20, 21, 22, 23], 11, [87]⟩]

set_option maxHeartbeats 8000000 in
theorem order_any (pp h : Nat) (s : PSt) (root : Nat) (v : Value) (T : Nat → Prop) (w : World) (hP : PoolAt w pp h s) (hr : root < s.D.length) (hv : SInts T w v [root]) :
    Calls Tryz.prog 118 #[.pointer (some ⟨pp, 0, none⟩), v] w (OrderPost s root w) := by
  have hds := hP.small
  obtain ⟨i0, hi0, hz0, hz1, hz2⟩ := info_parts info_int
  obtain ⟨iN, hiN, zN0, zN1, zN2⟩ := info_parts info_node
  have hmm := fun w : World => run_makeMap_plain (P := Tryz.prog) (w := w) 135
  have hx1 : Ext w (w.alloc (.cells #[.pointer (some ⟨pp, 0, none⟩)] 96)) := by go_grown
  have hbx := new_cell w (.pointer (some ⟨pp, 0, none⟩)) 96
  have hz1s : (w.alloc (.cells #[.pointer (some ⟨pp, 0, none⟩)] 96)).heap.size = w.heap.size + 1 := World.size_alloc _ _
  go_enter Tryz.func118, Tryz.ntmps118
  go_upto_region 1 with fail
  generalize w.alloc (.cells #[.pointer (some ⟨pp, 0, none⟩)] 96) = W1 at *
  go_upto_region 2 with (go_at_call 117; refine (parts_any pp h s _ [root] T W1 (hP.ext hx1) (by simpa using hr) (by simp) (hv.ext hx1)).mono ?_; rintro e w2 ⟨v2, Ls, rfl, ho2, hnd2, hm2, hx2⟩)
  have hm2' : ∀ j, j ∈ Ls ↔ Cgt.Reach s.D root j := fun j => by rw [hm2]; simp
  have hrL : root ∈ Ls := (hm2' root).2 .here
  have hL0 : 0 < Ls.length := List.length_pos_of_mem hrL
  have hLD : ∀ x, x ∈ Ls → x < s.D.length := fun x hx => by have := Cgt.reach_lt hP.good.wf ((hm2' x).1 hx); omega
  have hLl : Ls.length ≤ 900000 := by have := nodup_len hnd2 hLD; omega
  obtain ⟨lb, lc, rfl, hlc, hlm, -⟩ := own_at ho2 hL0
  have hlbw := ho2.lt lb rfl
  have hE2 := ext_trans hx1 hx2
  have hSB := sortBorn_any pp h s w.heap.size W1.heap.size lb lc Ls w2 (hP.ext hE2) ho2 hLD hL0 (by omega) ((hx2.cell (lt_of_cell hbx)).trans hbx) (by omega) (hP.new (by omega)).1 (hP.new (by omega)).2
  go_upto_region 3 with (go_at_call 163; refine hSB.mono ?_; rintro e w3 ⟨rfl, L0, hp3, hs3, ho3, hk3⟩)
  have hE3 : Ext w w3 := ext_keep hE2 hk3 (fun b hb => by omega)
  have hbx3 := (World.cell?_of_block (hk3.block w.heap.size (Nat.lt_of_lt_of_le (lt_of_cell hbx) hx2.size) (by omega))).trans ((hx2.cell (lt_of_cell hbx)).trans hbx)
  have hn3 := hp3.length_eq
  have HST := Lib.hid (StInv.start (D := s.D) (root := root) (hp3.symm.nodup hnd2) (fun j => by rw [hp3.mem_iff]; exact hm2' j) hs3)
  have hL0D : ∀ x, x ∈ L0 → x < s.D.length := fun x hx => hLD x (hp3.mem_iff.1 hx)
  obtain ⟨N, hN⟩ : ∃ N, N = Ls.length := ⟨_, rfl⟩
  rw [← hN] at ho3 hL0 hLl hn3 hlc ⊢
  have hmk := fun w : World => run_make (P := Tryz.prog) w 26 89 iN (.agg #[.slice none 0 0, .slice none 0 0]) Tryz.underlying26 hiN zN0 .i64 .i64 (0 : Int) (N : Int) (by omega) (by omega) (by rw [zN2]; omega) (by omega)
  simp only [zN1, Int.toNat_natCast, Int.toNat_zero, Nat.zero_mul, Value.cells] at hmk
  have hP3 := hP.ext hE3
  clear hSB hm2 hm2' hnd2 hrL hLD ho2 hp3 hs3 hN hE2 hv
  go_upto_region 5 with fail
  have hE13 : Ext W1 w3 := ext_keep hx2 hk3 (fun b hb => by omega)
  have hOM := order_start hE13 hn3 (by omega) (Nat.le_refl _) ho3
  have hbxW := hbx
  have hbx4 : ((w3.alloc (.map #[] 0)).alloc (.cells (madeCells #[Value.slice none 0 0, .slice none 0 0] (N * 2)) 89)).cell? ⟨w.heap.size, 0, none⟩ = some (.pointer (some ⟨pp, 0, none⟩)) := alloc_cell (alloc_cell hbx3 _) _
  generalize (w3.alloc (.map #[] 0)).alloc (.cells (madeCells #[Value.slice none 0 0, .slice none 0 0] (N * 2)) 89) = W4 at *
  have hlbp : lb ≠ w.heap.size := by omega
  generalize hrb : w3.heap.size = rb at *
  have hrbp : rb ≠ w.heap.size := by have := lt_of_cell hbx3; simp only at this; omega
  clear hmk hmm ho3 hbx3 hE3 hP3 hrb hk3 hx2 hE13 hbx
  have HI0 := Lib.hid (show OInv s.D root N [] [] (List.replicate (root + 1) 0) 0 L0 (fun _ => none) from ⟨HST.out, rfl, by simpa using hn3, by simp⟩)
  go_wp2
  go_loopw [8, 9, 10, 11, 12, 13] (fun nv ff _ _ _ _ wr => ∃ (nodes : List En) (idx at_ : List Nat) (b : Nat) (rest : List Nat) (fm : Value → Option Value), ff = .int .i64 ((idx.length : Nat) : Int) ∧ OM W1 wr lb lc rb nv (.slice none 0 0) (idx ++ rest) idx.length fm nodes [] nodes ∧ Hid (OInv s.D root N nodes idx at_ b rest fm)) (fun _ ff _ _ _ _ _ => N - (intOf ff).toNat)
  case atStart => exact ⟨[], [], List.replicate (root + 1) 0, 0, L0, fun _ => none, rfl, hOM, HI0⟩
  case round =>
    clear hOM hbx4 HI0
    obtain ⟨nodes, idx, at_, b, rest, fm, rfl, hm, HI⟩ := hrel
    have hbx := (hm.ext.cell (lt_of_cell hbxW)).trans hbxW
    have hlen := HI.out.len
    rw [List.length_append] at hlen
    have hnl : nodes.length = idx.length := by have := congrArg List.length HI.out.ids; simpa using this
    by_cases hre : rest.length = 0
    · have hrn : rest = [] := List.eq_nil_of_length_eq_zero hre
      subst hrn
      have h1 : ¬ (((idx.length : Nat) : Int) < ((N : Nat) : Int)) := by omega
      have HL := Lib.hid (HI.out.st.last hP.good hr)
      have HND := Lib.hid (show (nodes.map En.id).Nodup by have := HI.out.st.nd; rw [List.append_nil, ← HI.out.ids] at this; exact this)
      have HMB := Lib.hid (show ∀ j, j ∈ nodes.map En.id ↔ Cgt.Reach s.D root j from fun j => by rw [HI.out.ids, ← HI.out.st.mem j, List.append_nil])
      obtain ⟨an, cn, rfl, -, -⟩ := own_len hm.node
      clear hlen hre hnl
      go_wp2
      refine bodyPost_ret (results_tmp2 rfl _ _ _) rfl ?_
      exact ⟨W1, _, _, lb, lc, rb, _, _, _, fm, nodes, rfl, hx1, hm, HL.out.1, HL.out.2, HND.out, HMB.out⟩
    · have h1 : ((idx.length : Nat) : Int) < ((N : Nat) : Int) := by omega
      have h0 : 0 < rest.length := by omega
      have HS := Lib.hid (HI.out.st.stage h0)
      obtain ⟨b0, hb0⟩ : ∃ b0, b0 = Cgt.born (vl s.D rest[0]) := ⟨_, rfl⟩
      rw [← hb0] at HS
      have HB0 := Lib.hid hb0
      have hm1 := hm.gnew
      have hbx1 : (wr.alloc (.cells #[] 192)).cell? ⟨w.heap.size, 0, none⟩ = some (.pointer (some ⟨pp, 0, none⟩)) := alloc_cell hbx _
      clear hb0 hbx hm hre
      go_upto_region 8 with fail
      generalize wr.alloc (.cells #[] 192) = W5 at *
      generalize hgb : wr.heap.size = gb0 at *
      obtain ⟨an, cn, rfl, -, -⟩ := own_len hm1.node
      go_wp2
      go_loopw [10, 11, 12] (fun gv kk _ wr => ∃ (q : Nat) (group : List En), q ≤ rest.length ∧ kk = .int .i64 ((idx.length + q : Nat) : Int) ∧ OM W1 wr lb lc rb (.slice an nodes.length cn) gv (idx ++ rest) idx.length fm nodes group (nodes ++ group) ∧ Hid (GInv s.D at_ b0 q rest group)) (fun _ kk _ _ => N - (intOf kk).toNat)
      case atStart => exact ⟨0, [], Nat.zero_le _, rfl, by rw [List.append_nil]; exact hm1, GInv.start _ _ _ _⟩
      case round =>
        clear hm1 hbx1 hgb
        obtain ⟨q, group, hq, rfl, hm, HG⟩ := hrel
        have hbx := (hm.ext.cell (lt_of_cell hbxW)).trans hbxW
        have hgl := HG.out.len hq
        obtain ⟨kn, hkn⟩ : ∃ n, n = idx.length + q := ⟨_, rfl⟩
        rw [← hkn]
        have HKN := Lib.hid hkn
        replace hnl := Lib.hid hnl
        by_cases hqe : q = rest.length
        · have h2 : ¬ (((kn : Nat) : Int) < ((N : Nat) : Int)) := by omega
          clear hkn
          have HQ := Lib.hid (show ∀ hl : q < rest.length, Cgt.born (vl s.D rest[q]) ≠ b0 from fun hl => absurd hl (by omega))
          go_upto_region 9 with fail
          go_quiet (fail)
          generalize hW6 : wr.drewN nq = W6
          have hd6 : Ext wr W6 := by rw [← hW6]; exact rd_ext ⟨_, rfl⟩
          have hm6 := hm.ext' hd6
          have hq1 : 0 < q := by
            rcases Nat.eq_zero_or_pos q with e | e
            · subst e; exact absurd HB0.out.symm (HQ.out h0)
            · exact e
          replace hgl := Lib.hid hgl
          have hgl0 : 0 < group.length ∧ group.length ≤ 1000000 := by have := hgl.out; omega
          clear hW6 hm hbx
          obtain ⟨gg, cg, rfl, -, -, -⟩ := own_at hm6.grp hgl0.1
          have hgg := hm6.grp.lt gg rfl
          have hSE := Lib.hid (sortEnts_any W1.heap.size gg cg group W6 hm6.grp (fun e he => hm6.ents e (List.mem_append.2 (.inr he))) (fun e he hb => (hm6.far e (List.mem_append.2 (.inr he)) gg hb).2.2.2 rfl) hgl0.1 hgl0.2)
          go_upto_region 14 with (go_at_call 166; refine hSE.out.mono ?_; rintro e w7 ⟨rfl, G', hp7, hs7, ho7, hk7⟩)
          have hm7 := hm6.gsort hp7 ho7 hk7
          have hGl := hp7.length_eq
          rw [← hGl] at ⊢
          have hGn : ∀ e, e ∈ G' → e.nd = Xn s.D at_ e.id := fun e he => HG.out.nds e (hp7.mem_iff.1 he)
          have hpi : (G'.map En.id).Perm (rest.take q) := by rw [← HG.out.ids]; exact hp7.map _
          have hsi : (G'.map En.id).Pairwise (fun x y => ¬ Cgt.nc (Xn s.D at_ y) (Xn s.D at_ x) < 0) := by
            rw [List.pairwise_map]
            exact List.Pairwise.imp_of_mem (fun {a b} ha hb hab => by rw [← hGn a ha, ← hGn b hb]; omega) hs7
          have HNX := Lib.hid (HS.out.next hP.good hr hq HG.out.born HQ.out hpi hsi)
          have HGN := Lib.hid hGn
          have hgq : G'.length = q := by rw [hGl]; exact hgl.out
          have hnl2 := hnl.out
          have HAT := Lib.hid (fun j (hj : j < (G'.map En.id).length) => atNext_in (at_ := at_) (n := (nodes.map En.nd).length) (root := root) HNX.out.2.1 HNX.out.2.2.1 j hj)
          have HAO := Lib.hid (fun y (hy : y ∉ G'.map En.id) => atNext_out (from_ := G'.map En.id) (n := (nodes.map En.nd).length) (root := root) HS.out.form.atl y hy)
          have HFL : Hid ((nodes.map En.nd).length = idx.length) := Lib.hid (by rw [List.length_map]; exact hnl.out)
          have HR0 : Hid (∀ x, x ∈ idx ++ (G'.map En.id).take 0 → fm (.int .i64 (x : Int)) = some (.int .i64 (((atNext at_ (G'.map En.id) (nodes.map En.nd).length root).getD x 0 : Nat) : Int))) := Lib.hid (fun x hx => by
            rw [List.take_zero, List.append_nil] at hx
            have hn : x ∉ G'.map En.id := fun hy => HNX.out.2.2.2 x hy hx
            rw [HI.out.rank x hx, List.getD_eq_getElem?_getD, List.getD_eq_getElem?_getD, HAO.out x hn])
          have HGQ := Lib.hid hgq
          clear hm6 hSE hp7 hs7 ho7 hk7 hGl hGn hpi hsi hgq hnl2
          generalize atNext at_ (G'.map En.id) (nodes.map En.nd).length root = at2 at *
          obtain ⟨from_, hfr⟩ : ∃ f, f = G'.map En.id := ⟨_, rfl⟩
          rw [← hfr] at HR0 HAT HNX HAO
          have HFR := Lib.hid hfr
          clear hfr
          go_wp2
          go_loopw [8, 13, 14, 92] (fun nv _ _ ii wr => ∃ (j : Nat) (fm' : Value → Option Value), j ≤ G'.length ∧ ii = .int .i64 ((j : Nat) : Int) ∧ OM W1 wr lb lc rb nv (.slice (some ⟨gg, 0, none⟩) G'.length cg) (idx ++ (from_.take j ++ rest.drop j)) (idx.length + j) fm' (nodes ++ G'.take j) G' (nodes ++ G') ∧ Hid (∀ x, x ∈ idx ++ from_.take j → fm' (.int .i64 (x : Int)) = some (.int .i64 ((at2.getD x 0 : Nat) : Int)))) (fun _ _ _ ii _ => G'.length - (intOf ii).toNat)
          case atStart => exact ⟨0, fm, Nat.zero_le _, rfl, by simpa using hm7, HR0⟩
          case round =>
            clear hm7 HR0
            obtain ⟨j, fm', hj, rfl, hm, HR⟩ := hrel
            by_cases hjl : j < G'.length
            · have h3 : ((j : Nat) : Int) < ((G'.length : Nat) : Int) := by omega
              have hNl : idx.length + G'.length ≤ 900000 := by have := HGQ.out; omega
              have hfl : from_.length = G'.length := by rw [HFR.out, List.length_map]
              have hjr : j < rest.length := by have := HGQ.out; omega
              have hLc : (idx ++ (from_.take j ++ rest.drop j)).length = N := by simp; omega
              have k0 := ent_cell hm hjl 0 (by omega)
              have k1 := ent_cell hm hjl 1 (by omega)
              have k2 := ent_cell hm hjl 2 (by omega)
              have hen := hm.ents _ (List.mem_append.2 (.inr (List.getElem_mem hjl)))
              have htk : nodes ++ G'.take (j + 1) = (nodes ++ G'.take j) ++ [G'[j]] := by rw [List.take_succ_eq_append_getElem hjl, List.append_assoc]
              have hfj : from_[j]? = some G'[j].id := by rw [HFR.out, List.getElem?_map, List.getElem?_eq_getElem hjl]; rfl
              have hidD : G'[j].id < 900000 := by
                have h1 : G'[j].id ∈ from_ := List.mem_of_getElem? hfj
                have := HNX.out.2.2.1 _ h1; omega
              have hll := list_at hm (k := idx.length + j) (by omega)
              have hlf := hm.list.frozenAt (idx.length + j)
              obtain ⟨e, hee⟩ : ∃ e, e = G'[j] := ⟨_, rfl⟩
              rw [← hee] at k0 k1 k2 hen htk hfj hidD
              have HFJ := Lib.hid (And.intro htk hfj)
              have HEE := Lib.hid hee
              clear hee htk hfj
              obtain ⟨eid, elv, erv, el, er⟩ := e
              obtain ⟨b1, d1, e1, -, -⟩ := own_len hen.1
              obtain ⟨b2, d2, e2, -, -⟩ := own_len hen.2.1
              dsimp only at e1 e2
              subst e1 e2
              simp only [En.cells, List.getElem?_cons_zero, List.getElem?_cons_succ, Nat.add_zero] at k0 k1 k2
              obtain ⟨np, hnp⟩ : ∃ np, np = nodes ++ G'.take j := ⟨_, rfl⟩
              have hnn : np.length ≤ 1000000 := by rw [hnp, List.length_append, List.length_take, hnl.out]; omega
              have HNP := Lib.hid hnp
              rw [← hnp] at hm
              obtain ⟨av, cv, rfl, -, -⟩ := own_len hm.node
              have hki := keyOfI eid (by simp only at hidD; omega)
              have HM := Lib.hid hm
              have HR2 := Lib.hid HR.out
              clear hnp
              have hx10 : Ext wr (wr.alloc (.cells #[.int .i64 (eid : Int), .slice b1 el.length d1, .slice b2 er.length d2] 192)) := ext_alloc (Below.refl _ _) _
              have hm10 := hm.ext' hx10
              have f0 : (wr.alloc (.cells #[.int .i64 (eid : Int), .slice b1 el.length d1, .slice b2 er.length d2] 192)).cell? ⟨wr.heap.size, 0, none⟩ = some (.int .i64 (eid : Int)) := World.cell?_alloc_at _ _ _ 0 rfl
              have f1 : (wr.alloc (.cells #[.int .i64 (eid : Int), .slice b1 el.length d1, .slice b2 er.length d2] 192)).cell? ⟨wr.heap.size, 1, none⟩ = some (.slice b1 el.length d1) := World.cell?_alloc_at _ _ _ 1 rfl
              have f2 : (wr.alloc (.cells #[.int .i64 (eid : Int), .slice b1 el.length d1, .slice b2 er.length d2] 192)).cell? ⟨wr.heap.size, 2, none⟩ = some (.slice b2 er.length d2) := World.cell?_alloc_at _ _ _ 2 rfl
              have hlbw := (hm.lbLt).2
              have hrbw := hm.rank.lt
              have hwz : (wr.alloc (.cells #[.int .i64 (eid : Int), .slice b1 el.length d1, .slice b2 er.length d2] 192)).heap.size = wr.heap.size + 1 := World.size_alloc _ _
              clear hm hen
              go_upto_region 17 with fail
              clear k0 k1 k2 hll hlf
              generalize wr.alloc (.cells #[.int .i64 (eid : Int), .slice b1 el.length d1, .slice b2 er.length d2] 192) = W10 at *
              generalize heb : wr.heap.size = eb at *
              have hkr : idx.length + j < N := by omega
              have hlL : ((idx.length + j : Nat) : Int) < (N : Int) := by omega
              have hlc := hm10.list.frozenAt (idx.length + j)
              have hln := list_at hm10 (k := idx.length + j) (by omega)
              have hS1 := hm10.lset (k := idx.length + j) (by omega) eid
              clear heb
              go_upto_region 18 with fail
              have hfj' : ∃ h : j < from_.length, from_[j] = eid := by
                have := HFJ.out.2
                obtain ⟨h, e⟩ := List.getElem?_eq_some_iff.1 this
                exact ⟨h, e⟩
              have hfl2 : from_.length ≤ rest.length := by have := HGQ.out; omega
              rw [← hfj'.2, list_step hfj'.1 hfl2] at hS1
              rw [hfj'.2] at hS1
              have hebl : eb ≠ lb := by omega
              have hebr : eb ≠ rb := by omega
              have g0 := (World.cell?_setCell_other W10 ⟨lb, idx.length + j, none⟩ ⟨eb, 0, none⟩ (.int .i64 (eid : Int)) (by simp [hebl.symm])).trans f0
              have g1 := (World.cell?_setCell_other W10 ⟨lb, idx.length + j, none⟩ ⟨eb, 1, none⟩ (.int .i64 (eid : Int)) (by simp [hebl.symm])).trans f1
              have g2 := (World.cell?_setCell_other W10 ⟨lb, idx.length + j, none⟩ ⟨eb, 2, none⟩ (.int .i64 (eid : Int)) (by simp [hebl.symm])).trans f2
              generalize W10.setCell ⟨lb, idx.length + j, none⟩ (.int .i64 (eid : Int)) = W11 at *
              clear f0 f1 f2 hlc hln hm10
              have hM := hS1.rank
              have hS1h := Lib.hid hS1
              obtain ⟨kj, hkj⟩ : ∃ n, n = idx.length + j := ⟨_, rfl⟩
              have HKJ := Lib.hid hkj
              have hkjb : idx.length + j ≤ 900000 := by omega
              clear hS1 hx10 hkj
              go_upto_region 19 with (at_mapUpdate; refine store_list rfl _ _ _ 135 rfl 3 3 keyedI Tryz.underlying135 rb (idx.length + j) fm' rfl hM (by unfold maxLen; omega) (.int .i64 (eid : Int)) (.int .i64 ((idx.length + j : Nat) : Int)) rfl (by go_num) hki ?_; intro w12 hM12 hg12)
              have hm12 := hS1h.out.rset hM12 hg12
              have hb12 : w12.heap[eb]? = W11.heap[eb]? := (keep_grown hg12).block eb (by have := lt_of_cell g1; exact this) (fun h => hebr h)
              have d1' := (World.cell?_of_block hb12).trans g1
              have d2' := (World.cell?_of_block hb12).trans g2
              have hw12 : W1.heap.size ≤ w12.heap.size := hm12.ext.size
              clear g0 g1 g2 hb12 hS1h hM hM12 hg12
              go_wp2_with (at_builtin; refine app_list rfl (.tmp 110) (.tmp 113) 26 rfl W1.heap.size 89 iN (.agg #[.slice none 0 0, .slice none 0 0]) 2 48 Tryz.underlying26 hiN zN0 zN1 zN2 rfl (by decide) (.slice av np.length cv) np.length _ rfl (hm12.node.alloc _) _ 1 _ [.slice b1 el.length d1, .slice b2 er.length d2] rfl rfl (.inr ⟨_, rfl, two_src⟩) two_cell (by unfold maxLen; omega) (by omega) (by rw [World.size_alloc]; omega) ?_; intro v13 w13 ho13 hg13 hl13)
              go_roundw
              case rel =>
                have hm13 := hm12.nadd (e := ⟨eid, .slice b1 el.length d1, .slice b2 er.length d2, el, er⟩) (ext_alloc (Below.refl _ _) _) hg13 ho13 (by simp) (by simp [En.two]) hl13
                rw [HNP.out, ← HFJ.out.1] at hm13
                exact ⟨j + 1, _, by omega, by go_num, hm13, Lib.hid (by
                  have hr := rank_step (at2 := at2) (m := idx.length + j) (j := j) (from_ := from_) hfj'.1 HR2.out (by rw [← HFL.out]; exact HAT.out j hfj'.1)
                  rw [hfj'.2] at hr
                  exact hr)⟩
              case measure => simp [intOf]; omega
            · have hje : j = G'.length := by omega
              subst hje
              have h3 : ¬ (((G'.length : Nat) : Int) < ((G'.length : Nat) : Int)) := by omega
              have hNl : idx.length + G'.length ≤ 900000 := by have := HGQ.out; omega
              have hfl : from_.length = G'.length := by rw [HFR.out, List.length_map]
              have hft : from_.take G'.length = from_ := by rw [← hfl, List.take_length]
              rw [hft, List.take_length] at hm
              have HR2 := Lib.hid HR.out
              rw [hft] at HR2
              have hmd := hm.gdrop
              have hrl : G'.length = q := HGQ.out
              have e1 : idx ++ (from_ ++ rest.drop G'.length) = (idx ++ from_) ++ rest.drop q := by rw [hrl, List.append_assoc]
              have e2 : idx.length + G'.length = (idx ++ from_).length := by rw [List.length_append, hfl]
              rw [e1, e2] at hmd
              have HMD := Lib.hid hmd
              have HE2 := Lib.hid e2
              have HO : Hid (OInv s.D root N (nodes ++ G') (idx ++ from_) at2 (b0 + 1) (rest.drop q) fm') := Lib.hid ⟨by
                have h := HNX.out.1
                have e : (nodes ++ G').map En.nd = nodes.map En.nd ++ from_.map (Xn s.D at_) := by
                  rw [List.map_append, HFR.out, List.map_map]
                  congr 1
                  exact List.map_congr_left fun e he => HGN.out e he
                rw [e]; exact h, by rw [List.map_append, HI.out.ids, HFR.out], by rw [List.length_append, List.length_append, List.length_drop, hfl]; omega, HR2.out⟩
              have hrl' := Lib.hid hrl
              clear hm hmd e1 e2 hft HR HR2 hrl
              go_wp2
              go_roundw
              case rel => exact ⟨nodes ++ G', idx ++ from_, at2, b0 + 1, rest.drop q, fm', by rw [← HE2.out]; go_num, HMD.out, HO⟩
              case measure => have := hrl'.out; simp [intOf]; omega
        · have hql : q < rest.length := by omega
          have h2 : ((kn : Nat) : Int) < ((N : Nat) : Int) := by omega
          have hE0 := ext_trans hx1 hm.ext
          have hPr := hP.ext hE0
          obtain ⟨x, hxe⟩ : ∃ x, x = rest[q] := ⟨_, rfl⟩
          obtain ⟨y, hye⟩ : ∃ y, y = rest[0] := ⟨_, rfl⟩
          have hxr : Cgt.Reach s.D root x := by rw [hxe]; exact HS.out.reach (List.getElem_mem hql)
          have hyr : Cgt.Reach s.D root y := by rw [hye]; exact HS.out.reach (List.getElem_mem h0)
          have hxD : x < s.D.length := by have := Cgt.reach_lt hP.good.wf hxr; omega
          have hyD : y < s.D.length := by have := Cgt.reach_lt hP.good.wf hyr; omega
          have lx := list_at hm (k := idx.length + q) (by rw [List.length_append]; omega)
          have ly := list_at hm (k := idx.length) (by rw [List.length_append]; omega)
          rw [List.getElem_append_right (by omega)] at lx ly
          simp only [Nat.add_sub_cancel_left, Nat.sub_self] at lx ly
          rw [← hxe, ← hkn] at lx
          rw [← hye] at ly
          obtain ⟨gb, cb, c2, hgb1, hgb2, cx⟩ := hPr.bornAt hxD
          obtain ⟨gb', cb', c2', -, -, cy⟩ := hPr.bornAt hyD
          rw [c2] at c2'
          simp only [Option.some.injEq, Value.slice.injEq, Addr.mk.injEq, true_and, and_true] at c2'
          obtain ⟨rfl, rfl⟩ := c2'
          have hby : Cgt.born (vl s.D y) = b0 := by rw [HB0.out, hye]
          rw [hby] at cy
          by_cases hbq : Cgt.born (vl s.D x) = b0
          · rw [hbq] at cx
            have HX := Lib.hid (And.intro hxe (And.intro hxr hbq))
            have hxm : x ∈ rest := by rw [hxe]; exact List.getElem_mem hql
            have hoL := HS.out.opts hP.good hxm hbq true
            have hoR := HS.out.opts hP.good hxm hbq false
            have hlL := opt_len hP.good (left := true) (f := x)
            have hlR := opt_len hP.good (left := false) (f := x)
            obtain ⟨gr, capr, aR, cR, cpp1, hgr1, hgr2, cgr, hSR⟩ := hP.rightAt hxD
            obtain ⟨gl, capl, aL, cL, cpp0, hgl1, hgl2, cgl, hSL⟩ := hP.leftAt hxD
            rw [← (opt_at hxD).1] at cgl hSL
            rw [← (opt_at hxD).2] at cgr hSR
            have hbdI : ∀ y, y ∈ idx → y < 900000000 ∧ at_.getD y 0 < 900000000 := fun y hy => by
              have h1 := ((HS.out.form.mem y).1 hy).1
              have h2 := Cgt.reach_lt hP.good.wf h1
              have h3 := atl_bound HS.out.form hy
              omega
            have HXN := Lib.hid (show (sortN ((opt s.D true x).map fun y => at_.getD y 0), sortN ((opt s.D false x).map fun y => at_.getD y 0)) = Xn s.D at_ x from rfl)
            generalize hOL : opt s.D true x = OL at *
            generalize hOR : opt s.D false x = OR at *
            obtain ⟨ag, cg, rfl, -, -⟩ := own_len hm.grp
            replace hgl := Lib.hid hgl
            have hgn : group.length ≤ 900000 := by have := hgl.out; omega
            clear hxe hye hxr hyr hby hbq hPr hkn hOL hOR hxm
            go_upto_region 9 with fail
            go_quiet (fail)
            generalize hW6 : wr.drewN nq = W6
            have hd6 : Ext wr W6 := by rw [← hW6]; exact rd_ext ⟨_, rfl⟩
            have hm6 := hm.ext' hd6
            have hbx6 := (hd6.cell (lt_of_cell hbx)).trans hbx
            have lx6 := (hd6.cell (lt_of_cell lx)).trans lx
            clear hW6 lx ly cx cy c2
            go_upto_region 12 with fail
            have hE6 := ext_trans hx1 hm6.ext
            have d0 := (hE6.cell (lt_of_cell cpp0)).trans cpp0
            have d1 := (hE6.cell (lt_of_cell cpp1)).trans cpp1
            have dl := (hE6.cell (lt_of_cell cgl)).trans cgl
            have dr := (hE6.cell (lt_of_cell cgr)).trans cgr
            have hRL : ∀ W, Ext W6 W → Calls Tryz.prog 165 #[.slice aL OL.length cL, .map (some rb)] W (RankPost (OL.map fun y => at_.getD y 0) W) := fun W hW => ranked_any _ OL rb idx.length fm _ W (hSL.ext (ext_trans hE6 hW)).out (by omega) (fun y hy => (hbdI y (hoL.1 y hy)).1) ((hm6.ext' hW).rank) (fun y hy => HI.out.rank y (hoL.1 y hy)) hoL.2.1
            have hRR : ∀ W, Ext W6 W → Calls Tryz.prog 165 #[.slice aR OR.length cR, .map (some rb)] W (RankPost (OR.map fun y => at_.getD y 0) W) := fun W hW => ranked_any _ OR rb idx.length fm _ W (hSR.ext (ext_trans hE6 hW)).out (by omega) (fun y hy => (hbdI y (hoR.1 y hy)).1) ((hm6.ext' hW).rank) (fun y hy => HI.out.rank y (hoR.1 y hy)) hoR.2.1
            have hbdL : ∀ y, y ∈ sortN (OL.map fun y => at_.getD y 0) → y < 900000000 := fun y hy => by obtain ⟨z, hz, rfl⟩ := List.mem_map.1 (sortN_mem.1 hy); exact (hbdI z (hoL.1 z hz)).2
            have hbdR : ∀ y, y ∈ sortN (OR.map fun y => at_.getD y 0) → y < 900000000 := fun y hy => by obtain ⟨z, hz, rfl⟩ := List.mem_map.1 (sortN_mem.1 hy); exact (hbdI z (hoR.1 z hz)).2
            have hsL := sortN_len (OL.map fun y => at_.getD y 0)
            have hsR := sortN_len (OR.map fun y => at_.getD y 0)
            rw [List.length_map] at hsL hsR
            generalize hLL : sortN (OL.map fun y => at_.getD y 0) = LL at *
            generalize hRR' : sortN (OR.map fun y => at_.getD y 0) = RR at *
            obtain ⟨iE, hiE, zE0, zE1, zE2⟩ := info_parts info_entry
            refine wp_region_L (fun W => W.cell? ⟨w.heap.size, 0, none⟩ = some (.pointer (some ⟨pp, 0, none⟩)) ∧ W.cell? ⟨pp, 0, none⟩ = some (.slice (some ⟨gl, 0, none⟩) s.D.length capl) ∧ W.cell? ⟨pp, 1, none⟩ = some (.slice (some ⟨gr, 0, none⟩) s.D.length capr) ∧ W.cell? ⟨gl, x, none⟩ = some (.slice aL OL.length cL) ∧ W.cell? ⟨gr, x, none⟩ = some (.slice aR OR.length cR)) [23, 24] rowsGrp (by kernel_rfl) ⟨by kernel_rfl, by kernel_rfl, by kernel_rfl⟩ ⟨hbx6, d0, d1, dl, dr⟩ (fun hTab hHeld => ?_)
            ((refine tkB hTab (i := 0) hHeld ?_); (try simp only [nP]); (refine tkB hTab (i := 1) hHeld ?_); (try simp only [nP]); (refine tkB hTab (i := 2) hHeld ?_); (try simp only [nP]); (refine tkB hTab (i := 3) hHeld ?_); (try simp only [nP]); (refine tkB hTab (i := 4) hHeld ?_); (try simp only [nP]); (refine tkB hTab (i := 5) hHeld ?_); (try simp only [nP]); (refine tkB hTab (i := 6) hHeld ?_); (try simp only [nP]); (refine tkB hTab (i := 7) hHeld ?_); (try simp only [nP]); (refine tkB hTab (i := 8) hHeld ?_); (try simp only [nP]); (refine tkB hTab (i := 9) hHeld ?_); (try simp only [nP]); (refine tkB hTab (i := 11) hHeld ?_); (try simp only [nP]); (refine tkB hTab (i := 12) hHeld ?_); (try simp only [nP]); (refine tkB hTab (i := 13) hHeld ?_); (try simp only [nP]); (refine tkB hTab (i := 14) hHeld ?_); (try simp only [nP]); (refine tkB hTab (i := 15) hHeld ?_); (try simp only [nP]); (refine tkB hTab (i := 16) hHeld ?_); (try simp only [nP]); (refine tkB hTab (i := 17) hHeld ?_); (try simp only [nP]); (refine tkB hTab (i := 18) hHeld ?_); (try simp only [nP]))
            (refine stB hTab (i := 10) fun K hK => ?_; go_simp)
            refine (hRL _ (rd_ext ⟨1, rfl⟩)).mono ?_
            rintro e w7 ⟨v7, rfl, ho7, hx7⟩
            rw [hLL] at ho7
            have hx67 : Ext W6 w7 := ext_trans (rd_ext ⟨1, rfl⟩) hx7
            (refine hK.out _ _ (fun _ => ?_) ?_)
            · exact ⟨(hx67.cell (lt_of_cell hbx6)).trans hbx6, (hx67.cell (lt_of_cell d0)).trans d0, (hx67.cell (lt_of_cell d1)).trans d1, (hx67.cell (lt_of_cell dl)).trans dl, (hx67.cell (lt_of_cell dr)).trans dr⟩
            clear hK K
            (try simp only [nP])
            (refine stB hTab (i := 19) fun K hK => ?_; go_simp)
            refine (hRR _ hx67).mono ?_
            rintro e w8 ⟨v8, rfl, ho8, hx8⟩
            rw [hRR'] at ho8
            clear hLL hRR'
            have hx68 := ext_trans hx67 hx8
            (refine hK.out _ _ (fun _ => ?_) ?_)
            · exact ⟨(hx68.cell (lt_of_cell hbx6)).trans hbx6, (hx68.cell (lt_of_cell d0)).trans d0, (hx68.cell (lt_of_cell d1)).trans d1, (hx68.cell (lt_of_cell dl)).trans dl, (hx68.cell (lt_of_cell dr)).trans dr⟩
            clear hK K
            (try simp only [nP])
            obtain ⟨a7, c7, rfl, -, -⟩ := own_len ho7
            obtain ⟨a8, c8, rfl, -, -⟩ := own_len ho8
            have hS8 : w8.cell? ⟨w.heap.size, 0, none⟩ = some (.pointer (some ⟨pp, 0, none⟩)) ∧ w8.cell? ⟨pp, 0, none⟩ = some (.slice (some ⟨gl, 0, none⟩) s.D.length capl) ∧ w8.cell? ⟨pp, 1, none⟩ = some (.slice (some ⟨gr, 0, none⟩) s.D.length capr) ∧ w8.cell? ⟨gl, x, none⟩ = some (.slice aL OL.length cL) ∧ w8.cell? ⟨gr, x, none⟩ = some (.slice aR OR.length cR) := ⟨(hx68.cell (lt_of_cell hbx6)).trans hbx6, (hx68.cell (lt_of_cell d0)).trans d0, (hx68.cell (lt_of_cell d1)).trans d1, (hx68.cell (lt_of_cell dl)).trans dl, (hx68.cell (lt_of_cell dr)).trans dr⟩
            clear hHeld
            have hHeld := hS8
            ((refine tkB hTab (i := 20) hHeld ?_); (try simp only [nP]); (refine tkB hTab (i := 21) hHeld ?_); (try simp only [nP]))
            (refine stB hTab (i := 22) fun K hK => ?_; go_simp)
            (refine hK.out _ _ (fun _ => ?_) ?_)
            · exact ⟨alloc_cell hS8.1 _, alloc_cell hS8.2.1 _, alloc_cell hS8.2.2.1 _, alloc_cell hS8.2.2.2.1 _, alloc_cell hS8.2.2.2.2 _⟩
            clear hK K
            (try simp only [nP])
            refine tlB hTab [23, 24] [_, _] ?_
            clear hS8
            have hm8 := hm6.addEnt (e := ⟨x, .slice a7 LL.length c7, .slice a8 RR.length c8, LL, RR⟩) hx68 ⟨own_keep ho7 hx8, own_lower ho8 hx67.size, hbdL, hbdR, by show LL.length ≤ 1000000; omega, by show RR.length ≤ 1000000; omega⟩ (fun b hb hc => by have := (ho7.lt b hb).2; have := (ho8.lt b hc).1; omega)
            have hw8 := hm8.ext.size
            clear hTab hHeld d0 d1 dl dr hRL hRR hm hm6 lx6 hbx hbx6 hSL hSR cgl cgr cpp0 cpp1 hoL hoR hbdL hbdR
            go_wp2_with (at_builtin; refine app_list rfl (.tmp 64) (.tmp 86) 189 rfl W1.heap.size 192 iE (.agg #[.int .i64 0, .slice none 0 0, .slice none 0 0]) 3 56 Tryz.underlying189 hiE zE0 zE1 zE2 rfl (by decide) (.slice ag group.length cg) group.length _ rfl (hm8.grp.alloc _) _ 1 _ [.int .i64 (x : Int), .slice a7 LL.length c7, .slice a8 RR.length c8] rfl rfl (.inr ⟨_, rfl, three_src⟩) three_cell (by unfold maxLen; omega) (by omega) (by rw [World.size_alloc]; omega) ?_; intro v9 w9 ho9 hg9 hl9)
            go_roundw
            case rel =>
              have hm9 := hm8.gadd (e := ⟨x, .slice a7 LL.length c7, .slice a8 RR.length c8, LL, RR⟩) (ext_alloc (Below.refl _ _) _) hg9 ho9 (by simp) (by simp [En.cells]) hl9
              rw [List.append_assoc] at hm9
              exact ⟨q + 1, group ++ [⟨x, .slice a7 LL.length c7, .slice a8 RR.length c8, LL, RR⟩], by omega, by have := HKN.out; go_num, hm9, Lib.hid (HG.out.add (e := ⟨x, .slice a7 LL.length c7, .slice a8 RR.length c8, LL, RR⟩) hql HX.out.1 HXN.out (by rw [← HX.out.1]; exact HX.out.2.2))⟩
            case measure => have := HKN.out; simp [intOf]; omega
          · have hbf : ((Cgt.born (vl s.D x) : Int) == (b0 : Int)) = false := by simp; omega
            have HQ := Lib.hid (show ∀ hl : q < rest.length, Cgt.born (vl s.D rest[q]) ≠ b0 from fun hl => by rw [← hxe]; exact hbq)
            clear hxe hye hxr hyr hby hbq hPr hkn
            go_upto_region 9 with fail
            go_quiet (fail)
            generalize hW6 : wr.drewN nq = W6
            have hd6 : Ext wr W6 := by rw [← hW6]; exact rd_ext ⟨_, rfl⟩
            have hm6 := hm.ext' hd6
            have hq1 : 0 < q := by
              rcases Nat.eq_zero_or_pos q with e | e
              · subst e; exact absurd HB0.out.symm (HQ.out h0)
              · exact e
            replace hgl := Lib.hid hgl
            have hgl0 : 0 < group.length ∧ group.length ≤ 1000000 := by have := hgl.out; omega
            clear hW6 hm hbx
            obtain ⟨gg, cg, rfl, -, -, -⟩ := own_at hm6.grp hgl0.1
            have hgg := hm6.grp.lt gg rfl
            have hSE := Lib.hid (sortEnts_any W1.heap.size gg cg group W6 hm6.grp (fun e he => hm6.ents e (List.mem_append.2 (.inr he))) (fun e he hb => (hm6.far e (List.mem_append.2 (.inr he)) gg hb).2.2.2 rfl) hgl0.1 hgl0.2)
            go_upto_region 14 with (go_at_call 166; refine hSE.out.mono ?_; rintro e w7 ⟨rfl, G', hp7, hs7, ho7, hk7⟩)
            have hm7 := hm6.gsort hp7 ho7 hk7
            have hGl := hp7.length_eq
            rw [← hGl] at ⊢
            have hGn : ∀ e, e ∈ G' → e.nd = Xn s.D at_ e.id := fun e he => HG.out.nds e (hp7.mem_iff.1 he)
            have hpi : (G'.map En.id).Perm (rest.take q) := by rw [← HG.out.ids]; exact hp7.map _
            have hsi : (G'.map En.id).Pairwise (fun x y => ¬ Cgt.nc (Xn s.D at_ y) (Xn s.D at_ x) < 0) := by
              rw [List.pairwise_map]
              exact List.Pairwise.imp_of_mem (fun {a b} ha hb hab => by rw [← hGn a ha, ← hGn b hb]; omega) hs7
            have HNX := Lib.hid (HS.out.next hP.good hr hq HG.out.born HQ.out hpi hsi)
            have HGN := Lib.hid hGn
            have hgq : G'.length = q := by rw [hGl]; exact hgl.out
            have hnl2 := hnl.out
            have HAT := Lib.hid (fun j (hj : j < (G'.map En.id).length) => atNext_in (at_ := at_) (n := (nodes.map En.nd).length) (root := root) HNX.out.2.1 HNX.out.2.2.1 j hj)
            have HAO := Lib.hid (fun y (hy : y ∉ G'.map En.id) => atNext_out (from_ := G'.map En.id) (n := (nodes.map En.nd).length) (root := root) HS.out.form.atl y hy)
            have HFL : Hid ((nodes.map En.nd).length = idx.length) := Lib.hid (by rw [List.length_map]; exact hnl.out)
            have HR0 : Hid (∀ x, x ∈ idx ++ (G'.map En.id).take 0 → fm (.int .i64 (x : Int)) = some (.int .i64 (((atNext at_ (G'.map En.id) (nodes.map En.nd).length root).getD x 0 : Nat) : Int))) := Lib.hid (fun x hx => by
              rw [List.take_zero, List.append_nil] at hx
              have hn : x ∉ G'.map En.id := fun hy => HNX.out.2.2.2 x hy hx
              rw [HI.out.rank x hx, List.getD_eq_getElem?_getD, List.getD_eq_getElem?_getD, HAO.out x hn])
            have HGQ := Lib.hid hgq
            clear hm6 hSE hp7 hs7 ho7 hk7 hGl hGn hpi hsi hgq hnl2
            generalize atNext at_ (G'.map En.id) (nodes.map En.nd).length root = at2 at *
            obtain ⟨from_, hfr⟩ : ∃ f, f = G'.map En.id := ⟨_, rfl⟩
            rw [← hfr] at HR0 HAT HNX HAO
            have HFR := Lib.hid hfr
            clear hfr
            go_wp2
            go_loopw [8, 13, 14, 92] (fun nv _ _ ii wr => ∃ (j : Nat) (fm' : Value → Option Value), j ≤ G'.length ∧ ii = .int .i64 ((j : Nat) : Int) ∧ OM W1 wr lb lc rb nv (.slice (some ⟨gg, 0, none⟩) G'.length cg) (idx ++ (from_.take j ++ rest.drop j)) (idx.length + j) fm' (nodes ++ G'.take j) G' (nodes ++ G') ∧ Hid (∀ x, x ∈ idx ++ from_.take j → fm' (.int .i64 (x : Int)) = some (.int .i64 ((at2.getD x 0 : Nat) : Int)))) (fun _ _ _ ii _ => G'.length - (intOf ii).toNat)
            case atStart => exact ⟨0, fm, Nat.zero_le _, rfl, by simpa using hm7, HR0⟩
            case round =>
              clear hm7 HR0
              obtain ⟨j, fm', hj, rfl, hm, HR⟩ := hrel
              by_cases hjl : j < G'.length
              · have h3 : ((j : Nat) : Int) < ((G'.length : Nat) : Int) := by omega
                have hNl : idx.length + G'.length ≤ 900000 := by have := HGQ.out; omega
                have hfl : from_.length = G'.length := by rw [HFR.out, List.length_map]
                have hjr : j < rest.length := by have := HGQ.out; omega
                have hLc : (idx ++ (from_.take j ++ rest.drop j)).length = N := by simp; omega
                have k0 := ent_cell hm hjl 0 (by omega)
                have k1 := ent_cell hm hjl 1 (by omega)
                have k2 := ent_cell hm hjl 2 (by omega)
                have hen := hm.ents _ (List.mem_append.2 (.inr (List.getElem_mem hjl)))
                have htk : nodes ++ G'.take (j + 1) = (nodes ++ G'.take j) ++ [G'[j]] := by rw [List.take_succ_eq_append_getElem hjl, List.append_assoc]
                have hfj : from_[j]? = some G'[j].id := by rw [HFR.out, List.getElem?_map, List.getElem?_eq_getElem hjl]; rfl
                have hidD : G'[j].id < 900000 := by
                  have h1 : G'[j].id ∈ from_ := List.mem_of_getElem? hfj
                  have := HNX.out.2.2.1 _ h1; omega
                have hll := list_at hm (k := idx.length + j) (by omega)
                have hlf := hm.list.frozenAt (idx.length + j)
                obtain ⟨e, hee⟩ : ∃ e, e = G'[j] := ⟨_, rfl⟩
                rw [← hee] at k0 k1 k2 hen htk hfj hidD
                have HFJ := Lib.hid (And.intro htk hfj)
                have HEE := Lib.hid hee
                clear hee htk hfj
                obtain ⟨eid, elv, erv, el, er⟩ := e
                obtain ⟨b1, d1, e1, -, -⟩ := own_len hen.1
                obtain ⟨b2, d2, e2, -, -⟩ := own_len hen.2.1
                dsimp only at e1 e2
                subst e1 e2
                simp only [En.cells, List.getElem?_cons_zero, List.getElem?_cons_succ, Nat.add_zero] at k0 k1 k2
                obtain ⟨np, hnp⟩ : ∃ np, np = nodes ++ G'.take j := ⟨_, rfl⟩
                have hnn : np.length ≤ 1000000 := by rw [hnp, List.length_append, List.length_take, hnl.out]; omega
                have HNP := Lib.hid hnp
                rw [← hnp] at hm
                obtain ⟨av, cv, rfl, -, -⟩ := own_len hm.node
                have hki := keyOfI eid (by simp only at hidD; omega)
                have HM := Lib.hid hm
                have HR2 := Lib.hid HR.out
                clear hnp
                have hx10 : Ext wr (wr.alloc (.cells #[.int .i64 (eid : Int), .slice b1 el.length d1, .slice b2 er.length d2] 192)) := ext_alloc (Below.refl _ _) _
                have hm10 := hm.ext' hx10
                have f0 : (wr.alloc (.cells #[.int .i64 (eid : Int), .slice b1 el.length d1, .slice b2 er.length d2] 192)).cell? ⟨wr.heap.size, 0, none⟩ = some (.int .i64 (eid : Int)) := World.cell?_alloc_at _ _ _ 0 rfl
                have f1 : (wr.alloc (.cells #[.int .i64 (eid : Int), .slice b1 el.length d1, .slice b2 er.length d2] 192)).cell? ⟨wr.heap.size, 1, none⟩ = some (.slice b1 el.length d1) := World.cell?_alloc_at _ _ _ 1 rfl
                have f2 : (wr.alloc (.cells #[.int .i64 (eid : Int), .slice b1 el.length d1, .slice b2 er.length d2] 192)).cell? ⟨wr.heap.size, 2, none⟩ = some (.slice b2 er.length d2) := World.cell?_alloc_at _ _ _ 2 rfl
                have hlbw := (hm.lbLt).2
                have hrbw := hm.rank.lt
                have hwz : (wr.alloc (.cells #[.int .i64 (eid : Int), .slice b1 el.length d1, .slice b2 er.length d2] 192)).heap.size = wr.heap.size + 1 := World.size_alloc _ _
                clear hm hen
                go_upto_region 17 with fail
                clear k0 k1 k2 hll hlf
                generalize wr.alloc (.cells #[.int .i64 (eid : Int), .slice b1 el.length d1, .slice b2 er.length d2] 192) = W10 at *
                generalize heb : wr.heap.size = eb at *
                have hkr : idx.length + j < N := by omega
                have hlL : ((idx.length + j : Nat) : Int) < (N : Int) := by omega
                have hlc := hm10.list.frozenAt (idx.length + j)
                have hln := list_at hm10 (k := idx.length + j) (by omega)
                have hS1 := hm10.lset (k := idx.length + j) (by omega) eid
                clear heb
                go_upto_region 18 with fail
                have hfj' : ∃ h : j < from_.length, from_[j] = eid := by
                  have := HFJ.out.2
                  obtain ⟨h, e⟩ := List.getElem?_eq_some_iff.1 this
                  exact ⟨h, e⟩
                have hfl2 : from_.length ≤ rest.length := by have := HGQ.out; omega
                rw [← hfj'.2, list_step hfj'.1 hfl2] at hS1
                rw [hfj'.2] at hS1
                have hebl : eb ≠ lb := by omega
                have hebr : eb ≠ rb := by omega
                have g0 := (World.cell?_setCell_other W10 ⟨lb, idx.length + j, none⟩ ⟨eb, 0, none⟩ (.int .i64 (eid : Int)) (by simp [hebl.symm])).trans f0
                have g1 := (World.cell?_setCell_other W10 ⟨lb, idx.length + j, none⟩ ⟨eb, 1, none⟩ (.int .i64 (eid : Int)) (by simp [hebl.symm])).trans f1
                have g2 := (World.cell?_setCell_other W10 ⟨lb, idx.length + j, none⟩ ⟨eb, 2, none⟩ (.int .i64 (eid : Int)) (by simp [hebl.symm])).trans f2
                generalize W10.setCell ⟨lb, idx.length + j, none⟩ (.int .i64 (eid : Int)) = W11 at *
                clear f0 f1 f2 hlc hln hm10
                have hM := hS1.rank
                have hS1h := Lib.hid hS1
                obtain ⟨kj, hkj⟩ : ∃ n, n = idx.length + j := ⟨_, rfl⟩
                have HKJ := Lib.hid hkj
                have hkjb : idx.length + j ≤ 900000 := by omega
                clear hS1 hx10 hkj
                go_upto_region 19 with (at_mapUpdate; refine store_list rfl _ _ _ 135 rfl 3 3 keyedI Tryz.underlying135 rb (idx.length + j) fm' rfl hM (by unfold maxLen; omega) (.int .i64 (eid : Int)) (.int .i64 ((idx.length + j : Nat) : Int)) rfl (by go_num) hki ?_; intro w12 hM12 hg12)
                have hm12 := hS1h.out.rset hM12 hg12
                have hb12 : w12.heap[eb]? = W11.heap[eb]? := (keep_grown hg12).block eb (by have := lt_of_cell g1; exact this) (fun h => hebr h)
                have d1' := (World.cell?_of_block hb12).trans g1
                have d2' := (World.cell?_of_block hb12).trans g2
                have hw12 : W1.heap.size ≤ w12.heap.size := hm12.ext.size
                clear g0 g1 g2 hb12 hS1h hM hM12 hg12
                go_wp2_with (at_builtin; refine app_list rfl (.tmp 110) (.tmp 113) 26 rfl W1.heap.size 89 iN (.agg #[.slice none 0 0, .slice none 0 0]) 2 48 Tryz.underlying26 hiN zN0 zN1 zN2 rfl (by decide) (.slice av np.length cv) np.length _ rfl (hm12.node.alloc _) _ 1 _ [.slice b1 el.length d1, .slice b2 er.length d2] rfl rfl (.inr ⟨_, rfl, two_src⟩) two_cell (by unfold maxLen; omega) (by omega) (by rw [World.size_alloc]; omega) ?_; intro v13 w13 ho13 hg13 hl13)
                go_roundw
                case rel =>
                  have hm13 := hm12.nadd (e := ⟨eid, .slice b1 el.length d1, .slice b2 er.length d2, el, er⟩) (ext_alloc (Below.refl _ _) _) hg13 ho13 (by simp) (by simp [En.two]) hl13
                  rw [HNP.out, ← HFJ.out.1] at hm13
                  exact ⟨j + 1, _, by omega, by go_num, hm13, Lib.hid (by
                    have hr := rank_step (at2 := at2) (m := idx.length + j) (j := j) (from_ := from_) hfj'.1 HR2.out (by rw [← HFL.out]; exact HAT.out j hfj'.1)
                    rw [hfj'.2] at hr
                    exact hr)⟩
                case measure => simp [intOf]; omega
              · have hje : j = G'.length := by omega
                subst hje
                have h3 : ¬ (((G'.length : Nat) : Int) < ((G'.length : Nat) : Int)) := by omega
                have hNl : idx.length + G'.length ≤ 900000 := by have := HGQ.out; omega
                have hfl : from_.length = G'.length := by rw [HFR.out, List.length_map]
                have hft : from_.take G'.length = from_ := by rw [← hfl, List.take_length]
                rw [hft, List.take_length] at hm
                have HR2 := Lib.hid HR.out
                rw [hft] at HR2
                have hmd := hm.gdrop
                have hrl : G'.length = q := HGQ.out
                have e1 : idx ++ (from_ ++ rest.drop G'.length) = (idx ++ from_) ++ rest.drop q := by rw [hrl, List.append_assoc]
                have e2 : idx.length + G'.length = (idx ++ from_).length := by rw [List.length_append, hfl]
                rw [e1, e2] at hmd
                have HMD := Lib.hid hmd
                have HE2 := Lib.hid e2
                have HO : Hid (OInv s.D root N (nodes ++ G') (idx ++ from_) at2 (b0 + 1) (rest.drop q) fm') := Lib.hid ⟨by
                  have h := HNX.out.1
                  have e : (nodes ++ G').map En.nd = nodes.map En.nd ++ from_.map (Xn s.D at_) := by
                    rw [List.map_append, HFR.out, List.map_map]
                    congr 1
                    exact List.map_congr_left fun e he => HGN.out e he
                  rw [e]; exact h, by rw [List.map_append, HI.out.ids, HFR.out], by rw [List.length_append, List.length_append, List.length_drop, hfl]; omega, HR2.out⟩
                have hrl' := Lib.hid hrl
                clear hm hmd e1 e2 hft HR HR2 hrl
                go_wp2
                go_roundw
                case rel => exact ⟨nodes ++ G', idx ++ from_, at2, b0 + 1, rest.drop q, fm', by rw [← HE2.out]; go_num, HMD.out, HO⟩
                case measure => have := hrl'.out; simp [intOf]; omega

end Go.Proofs.YteknjeohbcgpdaaGreatDoor
