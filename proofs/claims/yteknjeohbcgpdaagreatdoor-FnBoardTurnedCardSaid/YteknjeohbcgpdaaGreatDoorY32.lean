/-
  Contract of the program's reduced, where canon serves at all places below.
-/
import Derived.Test.YteknjeohbcgpdaaGreatDoorY18
import Derived.Test.YteknjeohbcgpdaaGreatDoorY31
import Derived.Deep.LoopGhost
set_option maxRecDepth 100000
namespace Go.Proofs.YteknjeohbcgpdaaGreatDoor
open Go.RowKit
open Cgt (Dag Nd vl Same Ge)

def PCanonPost (pp h : Nat) (s : PSt) (f : Nat) (w : World) (e : Ending) (w' : World) : Prop := ∃ s' j, e = .returned (.int .i64 ((j : Nat) : Int)) ∧ PGo pp h s w s' w' ∧ s'.cn f = some j ∧ Grow s f s'
def PCanonOk (m : Nat) : Prop := ∀ (pp h : Nat) (s : PSt) (f : Nat) (w : World), PoolAt w pp h s → f < s.D.length → f < m → s.D.length + miss (f + 1) s.cn ≤ 900000 → Calls Tryz.prog 104 #[.pointer (some ⟨pp, 0, none⟩), .int .i64 (f : Int)] w (PCanonPost pp h s f w)
def RedPost (pp h : Nat) (s : PSt) (f : Nat) (left : Bool) (w : World) (e : Ending) (w' : World) : Prop :=
  ∃ s' v' F, e = .returned v' ∧ w'.ownsRow w.heap.size 3 1 v' F.length ((toZ F).map (Value.int .i64)) ∧ PGo pp h s w s' w' ∧ (∀ b, v'.ownBlock = some b → ¬ POwn pp h s' b ∧ ¬ s'.S b) ∧ GrowR s f s' ∧ RedFact s'.D s'.cn f left F ∧ F.length ≤ 1000000

theorem red_start {pp h : Nat} {s : PSt} {w : World} (hP : PoolAt w pp h s) : RedMem pp h s w (((w.alloc (.cells #[] 3)).alloc (.map #[] 0)).alloc (.cells #[] 3)) (w.heap.size + 1) (.slice (some ⟨w.heap.size, 0, none⟩) 0 0) (.slice (some ⟨w.heap.size + 1 + 1, 0, none⟩) 0 0) [] [] [] := by
  have z1 : (w.alloc (.cells #[] 3)).heap.size = w.heap.size + 1 := World.size_alloc _ _
  have z2 : ((w.alloc (.cells #[] 3)).alloc (.map #[] 0)).heap.size = w.heap.size + 1 + 1 := by rw [World.size_alloc, z1]
  refine ⟨((own_empty w w.heap.size (Nat.le_refl _) 3).alloc _).alloc _, ?_, ⟨fun _ => none, ?_, fun x => by simp⟩, by omega, by simp [Value.ownBlock], by simp [Value.ownBlock], ?_, ?_⟩
  · have := own_empty ((w.alloc (.cells #[] 3)).alloc (.map #[] 0)) w.heap.size (by omega) 3
    rw [z2] at this; exact this
  · refine MapIs.made _ _ (c := 0) ?_
    rw [Below.heap_alloc _ _ _ (by omega)]
    exact alloc_at z1.symm
  · intro b hb hc; simp [Value.ownBlock] at hb hc; omega
  · intro b hb
    have : w.heap.size ≤ b ∧ b ≤ w.heap.size + 1 + 1 := by
      rcases hb with rfl | hb | hb
      · omega
      · simp [Value.ownBlock] at hb; omega
      · simp [Value.ownBlock] at hb; omega
    exact ⟨by rw [World.size_alloc, z2]; omega, hP.new this.1⟩
theorem RedMem.sideQ {pp h : Nat} {s s2 : PSt} {w w2 wa w3 : World} {mb : Nat} {qv kv : Value} {q B line : List Nat} (m : RedMem pp h s2 w w2 mb qv kv q B line) (k : PGo pp h s w s2 w2) (hx : Ext w2 wa) (hg : wa.grownBy w3 qv.ownBlock) : PGo pp h s w s2 w3 :=
  (k.ext hx).side (keep_grownO hg) fun b hb => ⟨(m.q.lt b hb).1, (m.clr b (.inr (.inl hb))).2⟩
theorem RedMem.sideK {pp h : Nat} {s s2 : PSt} {w w2 wa w3 : World} {mb : Nat} {qv kv : Value} {q B line : List Nat} (m : RedMem pp h s2 w w2 mb qv kv q B line) (k : PGo pp h s w s2 w2) (hx : Ext w2 wa) (hg : wa.grownBy w3 kv.ownBlock) : PGo pp h s w s2 w3 :=
  (k.ext hx).side (keep_grownO hg) fun b hb => ⟨(m.k.lt b hb).1, (m.clr b (.inr (.inr hb))).2⟩
theorem RedMem.sideM {pp h : Nat} {s s2 : PSt} {w w2 w3 : World} {mb : Nat} {qv kv : Value} {q B line : List Nat} (m : RedMem pp h s2 w w2 mb qv kv q B line) (k : PGo pp h s w s2 w2) (hg : w2.grownBy w3 (some mb)) : PGo pp h s w s2 w3 :=
  k.side (keep_grown hg) fun b hb => by subst hb; exact ⟨m.mb0, (m.clr b (.inl rfl)).2⟩
theorem own_lower {w : World} {B C e size n : Nat} {v : Value} {xs : List Value} (h : w.ownsRow B e size v n xs) (hC : C ≤ B) : w.ownsRow C e size v n xs := by
  obtain ⟨h1, h2⟩ := h
  refine ⟨h1, ?_⟩
  rcases h2 with h2 | ⟨g, cap, cur, e, hb, h3⟩
  · exact .inl h2
  · exact .inr ⟨g, cap, cur, e, by omega, h3⟩
theorem opt_at {D : Dag} {f : Nat} (hf : f < D.length) : opt D true f = D[f].1 ∧ opt D false f = D[f].2 := by simp [opt, List.getElem?_eq_getElem hf]
theorem opt_len {D : Dag} (hD : Cgt.Good D) {left : Bool} {f : Nat} : (opt D left f).length ≤ f := by
  unfold opt
  cases e : D[f]? with
  | none => simp
  | some nd =>
    have ha := hD.asc _ (List.mem_of_getElem? e)
    have hl := hD.wf f nd e
    cases left
    · exact nodup_len (asc_nodup ha.2) hl.2
    · exact nodup_len (asc_nodup ha.1) hl.1
theorem GrowR.step {pp h : Nat} {w wr w2 : World} {s s1 s2 : PSt} {f i : Nat} (hw : Cgt.WF s.D) (g : GrowR s f s1) (k : PGo pp h s w s1 wr) (k2 : PGo pp h s1 wr s2 w2) (g2 : Grow s1 i s2) (hi : i < f) (hf : f < s.D.length) (hb : Cgt.born (vl s.D i) < Cgt.born (vl s.D f)) : GrowR s f s2 := by
  have hl := k.len
  refine ⟨fun N a b => ?_, fun x a b c => ?_, fun x a b => ?_⟩
  · have h1 := g.1 N a b
    have h2 := g2.1 N (by omega) (by omega)
    omega
  · cases e : s1.cn x with
    | some j => exact g.2.1 x a b (by rw [e]; rfl)
    | none =>
      have h1 := g2.2.1 x (by omega) e c
      rw [k.vl hw a, k.vl hw (by omega : i < s.D.length)] at h1
      omega
  · by_cases c : x < s1.D.length
    · have h1 := g.2.2 x a c
      cases e : s1.cn x with
      | none => rw [e] at h1; cases h1
      | some j => rw [k2.known x j e]; rfl
    · exact g2.2.2 x (by omega) b
theorem clist_step {cn cn' : Nat → Option Nat} {O : List Nat} {k j : Nat} (hk : k < O.length) (hm : ∀ i j, cn i = some j → cn' i = some j) (h : ∀ x, x ∈ O.take k → (cn x).isSome) (hj : cn' O[k] = some j) :
    ((O.take (k + 1)).map fun x => (cn' x).getD 0) = ((O.take k).map fun x => (cn x).getD 0) ++ [j] ∧ ∀ x, x ∈ O.take (k + 1) → (cn' x).isSome := by
  rw [List.take_succ_eq_append_getElem hk]
  have h1 : ∀ x, x ∈ O.take k → cn' x = cn x := fun x hx => by
    have := h x hx
    cases e : cn x with
    | none => rw [e] at this; cases this
    | some y => exact hm x y e
  refine ⟨?_, fun x hx => ?_⟩
  · rw [List.map_append, List.map_cons, List.map_nil, hj]
    congr 1
    exact List.map_congr_left fun x hx => by rw [h1 x hx]
  · rcases List.mem_append.1 hx with hx | hx
    · rw [h1 x hx]; exact h x hx
    · simp at hx; subst hx; rw [hj]; rfl
theorem woN_len (l : List Nat) (z : List Int) : (woN l z).length ≤ l.length := by
  have := List.length_filter_le (fun (i : Nat) => !hasZ z (i : Int)) (List.range l.length)
  simpa [woN] using this
theorem meas_lt {d a n m : Nat} (ha : 1 ≤ a) (hm : m ≤ d) : (a - 1) * (d + 1) + (n + m) < a * (d + 1) + (n + 1) := by
  obtain ⟨b, rfl⟩ : ∃ b, a = b + 1 := ⟨a - 1, by omega⟩
  rw [Nat.add_mul, Nat.add_sub_cancel]; omega
theorem meas_bd {d a n : Nat} (hd : d ≤ 900000) (h : a * (d + 1) + n ≤ d * (d + 1) + d) : n ≤ 811000000000 := by
  have : d * (d + 1) ≤ 900000 * 900001 := Nat.mul_le_mul hd (by omega)
  omega

set_option maxHeartbeats 4000000 in
theorem reduced_any (pp h : Nat) (s : PSt) (f : Nat) (left : Bool) (w : World) (ih : PCanonOk f) (hP : PoolAt w pp h s) (hf : f < s.D.length) (hroom : s.D.length + miss (f + 1) s.cn ≤ 900000) :
    Calls Tryz.prog 160 #[.pointer (some ⟨pp, 0, none⟩), .int .i64 (f : Int), .bool left] w (RedPost pp h s f left w) := by
  have hds := hP.small
  obtain ⟨i0, hi0, hz0, hz1, hz2⟩ := info_parts info_int
  have hmk := fun w : World => run_makeMap_plain (P := Tryz.prog) (w := w) 187
  have hm0 := red_start hP
  have hx0 : Ext w (((w.alloc (.cells #[] 3)).alloc (.map #[] 0)).alloc (.cells #[] 3)) := by go_grown
  go_enter Tryz.func160, Tryz.ntmps160
  go_upto_region 2 with fail
  generalize ((w.alloc (.cells #[] 3)).alloc (.map #[] 0)).alloc (.cells #[] 3) = W0 at *
  have hP0 := hP.ext hx0
  have hgo0 : PGo pp h s w s W0 := PGo.refl hP hx0
  obtain ⟨gr, capr, aR, cR, cpp1, hgr1, hgr2, cgr, hSR⟩ := hP.rightAt hf
  obtain ⟨gl, capl, aL, cL, cpp0, hgl1, hgl2, cgl, hSL⟩ := hP.leftAt hf
  replace cpp1 := (hx0.cell (lt_of_cell cpp1)).trans cpp1
  replace cpp0 := (hx0.cell (lt_of_cell cpp0)).trans cpp0
  replace cgr := (hx0.cell (lt_of_cell cgr)).trans cgr
  replace cgl := (hx0.cell (lt_of_cell cgl)).trans cgl
  cases left with
  | true =>
    go_upto_region 5 with fail
    go_wp2

    obtain ⟨O, hO⟩ : ∃ O, O = opt s.D true f := ⟨_, rfl⟩
    have hOl : O.length ≤ f := by rw [hO]; exact opt_len hP.good
    have hOm : ∀ x, x ∈ O → x < f ∧ Cgt.born (vl s.D x) < Cgt.born (vl s.D f) := fun x hx => by rw [hO] at hx; exact ⟨opt_lt hP.good.wf hx, opt_born hP.good.wf hx⟩
    have hOe : O = s.D[f].1 := by rw [hO]; exact (opt_at hf).1
    rw [← hOe] at hSL ⊢
    have HO := Lib.hid hO
    have HOE := Lib.hid hOe
    clear hO hOe
    go_loopw [7, 12, 36] (fun qv _ ii wr => ∃ (k : Nat) (s1 : PSt) (q : List Nat), k ≤ O.length ∧ ii = .int .i64 ((k : Nat) : Int) ∧ PGo pp h s w s1 wr ∧ RedMem pp h s1 w wr (w.heap.size + 1) qv (.slice (some ⟨w.heap.size + 1 + 1, 0, none⟩) 0 0) q [] [] ∧ GrowR s f s1 ∧ Hid (q = (O.take k).map (fun x => (s1.cn x).getD 0) ∧ ∀ x, x ∈ O.take k → (s1.cn x).isSome)) (fun _ _ ii _ => O.length - (intOf ii).toNat)
    case atStart => exact ⟨0, s, [], Nat.zero_le _, rfl, hgo0, hm0, GrowR.refl _ _, by simp [Hid]⟩
    case round =>
      obtain ⟨k, s1, q, hk, rfl, hgo, hm, hG, HQ⟩ := hrel
      have hql : q.length = k := by have := congrArg List.length HQ.out.1; simp at this; omega
      by_cases hlt : k < O.length
      · have h1 : ((k : Nat) : Int) < ((O.length : Nat) : Int) := by omega
        obtain ⟨-, hln, hcl⟩ := SInts.at (Sup.go hSL (Off.lists hP) hgo)
        obtain ⟨b, off, rfl, hcell⟩ := hcl (by omega)
        have hck := hcell k hlt
        obtain ⟨hi1, hi2⟩ := hOm _ (List.getElem_mem hlt)
        have hlen := hgo.len
        obtain ⟨aq, cq, rfl, hqc, _⟩ := own_len hm.q
        have hroom1 := hG.1 (f + 1) (by omega) (by omega)
        have hmm := miss_mono (show O[k] + 1 ≤ f + 1 by omega) s1.cn
        have IH := Lib.hid (ih pp h s1 O[k] wr hgo.pool (by omega) (by omega) (by omega))
        have HS := Lib.hid hSL
        have HG := Lib.hid hG
        have HOM := Lib.hid hi2
        have hS1 := hgo.pool.small
        obtain ⟨kn, hkn⟩ : ∃ n, n = q.length := ⟨_, rfl⟩
        rw [← hkn] at hqc ⊢
        have hmq := hm.q
        rw [← hkn] at hmq
        have HM := Lib.hid hm
        have HKN := Lib.hid hkn
        have hkn2 : kn = k := by omega
        have hwl := hgo.keep.size
        clear hcl hcell hSL hG hmm hroom1 hm hkn hql
        subst hkn2
        go_wp2_with (first
          | (go_at_call 104; refine IH.out.mono ?_; rintro e w2 ⟨s2, j, rfl, hgo2, hcj, hg2⟩; have hmq2 := (HM.out.go hgo2).q; rw [← HKN.out] at hmq2)
          | (at_builtin; refine app_list rfl (.tmp 40) (.tmp 44) 80 rfl w.heap.size 3 i0 (.int .i64 0) 1 8 Tryz.underlying80 hi0 hz0 hz1 hz2 rfl (by decide) (.slice aq kn cq) kn _ rfl (hmq2.alloc _) _ 1 _ [.int .i64 (j : Int)] rfl rfl (.inr ⟨_, rfl, one_src (new_cell _ _ _)⟩) one_cell (by unfold maxLen; omega) (by omega) (by rw [World.size_alloc]; have := hgo2.keep.size; omega) ?_; intro v5 w5 ho5 hg5 hl5))
        go_roundw
        case rel =>
          have hm2 := HM.out.go hgo2
          rw [← HKN.out] at hm2
          have hm5 := hm2.push (news := [j]) hgo2.pool (ext_alloc (Below.refl _ _) _) hg5 ho5 (by simp [HKN.out]) (by rw [toZ_app, List.map_append]; rfl) hl5
          have h3 := clist_step hlt hgo2.known HQ.out.2 hcj
          exact ⟨kn + 1, s2, q ++ [j], by omega, by go_num, hm2.sideQ (hgo.trans hgo2) (ext_alloc (Below.refl _ _) _) hg5, hm5, HG.out.step hP.good.wf hgo hgo2 hg2 hi1 hf HOM.out, by rw [h3.1, ← HQ.out.1], h3.2⟩
        case measure => simp [intOf]; omega
      · have h1 : ¬ (((k : Nat) : Int) < ((O.length : Nat) : Int)) := by omega
        have hke : k = O.length := by omega
        subst hke
        have hOs : opt s1.D true f = O := by rw [HO.out]; obtain ⟨E, hE⟩ := hgo.more; rw [hE, opt_old hf]
        have hcl1 : clist s1.D s1.cn true f = q := by unfold clist; rw [hOs]; have := HQ.out.1; rw [List.take_length] at this; exact this.symm
        have hkn1 : ∀ x, x ∈ opt s1.D true f → (s1.cn x).isSome := fun x hx => HQ.out.2 x (by rw [List.take_length, ← hOs]; exact hx)
        have hP1 := hgo.pool
        have hds1 := hP1.small
        have hf1 : f < s1.D.length := Nat.lt_of_lt_of_le hf hgo.len
        have hql2 : ∀ x, x ∈ q → x < s1.D.length := fun x hx => by
          rw [← hcl1] at hx
          obtain ⟨y, hy, rfl⟩ := List.mem_map.1 hx
          have := hkn1 y hy
          cases e : s1.cn y with
          | none => rw [e] at this; cases this
          | some j => exact (hP1.cnok.lt y j e).2
        have HC := Lib.hid (And.intro hcl1 hkn1)
        have HG := Lib.hid hG
        have hI0 := Lib.hid (StackInv.start (D := s1.D) (root := f) (left := true) hql2)
        have hgk0 : s1.D.length * (s1.D.length + 1) + q.length ≤ s1.D.length * (s1.D.length + 1) + s1.D.length := by have := hgo.len; omega
        have HGK := Lib.hid hgk0
        clear hOs hcl1 hkn1 hG hql2 hgk0 hSL
        obtain ⟨qq, hqq⟩ : ∃ z, z = q := ⟨_, rfl⟩
        obtain ⟨wo, rfl⟩ : ∃ wo : World, wo = wr := ⟨_, rfl⟩
        go_wp2
        go_loopg [7, 9, 13, 14, 15] (s1.D.length * (s1.D.length + 1) + q.length) (fun gk qv kv _ _ _ wr => ∃ (q1 line B : List Nat), RedMem pp h s1 w wr (w.heap.size + 1) qv kv q1 B line ∧ PGo pp h s w s1 wr ∧ Hid (StackInv s1.D f true q q1 line B) ∧ Hid (gk = (s1.D.length - line.length) * (s1.D.length + 1) + q1.length ∧ gk ≤ s1.D.length * (s1.D.length + 1) + s1.D.length))
        case atStart => exact ⟨q, [], [], hm, hgo, hI0, Lib.hid ⟨by simp, HGK.out⟩⟩
        case round =>
          clear hm hgo
          obtain ⟨q1, line, B, hm, hgo, HI, HK⟩ := hrel
          rcases List.eq_nil_or_concat q1 with rfl | ⟨q2, i, rfl⟩
          · obtain ⟨aq, cq, rfl, hqc, _⟩ := own_len hm.q
            obtain ⟨ak, ck, rfl, hkc, _⟩ := own_len hm.k
            have hOI := HI.out.open
            have hBm : ∀ x, x ∈ B → x < s1.D.length := fun x hx => hOI.lt x (hOI.kept x hx).1
            have hBl : B.length ≤ 900000 := by have := HI.out.blen; have := HI.out.len; omega
            have hcq : ∀ x, x ∈ q → Cgt.Canon (vl s1.D x) := fun x hx => by
              rw [← HC.out.1] at hx
              obtain ⟨y, hy, rfl⟩ := List.mem_map.1 hx
              have := HC.out.2 y hy
              cases e : s1.cn y with
              | none => rw [e] at this; cases this
              | some j => exact (hP1.cnok.ok y j e).1
            have hcB : ∀ x, x ∈ B → Cgt.Canon (vl s1.D x) := fun x hx => line_canon hP1.good.wf hOI hcq x (hOI.kept x hx).1
            have hkI := (Ints.of_own hm.k (by rw [toZ_len]; omega)).sup (S := fun b => (Value.slice ak B.length ck).ownBlock = some b) (fun b hb => (hm.k.lt b hb).2) (fun b hb => hb)
            have hTk : Clr pp h s1 wr (fun b => (Value.slice ak B.length ck).ownBlock = some b) := fun b hb => hm.clr b (.inr (.inr hb))
            have HDom := Lib.hid (dominated_any pp h s1 true (.slice ak B.length ck) B _ wr hgo.pool hBm (by omega) hTk.off hkI)
            have HKI := Lib.hid hkI
            have HTK := Lib.hid hTk
            have HB := Lib.hid (And.intro hBm hcB)
            have HNB := Lib.hid HI.out.bnodup
            have HOI := Lib.hid hOI
            clear hkI hTk hBm hcB hcq hOI HI
            go_wp2_with (first
              | (go_at_call 197; refine (without_any _ _ (toZ B) z _ hk4 hz4 hDI.out.asc (fun y hy => (hDI.out.bd y hy).1) (by rw [toZ_len]; omega)).mono ?_; rintro e w5 ⟨v5, rfl, ho5, hx5⟩)
              | (go_at_call 198; refine HDom.out.mono ?_; rintro e w4 ⟨v4, z, rfl, ho4, hDI0, hgo4⟩; have hDI := Lib.hid hDI0; have hz4 := Ints.of_own ho4 (by have := hDI0.len; omega); have hk4 := (Sup.go HKI.out HTK.out.off hgo4).out; clear hDI0))
            go_ret
            have hw4 := (hgo.trans hgo4).keep.size
            refine ⟨s1, v5, woN B z, rfl, ?_, (hgo.trans hgo4).ext hx5, fun b hb => ?_, HG.out, ⟨HC.out.2, line, B, by rw [HC.out.1]; exact HOI.out, tops_of hP1.good HNB.out HB.out.1 HB.out.2 hDI.out⟩, by have := woN_len B z; omega⟩
            · rw [woN_toZ] at ho5
              rw [toZ_len] at ho5
              exact own_lower ho5 hw4
            · exact hgo4.pool.new (ho5.lt b hb).1
          · rw [List.concat_eq_append] at hm HI HK
            have hil : i < s1.D.length := HI.out.lt i (.inr (by simp))
            obtain ⟨gq, cq, rfl, hqc, hqm, hqcell⟩ := own_at hm.q (by simp)
            obtain ⟨ak, ck, rfl, hkc, _⟩ := own_len hm.k
            have hq1 : (q2 ++ [i]).length = q2.length + 1 := by simp
            have hci := hqcell q2.length (by simp)
            have e0 : ((toZ (q2 ++ [i])).map (Value.int .i64))[q2.length]? = some (.int .i64 (i : Int)) := by simp [toZ]
            rw [e0] at hci
            have hbd := meas_bd hds1 (a := s1.D.length - line.length) (n := (q2 ++ [i]).length) (by have := HK.out.1; have := HK.out.2; omega)
            rw [hq1] at hqc hbd ⊢
            have hmp := hm.pop
            have hlk := fun W hW => hm.look (x := i) (by omega) W hW
            obtain ⟨n2, hn2⟩ : ∃ n, n = q2.length := ⟨_, rfl⟩
            have HKm := Lib.hid (show gk = (s1.D.length - line.length) * (s1.D.length + 1) + (n2 + 1) ∧ gk ≤ s1.D.length * (s1.D.length + 1) + s1.D.length by rw [hn2, ← hq1]; exact HK.out)
            rw [← hn2] at hci hqc hbd hmp ⊢
            have HN2 := Lib.hid hn2
            have hlk1 := hlk wr rfl
            have hwr := hgo.keep.size
            have hBl : B.length ≤ 900000 := by have := HI.out.blen; have := HI.out.len; omega
            have hlL := HI.out.len
            clear hqcell e0 hq1 hm hlk hn2 HK
            by_cases hin : i ∈ line
            · simp only [hin, decide_true] at hlk1
              have HIN := Lib.hid hin
              clear hin
              go_wp2
              go_roundg ((s1.D.length - line.length) * (s1.D.length + 1) + n2)
              case measure => have := HKm.out.1; omega
              case rel => exact ⟨q2, line, B, hmp, hgo, Lib.hid (HI.out.skip HIN.out), Lib.hid ⟨by rw [HN2.out], by have := HKm.out; omega⟩⟩
            · simp only [hin, decide_false] at hlk1
              have HIN := Lib.hid hin
              clear hin
              obtain ⟨fm, hM, hfm⟩ := hmp.seen
              have HFM := Lib.hid hfm
              have hki := keyOfI i (by omega)
              clear hfm
              go_upto_region 15 with (at_mapUpdate; refine store_list rfl _ _ _ 187 rfl 3 4 keyedI Tryz.underlying187 (w.heap.size + 1) line.length fm rfl hM (by unfold maxLen; omega) (.int .i64 (i : Int)) (.bool true) rfl rfl hki ?_; intro w3 hM3 hg3)
              have hm3 := hmp.mark HFM.out hM3 hg3
              have hgo3 := hmp.sideM hgo hg3
              have hP3 := hgo3.pool
              have hz3 := hgo3.keep.size
              clear hM3 hg3 hM hmp hlk1 hgo hci
              obtain ⟨gr3, cr3, aR3, cR3, cc1, hr31, hr32, cg1, hSR3⟩ := hP3.rightAt hil
              obtain ⟨gl3, cl3, aL3, cL3, cc0, hl31, hl32, cg0, hSL3⟩ := hP3.leftAt hil
              have hoi := opt_at hil
              have HOI2 := Lib.hid hoi
              clear hoi
              have hThr := Lib.hid (through_any pp h s1 f i true _ (opt s1.D (!true) i) s1.S w3 hP3 hf1 (fun x hx => by have := opt_lt hP3.good.wf hx; omega) (Off.lists hP3) (by simp only [Bool.not_true]; rw [HOI2.out.2]; exact hSR3))
              clear hSR3 hSL3
              go_upto_region 20 with (go_at_call 196; refine hThr.out.mono ?_; rintro e w4 ⟨z, rfl, hz, hgo4⟩)
              have hm4 := hm3.go hgo4
              have hgo34 := hgo3.trans hgo4
              have hz4 := hgo34.keep.size
              clear hm3 hgo3 hgo4 cc1 cg1 cc0 cg0
              have hm4q := hm4.q
              rw [← HN2.out] at hm4q
              rcases hz with ⟨rfl, hno⟩ | ⟨y, hy, rfl, hgy⟩
              · have HS1 := Lib.hid (HI.out.keep HIN.out hno)
                have hl1 := HS1.out.len
                rw [List.length_append, List.length_singleton] at hl1
                clear hno
                go_wp2_with (at_builtin; refine app_list rfl (.tmp 99) (.tmp 101) 80 rfl w.heap.size 3 i0 (.int .i64 0) 1 8 Tryz.underlying80 hi0 hz0 hz1 hz2 rfl (by decide) (.slice ak B.length ck) B.length _ rfl (hm4.k.alloc _) _ 1 _ [.int .i64 (i : Int)] rfl rfl (.inr ⟨_, rfl, one_src (new_cell _ _ _)⟩) one_cell (by unfold maxLen; omega) (by omega) (by rw [World.size_alloc]; omega) ?_; intro v5 w5 ho5 hg5 hl5)
                go_roundg ((s1.D.length - (line ++ [i]).length) * (s1.D.length + 1) + n2)
                case measure =>
                  have h1 := HKm.out.1
                  have h2 := meas_lt (d := s1.D.length) (a := s1.D.length - line.length) (n := n2) (m := 0) (by omega) (Nat.zero_le _)
                  rw [List.length_append, List.length_singleton, show s1.D.length - (line.length + 1) = s1.D.length - line.length - 1 by omega]; omega
                case rel =>
                  have h1 := HKm.out
                  have h2 := meas_lt (d := s1.D.length) (a := s1.D.length - line.length) (n := n2) (m := 0) (by omega) (Nat.zero_le _)
                  exact ⟨q2, line ++ [i], B ++ [i], by rw [HN2.out]; rw [HN2.out] at hm4; exact hm4.add hgo34.pool (ext_alloc (Below.refl _ _) _) hg5 ho5 (by simp) (by rw [toZ_app, List.map_append]; rfl) hl5, hm4.sideK hgo34 (ext_alloc (Below.refl _ _) _) hg5, HS1, Lib.hid ⟨by rw [HN2.out], by rw [List.length_append, List.length_singleton, show s1.D.length - (line.length + 1) = s1.D.length - line.length - 1 by omega]; omega⟩⟩
              · have hyl : y < s1.D.length := by have := opt_lt hgo34.pool.good.wf hy; omega
                have HS1 := Lib.hid (HI.out.pass hgo34.pool.good.wf HIN.out hy hgy)
                have hl1 := HS1.out.len
                rw [List.length_append, List.length_singleton] at hl1
                have hyn : ¬ ((y : Int) < 0) := by omega
                have hol := opt_len hgo34.pool.good (left := true) (f := y)
                obtain ⟨g4, c4, aY, cY, cc0, hl41, hl42, cg0, hSY⟩ := hgo34.pool.leftAt hyl
                have HOY := Lib.hid (opt_at hyl).1
                rw [← HOY.out] at cg0 hSY
                obtain ⟨OY, hOY⟩ : ∃ O, O = opt s1.D true y := ⟨_, rfl⟩
                rw [← hOY] at cg0 hSY hol
                obtain ⟨aY', cY', eY, hY1, hY2, hY3⟩ := hSY.out
                simp only [Value.slice.injEq, toZ_len] at eY
                obtain ⟨rfl, -, rfl⟩ := eY
                have hsrc := all_src hY1 hY2 hY3 w4 (Below.refl _ _)
                rw [toZ_len] at hsrc
                have HOY2 := Lib.hid hOY
                clear hY1 hY2 hY3 hSY hOY hy hgy HOY
                go_wp2_with (at_builtin; refine app_list rfl (.tmp 105) (.tmp 112) 80 rfl w.heap.size 3 i0 (.int .i64 0) 1 8 Tryz.underlying80 hi0 hz0 hz1 hz2 rfl (by decide) (.slice (some ⟨gq, 0, none⟩) n2 cq) n2 _ rfl hm4q aY OY.length cY ((toZ OY).map (Value.int .i64)) rfl (by rw [List.length_map, toZ_len]; omega) hsrc (ints_onecell _) (by unfold maxLen; omega) (by omega) (by omega) ?_; intro v5 w5 ho5 hg5 hl5)
                go_roundg ((s1.D.length - (line ++ [i]).length) * (s1.D.length + 1) + (n2 + OY.length))
                case measure =>
                  have h1 := HKm.out.1
                  have h2 := meas_lt (d := s1.D.length) (a := s1.D.length - line.length) (n := n2) (m := OY.length) (by omega) (by omega)
                  rw [List.length_append, List.length_singleton, show s1.D.length - (line.length + 1) = s1.D.length - line.length - 1 by omega]; omega
                case rel =>
                  have h1 := HKm.out
                  have h2 := meas_lt (d := s1.D.length) (a := s1.D.length - line.length) (n := n2) (m := OY.length) (by omega) (by omega)
                  exact ⟨q2 ++ OY, line ++ [i], B, hm4.push (news := OY) hgo34.pool (Below.refl _ _) hg5 ho5 (by rw [List.length_append, HN2.out]) (by rw [toZ_app, List.map_append]) hl5, hm4.sideQ hgo34 (Below.refl _ _) hg5, by rw [HOY2.out]; exact HS1, Lib.hid ⟨by rw [show (q2 ++ OY).length = q2.length + OY.length from List.length_append, HN2.out], by rw [List.length_append, List.length_singleton, show s1.D.length - (line.length + 1) = s1.D.length - line.length - 1 by omega]; omega⟩⟩
  | false =>
    go_upto_region 5 with fail
    go_wp2

    obtain ⟨O, hO⟩ : ∃ O, O = opt s.D false f := ⟨_, rfl⟩
    have hOl : O.length ≤ f := by rw [hO]; exact opt_len hP.good
    have hOm : ∀ x, x ∈ O → x < f ∧ Cgt.born (vl s.D x) < Cgt.born (vl s.D f) := fun x hx => by rw [hO] at hx; exact ⟨opt_lt hP.good.wf hx, opt_born hP.good.wf hx⟩
    have hOe : O = s.D[f].2 := by rw [hO]; exact (opt_at hf).2
    rw [← hOe] at hSR ⊢
    have HO := Lib.hid hO
    have HOE := Lib.hid hOe
    clear hO hOe
    go_loopw [7, 12, 36] (fun qv _ ii wr => ∃ (k : Nat) (s1 : PSt) (q : List Nat), k ≤ O.length ∧ ii = .int .i64 ((k : Nat) : Int) ∧ PGo pp h s w s1 wr ∧ RedMem pp h s1 w wr (w.heap.size + 1) qv (.slice (some ⟨w.heap.size + 1 + 1, 0, none⟩) 0 0) q [] [] ∧ GrowR s f s1 ∧ Hid (q = (O.take k).map (fun x => (s1.cn x).getD 0) ∧ ∀ x, x ∈ O.take k → (s1.cn x).isSome)) (fun _ _ ii _ => O.length - (intOf ii).toNat)
    case atStart => exact ⟨0, s, [], Nat.zero_le _, rfl, hgo0, hm0, GrowR.refl _ _, by simp [Hid]⟩
    case round =>
      obtain ⟨k, s1, q, hk, rfl, hgo, hm, hG, HQ⟩ := hrel
      have hql : q.length = k := by have := congrArg List.length HQ.out.1; simp at this; omega
      by_cases hlt : k < O.length
      · have h1 : ((k : Nat) : Int) < ((O.length : Nat) : Int) := by omega
        obtain ⟨-, hln, hcl⟩ := SInts.at (Sup.go hSR (Off.lists hP) hgo)
        obtain ⟨b, off, rfl, hcell⟩ := hcl (by omega)
        have hck := hcell k hlt
        obtain ⟨hi1, hi2⟩ := hOm _ (List.getElem_mem hlt)
        have hlen := hgo.len
        obtain ⟨aq, cq, rfl, hqc, _⟩ := own_len hm.q
        have hroom1 := hG.1 (f + 1) (by omega) (by omega)
        have hmm := miss_mono (show O[k] + 1 ≤ f + 1 by omega) s1.cn
        have IH := Lib.hid (ih pp h s1 O[k] wr hgo.pool (by omega) (by omega) (by omega))
        have HS := Lib.hid hSR
        have HG := Lib.hid hG
        have HOM := Lib.hid hi2
        have hS1 := hgo.pool.small
        obtain ⟨kn, hkn⟩ : ∃ n, n = q.length := ⟨_, rfl⟩
        rw [← hkn] at hqc ⊢
        have hmq := hm.q
        rw [← hkn] at hmq
        have HM := Lib.hid hm
        have HKN := Lib.hid hkn
        have hkn2 : kn = k := by omega
        have hwl := hgo.keep.size
        clear hcl hcell hSR hG hmm hroom1 hm hkn hql
        subst hkn2
        go_wp2_with (first
          | (go_at_call 104; refine IH.out.mono ?_; rintro e w2 ⟨s2, j, rfl, hgo2, hcj, hg2⟩; have hmq2 := (HM.out.go hgo2).q; rw [← HKN.out] at hmq2)
          | (at_builtin; refine app_list rfl (.tmp 40) (.tmp 44) 80 rfl w.heap.size 3 i0 (.int .i64 0) 1 8 Tryz.underlying80 hi0 hz0 hz1 hz2 rfl (by decide) (.slice aq kn cq) kn _ rfl (hmq2.alloc _) _ 1 _ [.int .i64 (j : Int)] rfl rfl (.inr ⟨_, rfl, one_src (new_cell _ _ _)⟩) one_cell (by unfold maxLen; omega) (by omega) (by rw [World.size_alloc]; have := hgo2.keep.size; omega) ?_; intro v5 w5 ho5 hg5 hl5))
        go_roundw
        case rel =>
          have hm2 := HM.out.go hgo2
          rw [← HKN.out] at hm2
          have hm5 := hm2.push (news := [j]) hgo2.pool (ext_alloc (Below.refl _ _) _) hg5 ho5 (by simp [HKN.out]) (by rw [toZ_app, List.map_append]; rfl) hl5
          have h3 := clist_step hlt hgo2.known HQ.out.2 hcj
          exact ⟨kn + 1, s2, q ++ [j], by omega, by go_num, hm2.sideQ (hgo.trans hgo2) (ext_alloc (Below.refl _ _) _) hg5, hm5, HG.out.step hP.good.wf hgo hgo2 hg2 hi1 hf HOM.out, by rw [h3.1, ← HQ.out.1], h3.2⟩
        case measure => simp [intOf]; omega
      · have h1 : ¬ (((k : Nat) : Int) < ((O.length : Nat) : Int)) := by omega
        have hke : k = O.length := by omega
        subst hke
        have hOs : opt s1.D false f = O := by rw [HO.out]; obtain ⟨E, hE⟩ := hgo.more; rw [hE, opt_old hf]
        have hcl1 : clist s1.D s1.cn false f = q := by unfold clist; rw [hOs]; have := HQ.out.1; rw [List.take_length] at this; exact this.symm
        have hkn1 : ∀ x, x ∈ opt s1.D false f → (s1.cn x).isSome := fun x hx => HQ.out.2 x (by rw [List.take_length, ← hOs]; exact hx)
        have hP1 := hgo.pool
        have hds1 := hP1.small
        have hf1 : f < s1.D.length := Nat.lt_of_lt_of_le hf hgo.len
        have hql2 : ∀ x, x ∈ q → x < s1.D.length := fun x hx => by
          rw [← hcl1] at hx
          obtain ⟨y, hy, rfl⟩ := List.mem_map.1 hx
          have := hkn1 y hy
          cases e : s1.cn y with
          | none => rw [e] at this; cases this
          | some j => exact (hP1.cnok.lt y j e).2
        have HC := Lib.hid (And.intro hcl1 hkn1)
        have HG := Lib.hid hG
        have hI0 := Lib.hid (StackInv.start (D := s1.D) (root := f) (left := false) hql2)
        have hgk0 : s1.D.length * (s1.D.length + 1) + q.length ≤ s1.D.length * (s1.D.length + 1) + s1.D.length := by have := hgo.len; omega
        have HGK := Lib.hid hgk0
        clear hOs hcl1 hkn1 hG hql2 hgk0 hSR
        obtain ⟨qq, hqq⟩ : ∃ z, z = q := ⟨_, rfl⟩
        obtain ⟨wo, rfl⟩ : ∃ wo : World, wo = wr := ⟨_, rfl⟩
        go_wp2
        go_loopg [7, 9, 13, 14, 15] (s1.D.length * (s1.D.length + 1) + q.length) (fun gk qv kv _ _ _ wr => ∃ (q1 line B : List Nat), RedMem pp h s1 w wr (w.heap.size + 1) qv kv q1 B line ∧ PGo pp h s w s1 wr ∧ Hid (StackInv s1.D f false q q1 line B) ∧ Hid (gk = (s1.D.length - line.length) * (s1.D.length + 1) + q1.length ∧ gk ≤ s1.D.length * (s1.D.length + 1) + s1.D.length))
        case atStart => exact ⟨q, [], [], hm, hgo, hI0, Lib.hid ⟨by simp, HGK.out⟩⟩
        case round =>
          clear hm hgo
          obtain ⟨q1, line, B, hm, hgo, HI, HK⟩ := hrel
          rcases List.eq_nil_or_concat q1 with rfl | ⟨q2, i, rfl⟩
          · obtain ⟨aq, cq, rfl, hqc, _⟩ := own_len hm.q
            obtain ⟨ak, ck, rfl, hkc, _⟩ := own_len hm.k
            have hOI := HI.out.open
            have hBm : ∀ x, x ∈ B → x < s1.D.length := fun x hx => hOI.lt x (hOI.kept x hx).1
            have hBl : B.length ≤ 900000 := by have := HI.out.blen; have := HI.out.len; omega
            have hcq : ∀ x, x ∈ q → Cgt.Canon (vl s1.D x) := fun x hx => by
              rw [← HC.out.1] at hx
              obtain ⟨y, hy, rfl⟩ := List.mem_map.1 hx
              have := HC.out.2 y hy
              cases e : s1.cn y with
              | none => rw [e] at this; cases this
              | some j => exact (hP1.cnok.ok y j e).1
            have hcB : ∀ x, x ∈ B → Cgt.Canon (vl s1.D x) := fun x hx => line_canon hP1.good.wf hOI hcq x (hOI.kept x hx).1
            have hkI := (Ints.of_own hm.k (by rw [toZ_len]; omega)).sup (S := fun b => (Value.slice ak B.length ck).ownBlock = some b) (fun b hb => (hm.k.lt b hb).2) (fun b hb => hb)
            have hTk : Clr pp h s1 wr (fun b => (Value.slice ak B.length ck).ownBlock = some b) := fun b hb => hm.clr b (.inr (.inr hb))
            have HDom := Lib.hid (dominated_any pp h s1 false (.slice ak B.length ck) B _ wr hgo.pool hBm (by omega) hTk.off hkI)
            have HKI := Lib.hid hkI
            have HTK := Lib.hid hTk
            have HB := Lib.hid (And.intro hBm hcB)
            have HNB := Lib.hid HI.out.bnodup
            have HOI := Lib.hid hOI
            clear hkI hTk hBm hcB hcq hOI HI
            go_wp2_with (first
              | (go_at_call 197; refine (without_any _ _ (toZ B) z _ hk4 hz4 hDI.out.asc (fun y hy => (hDI.out.bd y hy).1) (by rw [toZ_len]; omega)).mono ?_; rintro e w5 ⟨v5, rfl, ho5, hx5⟩)
              | (go_at_call 198; refine HDom.out.mono ?_; rintro e w4 ⟨v4, z, rfl, ho4, hDI0, hgo4⟩; have hDI := Lib.hid hDI0; have hz4 := Ints.of_own ho4 (by have := hDI0.len; omega); have hk4 := (Sup.go HKI.out HTK.out.off hgo4).out; clear hDI0))
            go_ret
            have hw4 := (hgo.trans hgo4).keep.size
            refine ⟨s1, v5, woN B z, rfl, ?_, (hgo.trans hgo4).ext hx5, fun b hb => ?_, HG.out, ⟨HC.out.2, line, B, by rw [HC.out.1]; exact HOI.out, tops_of hP1.good HNB.out HB.out.1 HB.out.2 hDI.out⟩, by have := woN_len B z; omega⟩
            · rw [woN_toZ] at ho5
              rw [toZ_len] at ho5
              exact own_lower ho5 hw4
            · exact hgo4.pool.new (ho5.lt b hb).1
          · rw [List.concat_eq_append] at hm HI HK
            have hil : i < s1.D.length := HI.out.lt i (.inr (by simp))
            obtain ⟨gq, cq, rfl, hqc, hqm, hqcell⟩ := own_at hm.q (by simp)
            obtain ⟨ak, ck, rfl, hkc, _⟩ := own_len hm.k
            have hq1 : (q2 ++ [i]).length = q2.length + 1 := by simp
            have hci := hqcell q2.length (by simp)
            have e0 : ((toZ (q2 ++ [i])).map (Value.int .i64))[q2.length]? = some (.int .i64 (i : Int)) := by simp [toZ]
            rw [e0] at hci
            have hbd := meas_bd hds1 (a := s1.D.length - line.length) (n := (q2 ++ [i]).length) (by have := HK.out.1; have := HK.out.2; omega)
            rw [hq1] at hqc hbd ⊢
            have hmp := hm.pop
            have hlk := fun W hW => hm.look (x := i) (by omega) W hW
            obtain ⟨n2, hn2⟩ : ∃ n, n = q2.length := ⟨_, rfl⟩
            have HKm := Lib.hid (show gk = (s1.D.length - line.length) * (s1.D.length + 1) + (n2 + 1) ∧ gk ≤ s1.D.length * (s1.D.length + 1) + s1.D.length by rw [hn2, ← hq1]; exact HK.out)
            rw [← hn2] at hci hqc hbd hmp ⊢
            have HN2 := Lib.hid hn2
            have hlk1 := hlk wr rfl
            have hwr := hgo.keep.size
            have hBl : B.length ≤ 900000 := by have := HI.out.blen; have := HI.out.len; omega
            have hlL := HI.out.len
            clear hqcell e0 hq1 hm hlk hn2 HK
            by_cases hin : i ∈ line
            · simp only [hin, decide_true] at hlk1
              have HIN := Lib.hid hin
              clear hin
              go_wp2
              go_roundg ((s1.D.length - line.length) * (s1.D.length + 1) + n2)
              case measure => have := HKm.out.1; omega
              case rel => exact ⟨q2, line, B, hmp, hgo, Lib.hid (HI.out.skip HIN.out), Lib.hid ⟨by rw [HN2.out], by have := HKm.out; omega⟩⟩
            · simp only [hin, decide_false] at hlk1
              have HIN := Lib.hid hin
              clear hin
              obtain ⟨fm, hM, hfm⟩ := hmp.seen
              have HFM := Lib.hid hfm
              have hki := keyOfI i (by omega)
              clear hfm
              go_upto_region 15 with (at_mapUpdate; refine store_list rfl _ _ _ 187 rfl 3 4 keyedI Tryz.underlying187 (w.heap.size + 1) line.length fm rfl hM (by unfold maxLen; omega) (.int .i64 (i : Int)) (.bool true) rfl rfl hki ?_; intro w3 hM3 hg3)
              have hm3 := hmp.mark HFM.out hM3 hg3
              have hgo3 := hmp.sideM hgo hg3
              have hP3 := hgo3.pool
              have hz3 := hgo3.keep.size
              clear hM3 hg3 hM hmp hlk1 hgo hci
              obtain ⟨gr3, cr3, aR3, cR3, cc1, hr31, hr32, cg1, hSR3⟩ := hP3.rightAt hil
              obtain ⟨gl3, cl3, aL3, cL3, cc0, hl31, hl32, cg0, hSL3⟩ := hP3.leftAt hil
              have hoi := opt_at hil
              have HOI2 := Lib.hid hoi
              clear hoi
              have hThr := Lib.hid (through_any pp h s1 f i false _ (opt s1.D (!false) i) s1.S w3 hP3 hf1 (fun x hx => by have := opt_lt hP3.good.wf hx; omega) (Off.lists hP3) (by simp only [Bool.not_false]; rw [HOI2.out.1]; exact hSL3))
              clear hSR3 hSL3
              go_upto_region 20 with (go_at_call 196; refine hThr.out.mono ?_; rintro e w4 ⟨z, rfl, hz, hgo4⟩)
              have hm4 := hm3.go hgo4
              have hgo34 := hgo3.trans hgo4
              have hz4 := hgo34.keep.size
              clear hm3 hgo3 hgo4 cc1 cg1 cc0 cg0
              have hm4q := hm4.q
              rw [← HN2.out] at hm4q
              rcases hz with ⟨rfl, hno⟩ | ⟨y, hy, rfl, hgy⟩
              · have HS1 := Lib.hid (HI.out.keep HIN.out hno)
                have hl1 := HS1.out.len
                rw [List.length_append, List.length_singleton] at hl1
                clear hno
                go_wp2_with (at_builtin; refine app_list rfl (.tmp 99) (.tmp 101) 80 rfl w.heap.size 3 i0 (.int .i64 0) 1 8 Tryz.underlying80 hi0 hz0 hz1 hz2 rfl (by decide) (.slice ak B.length ck) B.length _ rfl (hm4.k.alloc _) _ 1 _ [.int .i64 (i : Int)] rfl rfl (.inr ⟨_, rfl, one_src (new_cell _ _ _)⟩) one_cell (by unfold maxLen; omega) (by omega) (by rw [World.size_alloc]; omega) ?_; intro v5 w5 ho5 hg5 hl5)
                go_roundg ((s1.D.length - (line ++ [i]).length) * (s1.D.length + 1) + n2)
                case measure =>
                  have h1 := HKm.out.1
                  have h2 := meas_lt (d := s1.D.length) (a := s1.D.length - line.length) (n := n2) (m := 0) (by omega) (Nat.zero_le _)
                  rw [List.length_append, List.length_singleton, show s1.D.length - (line.length + 1) = s1.D.length - line.length - 1 by omega]; omega
                case rel =>
                  have h1 := HKm.out
                  have h2 := meas_lt (d := s1.D.length) (a := s1.D.length - line.length) (n := n2) (m := 0) (by omega) (Nat.zero_le _)
                  exact ⟨q2, line ++ [i], B ++ [i], by rw [HN2.out]; rw [HN2.out] at hm4; exact hm4.add hgo34.pool (ext_alloc (Below.refl _ _) _) hg5 ho5 (by simp) (by rw [toZ_app, List.map_append]; rfl) hl5, hm4.sideK hgo34 (ext_alloc (Below.refl _ _) _) hg5, HS1, Lib.hid ⟨by rw [HN2.out], by rw [List.length_append, List.length_singleton, show s1.D.length - (line.length + 1) = s1.D.length - line.length - 1 by omega]; omega⟩⟩
              · have hyl : y < s1.D.length := by have := opt_lt hgo34.pool.good.wf hy; omega
                have HS1 := Lib.hid (HI.out.pass hgo34.pool.good.wf HIN.out hy hgy)
                have hl1 := HS1.out.len
                rw [List.length_append, List.length_singleton] at hl1
                have hyn : ¬ ((y : Int) < 0) := by omega
                have hol := opt_len hgo34.pool.good (left := false) (f := y)
                obtain ⟨g4, c4, aY, cY, cc0, hl41, hl42, cg0, hSY⟩ := hgo34.pool.rightAt hyl
                have HOY := Lib.hid (opt_at hyl).2
                rw [← HOY.out] at cg0 hSY
                obtain ⟨OY, hOY⟩ : ∃ O, O = opt s1.D false y := ⟨_, rfl⟩
                rw [← hOY] at cg0 hSY hol
                obtain ⟨aY', cY', eY, hY1, hY2, hY3⟩ := hSY.out
                simp only [Value.slice.injEq, toZ_len] at eY
                obtain ⟨rfl, -, rfl⟩ := eY
                have hsrc := all_src hY1 hY2 hY3 w4 (Below.refl _ _)
                rw [toZ_len] at hsrc
                have HOY2 := Lib.hid hOY
                clear hY1 hY2 hY3 hSY hOY hy hgy HOY
                go_wp2_with (at_builtin; refine app_list rfl (.tmp 87) (.tmp 94) 80 rfl w.heap.size 3 i0 (.int .i64 0) 1 8 Tryz.underlying80 hi0 hz0 hz1 hz2 rfl (by decide) (.slice (some ⟨gq, 0, none⟩) n2 cq) n2 _ rfl hm4q aY OY.length cY ((toZ OY).map (Value.int .i64)) rfl (by rw [List.length_map, toZ_len]; omega) hsrc (ints_onecell _) (by unfold maxLen; omega) (by omega) (by omega) ?_; intro v5 w5 ho5 hg5 hl5)
                go_roundg ((s1.D.length - (line ++ [i]).length) * (s1.D.length + 1) + (n2 + OY.length))
                case measure =>
                  have h1 := HKm.out.1
                  have h2 := meas_lt (d := s1.D.length) (a := s1.D.length - line.length) (n := n2) (m := OY.length) (by omega) (by omega)
                  rw [List.length_append, List.length_singleton, show s1.D.length - (line.length + 1) = s1.D.length - line.length - 1 by omega]; omega
                case rel =>
                  have h1 := HKm.out
                  have h2 := meas_lt (d := s1.D.length) (a := s1.D.length - line.length) (n := n2) (m := OY.length) (by omega) (by omega)
                  exact ⟨q2 ++ OY, line ++ [i], B, hm4.push (news := OY) hgo34.pool (Below.refl _ _) hg5 ho5 (by rw [List.length_append, HN2.out]) (by rw [toZ_app, List.map_append]) hl5, hm4.sideQ hgo34 (Below.refl _ _) hg5, by rw [HOY2.out]; exact HS1, Lib.hid ⟨by rw [show (q2 ++ OY).length = q2.length + OY.length from List.length_append, HN2.out], by rw [List.length_append, List.length_singleton, show s1.D.length - (line.length + 1) = s1.D.length - line.length - 1 by omega]; omega⟩⟩

end Go.Proofs.YteknjeohbcgpdaaGreatDoor
