/-
  Plain law: the forms of a board that is turned, mirrored, trimmed; no condition. (4 texts.)
-/
import Derived.Test.YteknjeohbcgpdaaGreatDoorY12
import Derived.Test.YteknjeohbcgpdaaGreatDoorY25
import Derived.Test.YteknjeohbcgpdaaGreatDoorY28
import Derived.Test.YteknjeohbcgpdaaGreatDoorY33
import Derived.Test.YteknjeohbcgpdaaGreatDoorY36
import Derived.Test.YteknjeohbcgpdaaGreatDoorY39
import Derived.Test.YteknjeohbcgpdaaGreatDoorY43
set_option maxRecDepth 100000
namespace Go.Proofs.YteknjeohbcgpdaaGreatDoor
section
open Go.RowKit
open Cgt (Dag Nd Gm vl Same ng)

def NPost (pp h N : Nat) (s : PSt) (a : Nat) (w : World) (e : Ending) (w' : World) : Prop :=
  ∃ s' j, e = .returned (.int .i64 ((j : Nat) : Int)) ∧ j < s'.D.length ∧ Same (vl s'.D j) (ng (vl s.D a)) ∧ NGo pp h s w s' w' ∧ NSt w' pp h N s'
def PNegOk (m : Nat) : Prop := ∀ (pp h N : Nat) (s : PSt) (a : Nat) (w : World), NSt w pp h N s → N ≤ 400000 → a < N → a < m → Calls Tryz.prog 70 #[.pointer (some ⟨pp, 0, none⟩), .int .i64 (a : Int)] w (NPost pp h N s a w)

theorem neg_start {pp h : Nat} {s : PSt} {w : World} (hP : PoolAt w pp h s) : NegMem pp h s w ((w.alloc (.cells #[] 3)).alloc (.cells #[] 3)) (.slice (some ⟨w.heap.size, 0, none⟩) 0 0) (.slice (some ⟨w.heap.size + 1, 0, none⟩) 0 0) [] [] := by
  have z1 : (w.alloc (.cells #[] 3)).heap.size = w.heap.size + 1 := World.size_alloc _ _
  have z2 : ((w.alloc (.cells #[] 3)).alloc (.cells #[] 3)).heap.size = w.heap.size + 1 + 1 := by rw [World.size_alloc, z1]
  refine ⟨(own_empty w w.heap.size (Nat.le_refl _) 3).alloc _, ?_, ?_, ?_⟩
  · have := own_empty (w.alloc (.cells #[] 3)) w.heap.size (by omega) 3
    rw [z1] at this; exact this
  · intro b hb hc; simp [Value.ownBlock] at hb hc; omega
  · intro b hb
    have : w.heap.size ≤ b ∧ b ≤ w.heap.size + 1 := by
      rcases hb with hb | hb
      · simp [Value.ownBlock] at hb; omega
      · simp [Value.ownBlock] at hb; omega
    exact ⟨by omega, hP.new this.1⟩
theorem NegMem.supSide {pp h : Nat} {s : PSt} {w wr wa w2 : World} {lv rv : Value} {L R : List Nat} {T : Nat → Prop} {A : World → Prop} (m : NegMem pp h s w wr lv rv L R) (a : Sup T A wr) (hT : ∀ b, T b → s.S b) (hx : Ext wr wa) (hg : wa.grownBy w2 lv.ownBlock) : Sup T A w2 :=
  (a.keep (keep_ext (F := fun _ => False) hx) (fun _ _ => id)).keep (keep_grownO hg) (fun b hb hc => (m.clr b (.inl hc)).2.2 (hT b hb))
theorem old_at {D D' : Dag} {a : Nat} (h : ∃ E, D' = D ++ E) (ha : a < D.length) (ha' : a < D'.length) : D'[a] = D[a] := by
  obtain ⟨E, rfl⟩ := h
  exact List.getElem_append_left ha

set_option maxHeartbeats 4000000 in
theorem neg_step {m : Nat} (ih : PNegOk m) : PNegOk (m + 1) := by
  intro pp h N s a w hS hN ha hm
  have hP := hS.pool
  have hds := hP.small
  have haD : a < s.D.length := by have := hS.le; omega
  obtain ⟨i0, hi0, hz0, hz1, hz2⟩ := info_parts info_int
  obtain ⟨f0, hM, hf0⟩ := hS.mapRoom
  have hkf := keyOfI a (by omega)
  have c7 := hP.c7
  have hh5 : h + 1 + 1 + 1 + 1 < w.heap.size := hP.mapsLt (by omega)
  go_enter Tryz.func70, Tryz.ntmps70
  cases e0 : f0 (.int .i64 (a : Int)) with
  | some v =>
    obtain ⟨a', j, e1, rfl, h1, h2, h3⟩ := hf0 _ _ e0
    obtain rfl : a = a' := by simp only [Value.int.injEq, true_and] at e1; omega
    have H23 := Lib.hid (And.intro h2 h3)
    clear hf0 h1 h2 h3 e1
    go_wp2_with (at_lookup; refine look_list rfl _ _ 135 true rfl 3 3 keyedI Tryz.underlying135 (.int .i64 0) (zeroI _) (h + 1 + 1 + 1 + 1) 900000 f0 rfl (hM.keep rfl) (.int .i64 (a : Int)) rfl hkf ?_; rw [e0]; simp only [if_true, Option.getD_some, Option.isSome_some])
    go_ret
    exact ⟨s, j, rfl, H23.out.1, H23.out.2, (PGo.refl hP (Below.refl _ _)).n, hS.ext (Below.refl _ _)⟩
  | none =>
    have hm0 := neg_start hP
    have hx0 : Ext w ((w.alloc (.cells #[] 3)).alloc (.cells #[] 3)) := by go_grown
    have HM := Lib.hid hM
    clear hM hf0
    go_upto_region 5 with (at_lookup; refine look_list rfl _ _ 135 true rfl 3 3 keyedI Tryz.underlying135 (.int .i64 0) (zeroI _) (h + 1 + 1 + 1 + 1) 900000 f0 rfl (HM.out.keep rfl) (.int .i64 (a : Int)) rfl hkf ?_; rw [e0]; simp only [if_true, Option.getD_none, Option.isSome_none])
    generalize (w.alloc (.cells #[] 3)).alloc (.cells #[] 3) = W0 at *
    have hgo0 : NGo pp h s w s W0 := (PGo.refl hP hx0).n
    obtain ⟨gr, capr, aR, cR, cpp1, hgr1, hgr2, cgr, hSR⟩ := hP.rightAt haD
    replace cpp1 := (hx0.cell (lt_of_cell cpp1)).trans cpp1
    replace cgr := (hx0.cell (lt_of_cell cgr)).trans cgr
    have haw := hP.good.wf a _ (List.getElem?_eq_getElem haD)
    have hol : s.D[a].2.length ≤ a ∧ s.D[a].1.length ≤ a := by
      have e1 := opt_len hP.good (left := false) (f := a)
      have e2 := opt_len hP.good (left := true) (f := a)
      rw [opt_false haD] at e1; rw [opt_true haD] at e2
      exact ⟨e1, e2⟩
    obtain ⟨O, hO⟩ : ∃ O, O = s.D[a].2 := ⟨_, rfl⟩
    have hOm : ∀ x, x ∈ O → x < a := fun x hx => haw.2 x (hO ▸ hx)
    rw [← hO] at hSR cgr
    have hOl : O.length ≤ a := by rw [hO]; exact hol.1
    have hol2 := hol.2
    have hS0 := hS.ext hx0
    have HO := Lib.hid hO
    clear hO hol c7 e0
    go_wp2
    go_loopw [7, 10, 35] (fun lv _ ii wr => ∃ (k : Nat) (s1 : PSt) (L : List Nat), k ≤ O.length ∧ ii = .int .i64 ((k : Nat) : Int) ∧ NGo pp h s w s1 wr ∧ NSt wr pp h N s1 ∧ NegMem pp h s1 w wr lv (.slice (some ⟨w.heap.size + 1, 0, none⟩) 0 0) L [] ∧ Hid (NegL s1.D s.D O L k)) (fun _ _ ii _ => O.length - (intOf ii).toNat)
    case atStart => exact ⟨0, s, [], Nat.zero_le _, rfl, hgo0, hS0, hm0, Lib.hid (NegL.nil _ _ _)⟩
    case round =>
      obtain ⟨k, s1, L, hk, rfl, hgo, hS1, hmm, HL⟩ := hrel
      have hql : L.length = k := HL.out.len
      by_cases hlt : k < O.length
      · have h1 : ((k : Nat) : Int) < ((O.length : Nat) : Int) := by omega
        obtain ⟨-, hln, hcl⟩ := SInts.at (NGo.sup hSR hgo hP (fun _ h => h))
        obtain ⟨b, off, rfl, hcell⟩ := hcl (by omega)
        have hck := hcell k hlt
        have hi1 := hOm _ (List.getElem_mem hlt)
        obtain ⟨aq, cq, rfl, hqc, _⟩ := own_len hmm.l
        have IH := Lib.hid (ih pp h N s1 O[k] wr hS1 hN (by omega) (by omega))
        have HS := Lib.hid hSR
        obtain ⟨kn, hkn⟩ : ∃ n, n = L.length := ⟨_, rfl⟩
        rw [← hkn] at hqc ⊢
        have HMM := Lib.hid hmm
        have HKN := Lib.hid hkn
        have hkn2 : kn = k := by omega
        have hwl := hgo.keep.size
        clear hcl hcell hSR hmm hkn hql
        subst hkn2
        go_wp2_with (first
          | (go_at_call 70; refine IH.out.mono ?_; rintro e w2 ⟨s2, j, rfl, hj2, hs2, hgo2, hS2⟩; have hmq2 := (HMM.out.go hh5 hgo2).l; rw [← HKN.out] at hmq2)
          | (at_builtin; refine app_list rfl (.tmp 39) (.tmp 43) 80 rfl w.heap.size 3 i0 (.int .i64 0) 1 8 Tryz.underlying80 hi0 hz0 hz1 hz2 rfl (by decide) (.slice aq kn cq) kn _ rfl (hmq2.alloc _) _ 1 _ [.int .i64 (j : Int)] rfl rfl (.inr ⟨_, rfl, one_src (new_cell _ _ _)⟩) one_cell (by unfold maxLen; omega) (by omega) (by rw [World.size_alloc]; have := hgo2.keep.size; omega) ?_; intro v5 w5 ho5 hg5 hl5))
        go_roundw
        case rel =>
          have hm2 := HMM.out.go hh5 hgo2
          rw [← HKN.out] at hm2
          have hm5 := hm2.push (news := [j]) hgo2.pool (ext_alloc (Below.refl _ _) _) hg5 ho5 (by simp [HKN.out]) (by rw [toZ_app, List.map_append]; rfl) hl5
          have hok : O[kn] < s.D.length := by omega
          have h3 := (HL.out.go hS1.pool.good.wf hgo2).next hlt hj2 (by rw [← hgo.vl hP.good.wf hok]; exact hs2)
          exact ⟨kn + 1, s2, L ++ [j], by omega, by go_num, hm2.side (hgo.trans hgo2) (ext_alloc (Below.refl _ _) _) hg5, hS2.side hm2 hh5 (ext_alloc (Below.refl _ _) _) hg5, hm5, Lib.hid h3⟩
        case measure => simp [intOf]; omega
      · have h1 : ¬ (((k : Nat) : Int) < ((O.length : Nat) : Int)) := by omega
        have hke : k = O.length := by omega
        subst hke
        have ha1 : a < s1.D.length := Nat.lt_of_lt_of_le haD hgo.len
        have hda := old_at hgo.more haD ha1
        obtain ⟨gl, capl, aL, cL, cpp0, hgl1, hgl2, cgl, hSL⟩ := hS1.pool.leftAt ha1
        rw [hda] at cgl hSL
        obtain ⟨O2, hO2⟩ : ∃ O, O = s.D[a].1 := ⟨_, rfl⟩
        rw [← hO2] at hSL cgl hol2
        have hOm2 : ∀ x, x ∈ O2 → x < a := fun x hx => haw.1 x (hO2 ▸ hx)
        obtain ⟨wo, rfl⟩ : ∃ wo : World, wo = wr := ⟨_, rfl⟩
        obtain ⟨nL, hnL⟩ : ∃ n, n = L.length := ⟨_, rfl⟩
        have HO2 := Lib.hid hO2
        have HNL := Lib.hid hnL
        have hP1 := hS1.pool
        have hmL := hmm.swap
        obtain ⟨aq1, cq1, rfl, hqc1, _⟩ := own_len hmm.l
        clear hO2 hnL hda hSR cgr cpp1 hql
        go_wp2
        go_loopw [8, 12, 54] (fun rv _ ii wr => ∃ (k : Nat) (s2 : PSt) (R : List Nat), k ≤ O2.length ∧ ii = .int .i64 ((k : Nat) : Int) ∧ SInts s1.S wr (.slice aL O2.length cL) O2 ∧ Hid (∀ b, s1.S b → s2.S b) ∧ NGo pp h s w s2 wr ∧ NSt wr pp h N s2 ∧ NegMem pp h s2 w wr rv (.slice aq1 L.length cq1) R L ∧ Hid (NegL s2.D s.D O L O.length) ∧ Hid (NegL s2.D s.D O2 R k)) (fun _ _ ii _ => O2.length - (intOf ii).toNat)
        case atStart => exact ⟨0, s1, [], Nat.zero_le _, rfl, hSL, Lib.hid (fun _ h => h), hgo, hS1, hmL, HL, Lib.hid (NegL.nil _ _ _)⟩
        case round =>
          clear hgo hS1 hmm HL hmL hSL
          obtain ⟨k, s2, R, hk, rfl, hSL, HSS, hgo, hS2, hmm, HL, HR⟩ := hrel
          have hql : R.length = k := HR.out.len
          by_cases hlt : k < O2.length
          · have h1 : ((k : Nat) : Int) < ((O2.length : Nat) : Int) := by omega
            obtain ⟨-, hln, hcl⟩ := SInts.at hSL
            obtain ⟨b, off, rfl, hcell⟩ := hcl (by omega)
            have hck := hcell k hlt
            have hi1 := hOm2 _ (List.getElem_mem hlt)
            obtain ⟨aq, cq, rfl, hqc, _⟩ := own_len hmm.l
            have IH := Lib.hid (ih pp h N s2 O2[k] wr hS2 hN (by omega) (by omega))
            have HS := Lib.hid hSL
            obtain ⟨kn, hkn⟩ : ∃ n, n = R.length := ⟨_, rfl⟩
            rw [← hkn] at hqc ⊢
            have HMM := Lib.hid hmm
            have HKN := Lib.hid hkn
            have hkn2 : kn = k := by omega
            have hwl := hgo.keep.size
            clear hcl hcell hSL hmm hkn hql
            subst hkn2
            go_wp2_with (first
              | (go_at_call 70; refine IH.out.mono ?_; rintro e w2 ⟨s3, j, rfl, hj2, hs2, hgo2, hS3⟩; have hmq2 := (HMM.out.go hh5 hgo2).l; rw [← HKN.out] at hmq2)
              | (at_builtin; refine app_list rfl (.tmp 58) (.tmp 62) 80 rfl w.heap.size 3 i0 (.int .i64 0) 1 8 Tryz.underlying80 hi0 hz0 hz1 hz2 rfl (by decide) (.slice aq kn cq) kn _ rfl (hmq2.alloc _) _ 1 _ [.int .i64 (j : Int)] rfl rfl (.inr ⟨_, rfl, one_src (new_cell _ _ _)⟩) one_cell (by unfold maxLen; omega) (by omega) (by rw [World.size_alloc]; have := hgo2.keep.size; omega) ?_; intro v5 w5 ho5 hg5 hl5))
            go_roundw
            case rel =>
              have hm2 := HMM.out.go hh5 hgo2
              rw [← HKN.out] at hm2
              have hm5 := hm2.push (news := [j]) hgo2.pool (ext_alloc (Below.refl _ _) _) hg5 ho5 (by simp [HKN.out]) (by rw [toZ_app, List.map_append]; rfl) hl5
              have hok : O2[kn] < s.D.length := by omega
              have h3 := (HR.out.go hS2.pool.good.wf hgo2).next hlt hj2 (by rw [← hgo.vl hP.good.wf hok]; exact hs2)
              exact ⟨kn + 1, s3, R ++ [j], by omega, by go_num, hm2.supSide (NGo.sup HS.out hgo2 hS2.pool HSS.out) (fun b hb => hgo2.old b (HSS.out b hb)) (ext_alloc (Below.refl _ _) _) hg5, Lib.hid (fun b hb => hgo2.old b (HSS.out b hb)), hm2.side (hgo.trans hgo2) (ext_alloc (Below.refl _ _) _) hg5, hS3.side hm2 hh5 (ext_alloc (Below.refl _ _) _) hg5, hm5, Lib.hid (HL.out.go hS2.pool.good.wf hgo2), Lib.hid h3⟩
            case measure => simp [intOf]; omega
          · have h1 : ¬ (((k : Nat) : Int) < ((O2.length : Nat) : Int)) := by omega
            have hke : k = O2.length := by omega
            subst hke
            have hLl := HL.out.len
            have hP2 := hS2.pool
            have hsm := hS2.small
            have hroom : s2.D.length + 1 ≤ 900000 := by omega
            have hI1 : Ints wr (.slice aq1 L.length cq1) (toZ L) := Ints.of_own hmm.r (by rw [toZ_len]; omega)
            obtain ⟨aq, cq, rfl, hqc, _⟩ := own_len hmm.l
            have hI2 := Ints.of_own hmm.l (by rw [toZ_len]; omega)
            have CALL := Lib.hid (node_any pp h s2 _ _ L R wr hP2 hroom HL.out.lt HR.out.lt (by omega) (by omega) hI1 hI2)
            clear hI1 hI2 hLl hql hmm hSL hsm hroom
            go_upto_region 16 with (go_at_call 119; refine CALL.out.mono ?_; rintro e w3 ⟨s3, i, rfl, hgo3, hp3, hc3⟩)
            have hsa : Same (vl s3.D i) (ng (vl s.D a)) := by
              have hl := HL.out
              have hr := HR.out
              have e1 := HO.out
              have e2 := HO2.out
              subst e1; subst e2
              exact neg_node hP.good.wf hP2.good.wf hgo3.pool.good.wf haD hl hr hp3
            have hgoF := hgo.trans hgo3.n
            have hS3 := hS2.put hgo3 hp3 ha (by rw [hgo.vl hP.good.wf haD]; exact hsa)
            have hi3 := hp3.lt
            obtain ⟨f3, hM3, hf3⟩ := hS3.mapRoom
            have c73 := hS3.pool.c7
            have HSA := Lib.hid (And.intro hsa hi3)
            have HF3 := Lib.hid hf3
            have hd3 := hgoF.len
            clear hsa hf3 hc3 hp3 hi3
            go_wp2_with (at_mapUpdate; refine store_list rfl _ _ _ 135 rfl 3 3 keyedI Tryz.underlying135 (h + 1 + 1 + 1 + 1) 900000 f3 rfl (hM3.keep rfl) (by unfold maxLen; omega) (.int .i64 (a : Int)) (.int .i64 (i : Int)) rfl rfl hkf ?_; intro w4 hM4 hg4)
            go_ret
            have hfin := hS3.store (Below.refl _ _) HF3.out hM4 hg4 (by omega) HSA.out.2 (by rw [hgoF.vl hP.good.wf haD]; exact HSA.out.1)
            exact ⟨s3, i, rfl, HSA.out.2, HSA.out.1, hgoF.trans hfin.2, hfin.1⟩

theorem pnegOk : ∀ m, PNegOk m := by
  intro m
  induction m with
  | zero => intro pp h N s a w _ _ _ h; omega
  | succ m ih => exact neg_step ih
theorem pneg_any (pp h N : Nat) (s : PSt) (a : Nat) (w : World) (hS : NSt w pp h N s) (hN : N ≤ 400000) (ha : a < N) : Calls Tryz.prog 70 #[.pointer (some ⟨pp, 0, none⟩), .int .i64 (a : Int)] w (NPost pp h N s a w) :=
  pnegOk (a + 1) pp h N s a w hS hN ha (by omega)
end
section
open Go.RowKit
open Cgt (Dag Nd Gm vl Same topOf)

def PRootPost (pp h : Nat) (s : PSt) (F : Dag) (w0 w : World) (e : Ending) (w' : World) : Prop :=
  ∃ s' j, e = .returned (.int .i64 ((j : Nat) : Int)) ∧ j < s'.D.length ∧ Same (vl s'.D j) (topOf F) ∧ PGo pp h s w s' w' ∧ s'.D.length ≤ s.D.length + F.length ∧ Ext w0 w' ∧ (∀ b, POwn pp h s' b → w0.heap.size ≤ b)

set_option maxHeartbeats 4000000 in
theorem proot_any (pp h : Nat) (s : PSt) (vf : Value) (F : Dag) (w0 w : World) (hf : Nodes w0 0 vf F) (hF : Cgt.WF F) (hne : 0 < F.length) (hA : ∀ x, x ∈ F → x.1.length ≤ 1000000 ∧ x.2.length ≤ 1000000) (hx : Ext w0 w) (hP : PoolAt w pp h s) (hb0 : ∀ b, POwn pp h s b → w0.heap.size ≤ b) (hFl : s.D.length + F.length ≤ 900000) :
    Calls Tryz.prog 71 #[.pointer (some ⟨pp, 0, none⟩), .agg #[vf]] w (PRootPost pp h s F w0 w) := by
  obtain ⟨aF, capF, rfl, hcap, hml, -⟩ := id hf
  have hx1 : Ext w (w.alloc (.cells #[.slice aF F.length capF] 28)) := by go_grown
  have hbx := cell_of_row (w.alloc (.cells #[.slice aF F.length capF] 28)) w.heap.size 0 _ _ _ (heap_alloc_new w _)
  go_enter Tryz.func71, Tryz.ntmps71
  go_upto_region 1 with fail
  have HC := Lib.hid (fun V (hV : Ext w V) => load_any pp h s (.slice aF F.length capF) F w0 V hf hF hA (ext_trans hx hV) (hP.ext hV) hb0 hFl)
  have hgo0 : ∀ {s' w1 w2}, Ext w w1 → PGo pp h s w1 s' w2 → PGo pp h s w s' w2 := fun hV g => (PGo.refl hP hV).trans g
  have HG := Lib.hid (And.intro hne hx1)
  simp only [gE] at hbx
  clear hf hA hx hb0 hFl hP hne
  generalize w.alloc (.cells #[.slice aF F.length capF] 28) = W at *
  go_upto_region 2 with (go_at_call 120; refine (HC.out _ (by first | exact HG.out.2 | exact ext_trans HG.out.2 (rd_ext ⟨1, rfl⟩))).mono ?_; rintro e w2 ⟨s2, v2, L, rfl, ho2, hgo2, hL2, hd2, hE2, hb2⟩)
  have hln := hL2.len
  obtain ⟨g, cap, rfl, hc1, hc2, hc3⟩ := own_at ho2 (by have := HG.out.1; omega)
  have hlt : F.length - 1 < L.length := by have := HG.out.1; omega
  have hcl := hc3 (L.length - 1) (by omega)
  have hcz : ((toZ L).map (Value.int .i64))[L.length - 1]? = some (.int .i64 ((L[F.length - 1] : Nat) : Int)) := by
    have e : L.length - 1 = F.length - 1 := by omega
    rw [e, List.getElem?_map, toZ, List.getElem?_map, List.getElem?_eq_getElem hlt]; rfl
  rw [hcz] at hcl
  have hat := Lib.hid (hL2.at_ _ hlt)
  have HE := Lib.hid (And.intro hd2 (And.intro hE2 hb2))
  obtain ⟨n, hn⟩ : ∃ n, L.length = n + 1 := ⟨L.length - 1, by omega⟩
  rw [hn, Nat.add_sub_cancel] at hcl
  rw [hn] at hc1 ⊢
  clear hcz hc3 ho2 hd2 hE2 hb2 hL2 hln
  have hi : ((n : Nat) : Int) < (((n + 1 : Nat)) : Int) := by omega
  have hwk : wrap64 ((n : Nat) : Int) = ((n : Nat) : Int) := by unfold maxLen at hc2; unfold wrap64; omega
  go_wp2
  go_ret
  exact ⟨s2, _, rfl, hat.out.1, hat.out.2, hgo0 (by first | exact HG.out.2 | exact ext_trans HG.out.2 (rd_ext ⟨1, rfl⟩)) hgo2, HE.out.1, HE.out.2.1, HE.out.2.2⟩
end
section
open Go.RowKit
open Cgt (Dag Nd Gm vl IsForm topOf Same ng)

def NegFPost (F : Dag) (w : World) (e : Ending) (w' : World) : Prop :=
  ∃ E vN Fr ok sl, e = .returned (.tuple #[.agg #[vN], .bool ok]) ∧ IsForm E ∧ Same (topOf E) (ng (topOf F)) ∧ ok = fitsN E ∧ Fr = (if ok then E else []) ∧ FO w' w.heap.size vN Fr.length sl (lsOf Fr) ∧ Ext w w'
def pstN : PSt := ⟨.slice none 0 0, .slice none 0 0, .slice none 0 0, [], fun _ => False, fun _ => none⟩
theorem pstN_own {pp h b : Nat} (hb : POwn pp h pstN b) : b = pp ∨ (h ≤ b ∧ b < h + 1 + 1 + 1) := by
  rcases hb with h | h | h | h | h
  · exact .inl h
  · exact .inr h
  · simp [pstN, Value.ownBlock] at h
  · simp [pstN, Value.ownBlock] at h
  · simp [pstN, Value.ownBlock] at h

set_option maxHeartbeats 1000000 in
theorem negForm_any (v : Value) (F : Dag) (w : World) (hf : Nodes w 0 v F) (hF : IsForm F) (hfit : fitsN F = true) : Calls Tryz.prog 31 #[.agg #[v]] w (NegFPost F w) := by
  obtain ⟨aF, capF, rfl, hcap, hml, -⟩ := id hf
  obtain ⟨l1, l2, hopt⟩ := fits_parts hfit
  have hb1 : ((w.alloc (.cells #[.slice aF F.length capF] 28)).alloc (.cells #[.slice none 0 0] 28)).heap[w.heap.size]? = some (.cells #[.slice aF F.length capF] 28 (0, 0)) := by
    rw [Below.heap_alloc _ _ _ (by simp)]; exact heap_alloc_new _ _
  have hb2 : ((w.alloc (.cells #[.slice aF F.length capF] 28)).alloc (.cells #[.slice none 0 0] 28)).heap[w.heap.size + 1]? = some (.cells #[.slice none 0 0] 28 (0, 0)) := by
    have h := heap_alloc_new (w.alloc (.cells #[.slice aF F.length capF] 28)) (.cells #[.slice none 0 0] 28); rw [World.size_alloc] at h; exact h
  have hx1 : Ext w ((w.alloc (.cells #[.slice aF F.length capF] 28)).alloc (.cells #[.slice none 0 0] 28)) := by go_grown
  have HA : Hid (∀ x, x ∈ F → x.1.length ≤ 1000000 ∧ x.2.length ≤ 1000000) := fun x hx => by
    obtain ⟨i, hi, rfl⟩ := List.mem_iff_getElem.1 hx
    have := hopt i hi; exact ⟨by omega, by omega⟩
  have HG := Lib.hid (fun V (hV : Ext w V) => pGoodForm_any (.slice aF F.length capF) F V (hf.ext hV) hF hfit)
  have HF := Lib.hid hf
  have HI := Lib.hid hF
  clear hopt hfit hf hF
  go_enter Tryz.func31, Tryz.ntmps31
  go_upto_region 1 with fail
  generalize (w.alloc (.cells #[.slice aF F.length capF] 28)).alloc (.cells #[.slice none 0 0] 28) = W at *
  have c0 := cell_of_row W w.heap.size 0 _ _ _ hb1
  simp only [gE] at c0
  go_upto_region 3 with (go_at_call 67; refine (HG.out W hx1).mono ?_; rintro e w1 ⟨rfl, hxg⟩)
  have hE1 := ext_trans hx1 hxg
  go_upto_region 4 with (go_at_call 68; refine (newPool_any w1).mono ?_; rintro e w2 ⟨h, hh, rfl, hp2, hmaps, hz2, hx2⟩)
  subst hh
  have hPool := PoolAt.empty hp2 hmaps
  have hMap : NMap w2 w1.heap.size pstN := ⟨0, _, MapIs.made _ _ (hmaps (w1.heap.size + 1 + 1 + 1 + 1) (by omega) (by omega)), fun _ _ h => by cases h⟩
  have hcc : w2.cell? ⟨w.heap.size, 0, none⟩ = some (.slice aF F.length capF) := (hx2.cell (lt_of_cell ((hxg.cell (lt_of_cell c0)).trans c0))).trans ((hxg.cell (lt_of_cell c0)).trans c0)
  have hr2 : w2.heap[w.heap.size + 1]? = some (.cells #[.slice none 0 0] 28 (0, 0)) := by rw [hx2.block _ (blk_lt ((hxg.block _ (blk_lt hb2)).trans hb2)), hxg.block _ (blk_lt hb2)]; exact hb2
  have hlt2 : w.heap.size + 1 < w1.heap.size := blk_lt ((hxg.block _ (blk_lt hb2)).trans hb2)
  generalize hhz : w1.heap.size = h at *
  have hROOT := Lib.hid (proot_any (h + 1 + 1 + 1 + 1 + 1) h pstN (.slice aF F.length capF) F w1 w2 (HF.out.ext hE1) HI.out.good.wf (by omega) HA.out hx2 hPool (fun b hb => by rcases pstN_own hb with e | e <;> omega) (by simp [pstN]; omega))
  have HP2 := Lib.hid hPool
  have HM2 := Lib.hid hMap
  have HX := Lib.hid (And.intro hE1 hx2)
  clear hp2 hmaps hz2 hPool hMap hx2 hE1 hx1 hxg hb1 hb2 c0
  go_wp2_with (first
    | (go_at_call 69; refine (pform_any _ h s4 j4 w4 hS4.pool hj4).mono ?_; rintro e w5 ⟨E, vN, Fr, ok, sl, rfl, hE, hS, hok, hFr, hFO, hx5⟩
       obtain ⟨aN, cN, rfl⟩ := hFO.top
       have HVV := Lib.hid (And.intro (And.intro hE (Cgt.same_trans hS hsm4)) (And.intro hok hFr))
       have HZ5 := Lib.hid hx5
       have HFO := Lib.hid hFO
       have hr5 : w5.heap[w.heap.size + 1]? = some (.cells #[.slice none 0 0] 28 (0, 0)) := (hx5.block _ (by have := hgo4.keep.size; have := HE3.out.size; omega)).trans hr4
       have q0 := cell_of_row w5 (w.heap.size + 1) 0 _ _ _ hr5
       have q1 := frozen_of_row w5 (w.heap.size + 1) 0 _ _ hr5
       clear hok hFr hFO hE hS)
    | (go_at_call 70; refine (pneg_any (h + 1 + 1 + 1 + 1 + 1) h s3.D.length s3 j3 w3 hS3 (by have := hD3; simp [pstN] at this; omega) hj3).mono ?_; rintro e w4 ⟨s4, j4, rfl, hj4, hn4, hgo4, hS4⟩
       have hsm4 := Cgt.same_trans hn4 (Cgt.same_ng hs3)
       have hr4 : w4.heap[w.heap.size + 1]? = some (.cells #[.slice none 0 0] 28 (0, 0)) := (hgo4.keep.block _ (by have := HE3.out.size; omega) (by rintro (c | c); (have := HB3.out _ c; omega); omega)).trans hr3)
    | (go_at_call 71; refine hROOT.out.mono ?_; rintro e w3 ⟨s3, j3, rfl, hj3, hs3, hgo3, hD3, hE3, hB3⟩
       have hS3 : NSt w3 (h + 1 + 1 + 1 + 1 + 1) h s3.D.length s3 := ⟨hgo3.pool, HM2.out.go HP2.out hgo3, Nat.le_refl _, fun i a b => by omega⟩
       have HE3 := Lib.hid hE3
       have HB3 := Lib.hid hB3
       have hr3 : w3.heap[w.heap.size + 1]? = some (.cells #[.slice none 0 0] 28 (0, 0)) := (hE3.block _ (by omega)).trans ((HX.out.2.block _ (by omega)).symm.trans hr2)
       clear hE3 hB3))
  have HW := Lib.hid (heap_setCell_same w5 (w.heap.size + 1) 0 _ _ (.slice aN Fr.length cN) hr5)
  have hE4 : Ext w1 w4 := ext_keep HE3.out hgo4.keep (fun b hb => by rcases hb with c | c; (have := HB3.out b c; omega); omega)
  have hz4 := hE4.size
  have hz1 := HX.out.1.size
  (try simp only [Exit.inBlock, Exit.then])
  refine bodyPost_ret (results_row_tmp rfl _ _ (w.heap.size + 1) 28 #[.slice aN Fr.length cN] (0, 0) _ rfl HW.out Tryz.underlying28 rfl (by kernel_rfl) rfl) rfl ?_
  exact ⟨E, _, Fr, ok, sl, rfl, HVV.out.1.1, HVV.out.1.2, HVV.out.2.1, HVV.out.2.2, (HFO.out.keepG (keep_set (p := ⟨w.heap.size + 1, 0, none⟩)) (fun b hb => by subst hb; show w.heap.size + 1 < w4.heap.size; omega)).lower (show w.heap.size ≤ w4.heap.size by omega), (ext_trans (ext_trans HX.out.1 hE4) HZ5.out).setCell (p := ⟨w.heap.size + 1, 0, none⟩) (by show w.heap.size ≤ w.heap.size + 1; omega) _⟩
end
section
open Cgt

theorem resB_yes {b : Brd} {F : Dag} {ok : Bool} {h w : Nat} (r : ResB b F ok) (g : GB b h w) (h9 : cntB b ≤ 9) : ok = true ∧ FormOf F (gB (fr b)) ∧ fitsN F = true := by
  rcases r with ⟨_, _, G, hG, hk, hF⟩ | ⟨hn, _, _⟩
  · have hf := board_fits g.bd (by rw [cnt_fr g]; exact h9) hG
    rw [hf] at hk
    subst hk
    simp only [if_true] at hF
    subst hF
    exact ⟨rfl, hG, hf⟩
  · rcases hn with e | e
    · rw [goodB_iff.2 ⟨h, w, g⟩] at e; cases e
    · exact absurd h9 e
theorem resB_no {b : Brd} {F : Dag} {ok : Bool} (r : ResB b F ok) (hn : goodB b = false ∨ ¬ cntB b ≤ 9) : ok = false ∧ F = [] := by
  rcases r with ⟨h1, h2, _⟩ | ⟨_, h2, h3⟩
  · rcases hn with e | e
    · rw [h1] at e; cases e
    · exact absurd h2 e
  · exact ⟨h2, h3⟩
section
variable {b : Brd} {h w : Nat} (g : GB b h w) (h9 : cntB b ≤ 9)
include g in
theorem trnB_gb : GB (trnB b) w h := by unfold trnB; rw [g.wid]; exact g.trn
include g h9 in
theorem trnB_cnt : cntB (trnB b) ≤ 9 := by unfold trnB; rw [g.wid, cnt_trn g]; exact h9
include g in
theorem trnB_back : trnB (trnB b) = b := by
  have e : trnB b = trn b w := by unfold trnB; rw [g.wid]
  rw [e, trnB, g.trn.wid, trn_trn g]
include g h9 in
theorem turned_neg {F G E : Dag} (hF : FormOf F (gB (fr b))) (hG : FormOf G (gB (fr (trnB b)))) (hE : IsForm E) (hs : Same (topOf E) (ng (topOf F))) : fitsN E = true ∧ E = G := by
  have e : trnB b = trn b w := by unfold trnB; rw [g.wid]
  have k := hF.neg hE hs
  have k2 : FormOf E (gB (fr (trnB b))) := by rw [e]; exact k.to (gB_trn g).eqv.symm
  exact ⟨board_fits (trnB_gb g).bd (by rw [cnt_fr (trnB_gb g)]; exact trnB_cnt g h9) k2, k2.unique hG⟩
include g in
theorem mir_join {F H : Dag} (hF : FormOf F (gB (fr b))) (hH : FormOf H (gB (fr (mirB b)))) : H = F := (hH.to (gB_mirB g).eqv).unique hF
include g h9 in
theorem trim_join {c : Brd} (ht : TrimOf b c) : (∃ h' w', GB c h' w') ∧ cntB c ≤ 9 ∧ ∀ F K, FormOf F (gB (fr b)) → FormOf K (gB (fr c)) → K = F := by
  have key : (∃ h' w', GB c h' w') ∧ cntB c ≤ 9 ∧ Same (gB (fr c)) (gB (fr b)) := by
    rcases ht with ⟨t, bo, f, o, hb, rfl⟩ | ⟨hn, rfl⟩
    · obtain ⟨gc, _⟩ := cutB_gb g hb
      refine ⟨⟨_, _, gc⟩, ?_, shift_same _ (Nat.le_refl _) g.bd gc.bd (fun r c k => ⟨(hb.all r c k).1, (hb.all r c k).2.2.1⟩) (fr_cutB hb)⟩
      rw [← cnt_fr gc, cnt_shift g.bd (fun r c k => ⟨(hb.all r c k).1, (hb.all r c k).2.2.1⟩) (fr_cutB hb), cnt_fr g]; exact h9
    · exact ⟨⟨_, _, brd1_gb⟩, by decide, gB_full hn brd1_fr⟩
  exact ⟨key.1, key.2.1, fun F K hF hK => (hK.to key.2.2.eqv).unique hF⟩
end
end
end Go.Proofs.YteknjeohbcgpdaaGreatDoor
