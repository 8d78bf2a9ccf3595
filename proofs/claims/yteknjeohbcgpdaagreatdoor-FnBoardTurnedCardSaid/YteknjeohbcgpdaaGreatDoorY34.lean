/-
  Contract of the program's parts: some games and all their subpositions.
-/
import Derived.Test.YteknjeohbcgpdaaGreatDoorY5
import Derived.Test.YteknjeohbcgpdaaGreatDoorY32
import Derived.BigQuiet
set_option maxRecDepth 100000
namespace Go.Proofs.YteknjeohbcgpdaaGreatDoor
open Go.RowKit
open Cgt (Dag Nd vl Same Ge)

def PartsPost (_pp _h : Nat) (s : PSt) (R : List Nat) (w : World) (e : Ending) (w' : World) : Prop :=
  ∃ v' Ls, e = .returned v' ∧ w'.ownsRow w.heap.size 3 1 v' Ls.length ((toZ Ls).map (Value.int .i64)) ∧ Ls.Nodup ∧ (∀ j, j ∈ Ls ↔ ∃ r, r ∈ R ∧ Cgt.Reach s.D r j) ∧ Ext w w'

structure PartInv (D : Dag) (R Ls : List Nat) (k : Nat) (more : List Nat) : Prop where
  nd : Ls.Nodup
  reach : ∀ j, j ∈ Ls → ∃ r, r ∈ R ∧ Cgt.Reach D r j
  done : ∀ j (h : j < Ls.length), j < k → ∀ side x, x ∈ opt D side Ls[j] → x ∈ Ls
  more : ∀ x, x ∈ more → x ∈ Ls

theorem part_lt {D : Dag} (hD : Cgt.WF D) {R Ls : List Nat} (hR : ∀ x, x ∈ R → x < D.length) (h : ∀ j, j ∈ Ls → ∃ r, r ∈ R ∧ Cgt.Reach D r j) : ∀ j, j ∈ Ls → j < D.length := fun j hj => by
  obtain ⟨r, hr, hj⟩ := h j hj
  have := Cgt.reach_lt hD hj
  have := hR r hr
  omega
theorem PartInv.len {D : Dag} (hD : Cgt.WF D) {R Ls more : List Nat} {k : Nat} (hR : ∀ x, x ∈ R → x < D.length) (h : PartInv D R Ls k more) : Ls.length ≤ D.length := nodup_len h.nd (part_lt hD hR h.reach)
theorem PartInv.have {D : Dag} {R Ls more : List Nat} {k x : Nat} (h : PartInv D R Ls k more) (hx : x ∈ Ls) : PartInv D R Ls k (more ++ [x]) :=
  ⟨h.nd, h.reach, h.done, fun y hy => by rcases List.mem_append.1 hy with hy | hy; exact h.more y hy; simp at hy; subst hy; exact hx⟩
theorem PartInv.add {D : Dag} {R Ls more : List Nat} {k x : Nat} (h : PartInv D R Ls k more) (hk : k ≤ Ls.length) (hx : x ∉ Ls) (hr : ∃ r, r ∈ R ∧ Cgt.Reach D r x) : PartInv D R (Ls ++ [x]) k (more ++ [x]) := by
  refine ⟨?_, fun j hj => ?_, fun j hj hjk side y hy => ?_, fun y hy => ?_⟩
  · rw [List.nodup_append]; exact ⟨h.nd, by simp, fun a ha b hb => by simp at hb; subst hb; rintro rfl; exact hx ha⟩
  · rcases List.mem_append.1 hj with hj | hj
    · exact h.reach j hj
    · simp at hj; subst hj; exact hr
  · have hjl : j < Ls.length := by omega
    rw [List.getElem_append_left hjl] at hy
    exact List.mem_append.2 (.inl (h.done j hjl hjk side y hy))
  · rcases List.mem_append.1 hy with hy | hy
    · exact List.mem_append.2 (.inl (h.more y hy))
    · exact List.mem_append.2 (.inr hy)
theorem PartInv.next {D : Dag} {R Ls : List Nat} {k : Nat} (h : PartInv D R Ls k (opt D true (Ls.getD k 0) ++ opt D false (Ls.getD k 0))) : PartInv D R Ls (k + 1) [] := by
  refine ⟨h.nd, h.reach, fun j hj hjk side x hx => ?_, by simp⟩
  by_cases e : j = k
  · subst e
    refine h.more x (List.mem_append.2 ?_)
    have : Ls.getD j 0 = Ls[j] := by simp [List.getD, hj]
    rw [this]
    cases side
    · exact .inr hx
    · exact .inl hx
  · exact h.done j hj (by omega) side x hx
theorem PartInv.all {D : Dag} {R Ls more : List Nat} (h : PartInv D R Ls Ls.length more) (hR : ∀ r, r ∈ R → r ∈ Ls) : ∀ j, j ∈ Ls ↔ ∃ r, r ∈ R ∧ Cgt.Reach D r j := by
  have clos : ∀ i side x, i ∈ Ls → x ∈ opt D side i → x ∈ Ls := fun i side x hi hx => by
    obtain ⟨j, hj, rfl⟩ := List.mem_iff_getElem.1 hi
    exact h.done j hj hj side x hx
  have key : ∀ {r j : Nat}, Cgt.Reach D r j → r ∈ R → j ∈ Ls := fun {r j} hj hr => by
    induction hj with
    | here => exact hR r hr
    | left _ hd hk ih => exact clos _ true _ ih (by simp [opt, hd]; exact hk)
    | right _ hd hk ih => exact clos _ false _ ih (by simp [opt, hd]; exact hk)
  exact fun j => ⟨h.reach j, fun ⟨r, hr, hj⟩ => key hj hr⟩

theorem part_start {pp h : Nat} {s : PSt} {w : World} (hP : PoolAt w pp h s) : RedMem pp h s w ((w.alloc (.map #[] 0)).alloc (.cells #[] 3)) w.heap.size (.slice (some ⟨w.heap.size + 1, 0, none⟩) 0 0) (.slice none 0 0) [] [] [] := by
  have z1 : (w.alloc (.map #[] 0)).heap.size = w.heap.size + 1 := World.size_alloc _ _
  refine ⟨?_, ⟨by simp [toZ], .inl ⟨rfl, rfl⟩⟩, ⟨fun _ => none, ?_, fun x => by simp⟩, Nat.le_refl _, by simp [Value.ownBlock], by simp [Value.ownBlock], by simp [Value.ownBlock], ?_⟩
  · have := own_empty (w.alloc (.map #[] 0)) w.heap.size (by omega) 3
    rw [z1] at this; simpa [toZ] using this
  · refine MapIs.made _ _ (c := 0) ?_
    rw [Below.heap_alloc _ _ _ (by omega)]
    exact alloc_at rfl
  · intro b hb
    have : w.heap.size ≤ b ∧ b ≤ w.heap.size + 1 := by
      rcases hb with rfl | hb | hb
      · omega
      · simp [Value.ownBlock] at hb; omega
      · simp [Value.ownBlock] at hb
    exact ⟨by rw [World.size_alloc, z1]; omega, hP.new this.1⟩

def Keeps (R Ls : List Nat) (k x : Nat) : Prop := (∀ r, r ∈ R → r ∈ Ls) ∧ k < Ls.length ∧ Ls.getD k 0 = x
theorem Keeps.add {R Ls : List Nat} {k x : Nat} (h : Keeps R Ls k x) (y : Nat) : Keeps R (Ls ++ [y]) k x :=
  ⟨fun r hr => List.mem_append.2 (.inl (h.1 r hr)), by have := h.2.1; simp; omega, by rw [← h.2.2]; simp [List.getD, List.getElem?_append_left h.2.1]⟩
theorem idx0 (W : World) (a b : Option Addr) (n m c d : Nat) : (Instr.index 177 (.agg #[.slice a n c, .slice b m d]) (.int .i64 0)).run Tryz.prog W = .ok (.slice a n c) W := by kernel_rfl
theorem idx1 (W : World) (a b : Option Addr) (n m c d : Nat) : (Instr.index 177 (.agg #[.slice a n c, .slice b m d]) (.int .i64 1)).run Tryz.prog W = .ok (.slice b m d) W := by kernel_rfl
theorem two_cases {n : Nat} (h : n ≤ 2) : n = 0 ∨ n = 1 ∨ n = 2 := by omega
def moreOf (D : Dag) (x : Nat) (n : Nat) : List Nat := if n = 0 then [] else if n = 1 then opt D true x else opt D true x ++ opt D false x

set_option maxHeartbeats 4000000 in
theorem parts_any (pp h : Nat) (s : PSt) (v : Value) (R : List Nat) (T : Nat → Prop) (w : World) (hP : PoolAt w pp h s) (hR : ∀ x, x ∈ R → x < s.D.length) (hRl : R.length ≤ 1000000) (hv : SInts T w v R) :
    Calls Tryz.prog 117 #[.pointer (some ⟨pp, 0, none⟩), v] w (PartsPost pp h s R w) := by
  have hds := hP.small
  have HWF := Lib.hid hP.good.wf
  obtain ⟨i0, hi0, hz0, hz1, hz2⟩ := info_parts info_int
  obtain ⟨av, cv, rfl, -⟩ := id hv.out
  rw [toZ_len] at hv ⊢
  have hmk := fun w : World => run_makeMap_plain (P := Tryz.prog) (w := w) 187
  have hm0 := part_start hP
  have hx0 : Ext w ((w.alloc (.map #[] 0)).alloc (.cells #[] 3)) := by go_grown
  go_enter Tryz.func117, Tryz.ntmps117
  go_upto_region 3 with fail
  generalize (w.alloc (.map #[] 0)).alloc (.cells #[] 3) = W0 at *
  go_wp2
  go_loopw [6, 8, 18] (fun lv _ ii wr => ∃ (k : Nat) (Ls : List Nat), k ≤ R.length ∧ ii = .int .i64 ((k : Nat) : Int) ∧ RedMem pp h s w wr w.heap.size lv (.slice none 0 0) Ls [] Ls ∧ Ext w wr ∧ Hid (PartInv s.D R Ls 0 (R.take k)) ∧ Hid (Ls.length ≤ s.D.length)) (fun _ _ ii _ => R.length - (intOf ii).toNat)
  case atStart => exact ⟨0, [], Nat.zero_le _, rfl, hm0, hx0, Lib.hid ⟨List.nodup_nil, by simp, by simp, by simp⟩, Nat.zero_le _⟩
  case round =>
    clear hm0
    obtain ⟨k, Ls, hk, rfl, hm, hx, HI, HLN⟩ := hrel
    have hLl : Ls.length ≤ 900000 := by have := HLN.out; omega
    have hwr := hx.size
    by_cases hlt : k < R.length
    · have h1 : ((k : Nat) : Int) < ((R.length : Nat) : Int) := by omega
      obtain ⟨-, hln, hcl⟩ := SInts.at (hv.ext hx)
      obtain ⟨b, off, rfl, hcell⟩ := hcl (by omega)
      have hck := hcell k hlt
      have hxR := hR _ (List.getElem_mem hlt)
      obtain ⟨x, hxe⟩ : ∃ x, x = R[k] := ⟨_, rfl⟩
      have htk : R.take (k + 1) = R.take k ++ [x] := by rw [hxe]; exact List.take_succ_eq_append_getElem hlt
      have hxm : x ∈ R := by rw [hxe]; exact List.getElem_mem hlt
      rw [← hxe] at hck hxR
      have hlk1 := hm.look (x := x) (by omega) wr rfl
      obtain ⟨aq, cq, rfl, hqc, _⟩ := own_len hm.q
      have HTK := Lib.hid htk
      have HV := Lib.hid hv
      have HXM := Lib.hid hxm
      clear hcl hcell hxe htk hv hxm
      by_cases hin : x ∈ Ls
      · simp only [hin, decide_true] at hlk1
        have HIN := Lib.hid hin
        clear hin
        go_wp2
        go_roundw
        case rel => exact ⟨k + 1, Ls, by omega, by go_num, hm, hx, by rw [HTK.out]; exact Lib.hid (HI.out.have HIN.out), HLN⟩
        case measure => simp [intOf]; omega
      · simp only [hin, decide_false] at hlk1
        have HIN := Lib.hid hin
        clear hin
        obtain ⟨fm, hM, hfm⟩ := hm.seen
        have HFM := Lib.hid hfm
        have hki := keyOfI x (by omega)
        have HI5 := Lib.hid (HI.out.add (Nat.zero_le _) HIN.out ⟨x, HXM.out, .here⟩)
        have HLN5 := Lib.hid (HI5.out.len HWF.out hR)
        have hPr := hP.ext hx
        clear hfm
        go_wp2_with (first
          | (at_builtin; refine app_list rfl (.tmp 28) (.tmp 30) 80 rfl w.heap.size 3 i0 (.int .i64 0) 1 8 Tryz.underlying80 hi0 hz0 hz1 hz2 rfl (by decide) (.slice aq Ls.length cq) Ls.length _ rfl (hm3.q.alloc _) _ 1 _ [.int .i64 (x : Int)] rfl rfl (.inr ⟨_, rfl, one_src (new_cell _ _ _)⟩) one_cell (by unfold maxLen; omega) (by omega) (by rw [World.size_alloc]; have := hx3.size; omega) ?_; intro v5 w5 ho5 hg5 hl5)
          | (at_mapUpdate; refine store_list rfl _ _ _ 187 rfl 3 4 keyedI Tryz.underlying187 w.heap.size Ls.length fm rfl hM (by unfold maxLen; omega) (.int .i64 (x : Int)) (.bool true) rfl rfl hki ?_; intro w3 hM3 hg3; have hm3 := hm.mark HFM.out hM3 hg3; have hx3 := ext_grown hx hg3 (fun b hb => by injection hb with hb; rw [← hb]; exact Nat.le_refl _)))
        have hm5 := hm3.push (news := [x]) (hP.ext hx3) (ext_alloc (Below.refl _ _) _) hg5 ho5 (by simp) (by rw [toZ_app, List.map_append]; rfl) hl5
        have hx5 := ext_grown (ext_alloc hx3 _) hg5 (fun b hb => (hm3.q.lt b hb).1)
        go_roundw
        case rel => exact ⟨k + 1, Ls ++ [x], by omega, by go_num, hm5, hx5, by rw [HTK.out]; exact HI5, HLN5⟩
        case measure => simp [intOf]; omega
    · have h1 : ¬ (((k : Nat) : Int) < ((R.length : Nat) : Int)) := by omega
      have hke : k = R.length := by omega
      subst hke
      rw [List.take_length] at HI
      obtain ⟨wo, rfl⟩ : ∃ wo : World, wo = wr := ⟨_, rfl⟩
      have HI0 := Lib.hid (show PartInv s.D R Ls 0 [] ∧ ∀ r, r ∈ R → r ∈ Ls from ⟨⟨HI.out.nd, HI.out.reach, HI.out.done, by simp⟩, HI.out.more⟩)
      clear HI hv
      go_wp2
      go_loopw [6, 9, 11, 13] (fun lv kk _ _ wr => ∃ (k : Nat) (Ls : List Nat), k ≤ Ls.length ∧ kk = .int .i64 ((k : Nat) : Int) ∧ RedMem pp h s w wr w.heap.size lv (.slice none 0 0) Ls [] Ls ∧ Ext w wr ∧ Hid (PartInv s.D R Ls k [] ∧ ∀ r, r ∈ R → r ∈ Ls) ∧ Hid (Ls.length ≤ s.D.length)) (fun _ kk _ _ _ => s.D.length + 1 - (intOf kk).toNat)
      case atStart => exact ⟨0, Ls, Nat.zero_le _, rfl, hm, hx, HI0, HLN⟩
      case round =>
        clear hm hx HI0 HLN
        obtain ⟨k, Ls, hk, rfl, hm, hx, HI, HLN⟩ := hrel
        have hLl : Ls.length ≤ 900000 := by have := HLN.out; omega
        have hwr := hx.size
        by_cases hlt : k < Ls.length
        · have h1 : ((k : Nat) : Int) < ((Ls.length : Nat) : Int) := by omega
          obtain ⟨gq, cq, rfl, hqc, hqm, hqcell⟩ := own_at hm.q (by omega)
          have hck := hqcell k (by omega)
          obtain ⟨x, hxe⟩ : ∃ x, x = Ls[k] := ⟨_, rfl⟩
          have e0 : ((toZ Ls).map (Value.int .i64))[k]? = some (.int .i64 (x : Int)) := by rw [hxe]; simp [toZ, hlt]
          rw [e0] at hck
          have hxL : x ∈ Ls := by rw [hxe]; exact List.getElem_mem hlt
          have hxD : x < s.D.length := part_lt HWF.out hR HI.out.1.reach x hxL
          have HKP : Hid (Keeps R Ls k x) := Lib.hid ⟨HI.out.2, hlt, by rw [hxe]; simp [List.getD, hlt]⟩
          obtain ⟨r0, hr0, hrx⟩ := HI.out.1.reach x hxL
          have HOrL := Lib.hid (fun y (hy : y ∈ opt s.D true x) => (⟨r0, hr0, reach_opt hrx hy⟩ : ∃ r, r ∈ R ∧ Cgt.Reach s.D r y))
          have HOrR := Lib.hid (fun y (hy : y ∈ opt s.D false x) => (⟨r0, hr0, reach_opt hrx hy⟩ : ∃ r, r ∈ R ∧ Cgt.Reach s.D r y))
          have HOlL := Lib.hid (fun y (hy : y ∈ opt s.D true x) => (by have := opt_lt HWF.out hy; omega : y < s.D.length))
          have HOlR := Lib.hid (fun y (hy : y ∈ opt s.D false x) => (by have := opt_lt HWF.out hy; omega : y < s.D.length))
          have hol := opt_len hP.good (left := true) (f := x)
          have hor := opt_len hP.good (left := false) (f := x)
          obtain ⟨gr, capr, aR, cR, cpp1, hgr1, hgr2, cgr, hSR⟩ := hP.rightAt hxD
          obtain ⟨gl, capl, aL, cL, cpp0, hgl1, hgl2, cgl, hSL⟩ := hP.leftAt hxD
          replace cpp1 := (hx.cell (lt_of_cell cpp1)).trans cpp1
          replace cpp0 := (hx.cell (lt_of_cell cpp0)).trans cpp0
          replace cgr := (hx.cell (lt_of_cell cgr)).trans cgr
          replace cgl := (hx.cell (lt_of_cell cgl)).trans cgl
          rw [← (opt_at hxD).1] at cgl hSL
          rw [← (opt_at hxD).2] at cgr hSR
          have HIM := Lib.hid (show PartInv s.D R Ls k (moreOf s.D x 0) by simpa [moreOf] using HI.out.1)
          obtain ⟨OL, hOL⟩ : ∃ O, O = opt s.D true x := ⟨_, rfl⟩
          obtain ⟨OR, hOR⟩ : ∃ O, O = opt s.D false x := ⟨_, rfl⟩
          have HMO : Hid (moreOf s.D x 1 = OL ∧ moreOf s.D x 2 = OL ++ OR) := Lib.hid ⟨by simp [moreOf, hOL], by simp [moreOf, hOL, hOR]⟩
          rw [← hOL] at cgl hSL HOrL HOlL hol
          rw [← hOR] at cgr hSR HOrR HOlR hor
          have hSL := Lib.hid hSL
          have hSR := Lib.hid hSR
          clear hqcell e0 hxe hxL hr0 hrx HI hOL hOR
          have ix0 := fun W : World => idx0 W aL aR OL.length OR.length cL cR
          have ix1 := fun W : World => idx1 W aL aR OL.length OR.length cL cR
          go_upto_region 13 with fail
          go_quiet (fail)
          generalize hW1 : wr.drewN nq = W1
          have hd1 : Ext wr W1 := by rw [← hW1]; exact rd_ext ⟨_, rfl⟩
          have hm1 := hm.ext hd1
          have hx1 := ext_trans hx hd1
          clear hW1 hd1 hm hx hck cgl cgr cpp0 cpp1
          go_wp2
          go_loopw [6, 11, 13, 60] (fun lv _ _ ii wr => ∃ (si : Nat) (Ls : List Nat), si ≤ 2 ∧ ii = .int .i64 ((si : Nat) : Int) ∧ RedMem pp h s w wr w.heap.size lv (.slice none 0 0) Ls [] Ls ∧ Ext w wr ∧ Hid (PartInv s.D R Ls k (moreOf s.D x si)) ∧ Hid (Ls.length ≤ s.D.length) ∧ Hid (Keeps R Ls k x)) (fun _ _ _ ii _ => 2 - (intOf ii).toNat)
          case atStart => exact ⟨0, Ls, Nat.zero_le _, rfl, hm1, hx1, HIM, HLN, HKP⟩
          case round =>
            clear hm1 hx1 HIM HLN HKP
            obtain ⟨si, Ls, hsi, rfl, hm, hx, HI, HLN, HKP⟩ := hrel
            rcases two_cases hsi with rfl | rfl | rfl
            · have HI : Hid (PartInv s.D R Ls k []) := Lib.hid (by simpa [moreOf] using HI.out)
              obtain ⟨wq, rfl⟩ : ∃ wq : World, wq = wr := ⟨_, rfl⟩
              go_wp2
              go_loopw [6, 13, 65] (fun lv _ ii wr => ∃ (q : Nat) (Ls : List Nat), q ≤ OL.length ∧ ii = .int .i64 ((q : Nat) : Int) ∧ RedMem pp h s w wr w.heap.size lv (.slice none 0 0) Ls [] Ls ∧ Ext w wr ∧ Hid (PartInv s.D R Ls k (OL.take q)) ∧ Hid (Ls.length ≤ s.D.length) ∧ Hid (Keeps R Ls k x)) (fun _ _ ii _ => OL.length - (intOf ii).toNat)
              case atStart => exact ⟨0, Ls, Nat.zero_le _, rfl, hm, hx, by simpa [Hid] using HI.out, HLN, HKP⟩
              case round =>
                clear hm hx HI HLN HKP
                obtain ⟨q, Ls, hq, rfl, hm, hx, HI, HLN, HKP⟩ := hrel
                have hLl : Ls.length ≤ 900000 := by have := HLN.out; omega
                have hwr := hx.size
                by_cases hqt : q < OL.length
                · have h2 : ((q : Nat) : Int) < ((OL.length : Nat) : Int) := by omega
                  obtain ⟨-, hln, hcl⟩ := SInts.at (hSL.out.ext hx)
                  obtain ⟨b, off, rfl, hcell⟩ := hcl (by omega)
                  have hck := hcell q hqt
                  have hyD := HOlL.out _ (List.getElem_mem hqt)
                  obtain ⟨y, hy⟩ : ∃ y, y = OL[q] := ⟨_, rfl⟩
                  have htk : OL.take (q + 1) = OL.take q ++ [y] := by rw [hy]; exact List.take_succ_eq_append_getElem hqt
                  have hyR : ∃ r, r ∈ R ∧ Cgt.Reach s.D r y := by rw [hy]; exact HOrL.out _ (List.getElem_mem hqt)
                  rw [← hy] at hck hyD
                  have hlk1 := hm.look (x := y) (by omega) wr rfl
                  obtain ⟨aq, cq, rfl, hqc, _⟩ := own_len hm.q
                  have HTK := Lib.hid htk
                  have HYR := Lib.hid hyR
                  clear hcl hcell hy htk hyR
                  by_cases hin : y ∈ Ls
                  · simp only [hin, decide_true] at hlk1
                    have HIN := Lib.hid hin
                    clear hin
                    go_wp2
                    go_roundw
                    case rel => exact ⟨q + 1, Ls, by omega, by go_num, hm, hx, by have := HI.out.have HIN.out; rw [HTK.out]; simpa [Hid, List.append_assoc] using this, HLN, HKP⟩
                    case measure => simp [intOf]; omega
                  · simp only [hin, decide_false] at hlk1
                    have HIN := Lib.hid hin
                    have hkl := HKP.out.2.1
                    clear hin
                    obtain ⟨fm, hM, hfm⟩ := hm.seen
                    have HFM := Lib.hid hfm
                    have hki := keyOfI y (by omega)
                    have HI5 := Lib.hid (HI.out.add (Nat.le_of_lt hkl) HIN.out HYR.out)
                    have HLN5 := Lib.hid (HI5.out.len HWF.out hR)
                    have hPr := hP.ext hx
                    clear hfm
                    go_wp2_with (first
                      | (at_builtin; refine app_list rfl (.tmp 75) (.tmp 77) 80 rfl w.heap.size 3 i0 (.int .i64 0) 1 8 Tryz.underlying80 hi0 hz0 hz1 hz2 rfl (by decide) (.slice aq Ls.length cq) Ls.length _ rfl (hm3.q.alloc _) _ 1 _ [.int .i64 (y : Int)] rfl rfl (.inr ⟨_, rfl, one_src (new_cell _ _ _)⟩) one_cell (by unfold maxLen; omega) (by omega) (by rw [World.size_alloc]; have := hx3.size; omega) ?_; intro v5 w5 ho5 hg5 hl5)
                      | (at_mapUpdate; refine store_list rfl _ _ _ 187 rfl 3 4 keyedI Tryz.underlying187 w.heap.size Ls.length fm rfl hM (by unfold maxLen; omega) (.int .i64 (y : Int)) (.bool true) rfl rfl hki ?_; intro w3 hM3 hg3; have hm3 := hm.mark HFM.out hM3 hg3; have hx3 := ext_grown hx hg3 (fun b hb => by injection hb with hb; rw [← hb]; exact Nat.le_refl _)))
                    have hm5 := hm3.push (news := [y]) (hP.ext hx3) (ext_alloc (Below.refl _ _) _) hg5 ho5 (by simp) (by rw [toZ_app, List.map_append]; rfl) hl5
                    have hx5 := ext_grown (ext_alloc hx3 _) hg5 (fun b hb => (hm3.q.lt b hb).1)
                    go_roundw
                    case rel => exact ⟨v5, _, _, _, _, _, _, _, _, _, _, _, _, _, _, _, _, ⟨q + 1, Ls ++ [y], by omega, by go_num, hm5, hx5, by have := HI5.out; rw [HTK.out]; simpa [Hid, List.append_assoc] using this, HLN5, HKP.out.add y⟩, rfl⟩
                    case measure => simp [intOf]; omega
                · have h2 : ¬ (((q : Nat) : Int) < ((OL.length : Nat) : Int)) := by omega
                  have hqe : q = OL.length := by omega
                  subst hqe
                  rw [List.take_length] at HI
                  go_wp2
                  go_roundw
                  case rel => exact ⟨1, Ls, by omega, by go_num, hm, hx, by rw [HMO.out.1]; exact HI, HLN, HKP⟩
                  case measure => simp [intOf]
            · have HI : Hid (PartInv s.D R Ls k OL) := by rw [← HMO.out.1]; exact HI
              obtain ⟨wq, rfl⟩ : ∃ wq : World, wq = wr := ⟨_, rfl⟩
              go_wp2
              go_loopw [6, 13, 65] (fun lv _ ii wr => ∃ (q : Nat) (Ls : List Nat), q ≤ OR.length ∧ ii = .int .i64 ((q : Nat) : Int) ∧ RedMem pp h s w wr w.heap.size lv (.slice none 0 0) Ls [] Ls ∧ Ext w wr ∧ Hid (PartInv s.D R Ls k (OL ++ OR.take q)) ∧ Hid (Ls.length ≤ s.D.length) ∧ Hid (Keeps R Ls k x)) (fun _ _ ii _ => OR.length - (intOf ii).toNat)
              case atStart => exact ⟨0, Ls, Nat.zero_le _, rfl, hm, hx, by simpa [Hid] using HI.out, HLN, HKP⟩
              case round =>
                clear hm hx HI HLN HKP
                obtain ⟨q, Ls, hq, rfl, hm, hx, HI, HLN, HKP⟩ := hrel
                have hLl : Ls.length ≤ 900000 := by have := HLN.out; omega
                have hwr := hx.size
                by_cases hqt : q < OR.length
                · have h2 : ((q : Nat) : Int) < ((OR.length : Nat) : Int) := by omega
                  obtain ⟨-, hln, hcl⟩ := SInts.at (hSR.out.ext hx)
                  obtain ⟨b, off, rfl, hcell⟩ := hcl (by omega)
                  have hck := hcell q hqt
                  have hyD := HOlR.out _ (List.getElem_mem hqt)
                  obtain ⟨y, hy⟩ : ∃ y, y = OR[q] := ⟨_, rfl⟩
                  have htk : OR.take (q + 1) = OR.take q ++ [y] := by rw [hy]; exact List.take_succ_eq_append_getElem hqt
                  have hyR : ∃ r, r ∈ R ∧ Cgt.Reach s.D r y := by rw [hy]; exact HOrR.out _ (List.getElem_mem hqt)
                  rw [← hy] at hck hyD
                  have hlk1 := hm.look (x := y) (by omega) wr rfl
                  obtain ⟨aq, cq, rfl, hqc, _⟩ := own_len hm.q
                  have HTK := Lib.hid htk
                  have HYR := Lib.hid hyR
                  clear hcl hcell hy htk hyR
                  by_cases hin : y ∈ Ls
                  · simp only [hin, decide_true] at hlk1
                    have HIN := Lib.hid hin
                    clear hin
                    go_wp2
                    go_roundw
                    case rel => exact ⟨q + 1, Ls, by omega, by go_num, hm, hx, by have := HI.out.have HIN.out; rw [HTK.out]; simpa [Hid, List.append_assoc] using this, HLN, HKP⟩
                    case measure => simp [intOf]; omega
                  · simp only [hin, decide_false] at hlk1
                    have HIN := Lib.hid hin
                    have hkl := HKP.out.2.1
                    clear hin
                    obtain ⟨fm, hM, hfm⟩ := hm.seen
                    have HFM := Lib.hid hfm
                    have hki := keyOfI y (by omega)
                    have HI5 := Lib.hid (HI.out.add (Nat.le_of_lt hkl) HIN.out HYR.out)
                    have HLN5 := Lib.hid (HI5.out.len HWF.out hR)
                    have hPr := hP.ext hx
                    clear hfm
                    go_wp2_with (first
                      | (at_builtin; refine app_list rfl (.tmp 75) (.tmp 77) 80 rfl w.heap.size 3 i0 (.int .i64 0) 1 8 Tryz.underlying80 hi0 hz0 hz1 hz2 rfl (by decide) (.slice aq Ls.length cq) Ls.length _ rfl (hm3.q.alloc _) _ 1 _ [.int .i64 (y : Int)] rfl rfl (.inr ⟨_, rfl, one_src (new_cell _ _ _)⟩) one_cell (by unfold maxLen; omega) (by omega) (by rw [World.size_alloc]; have := hx3.size; omega) ?_; intro v5 w5 ho5 hg5 hl5)
                      | (at_mapUpdate; refine store_list rfl _ _ _ 187 rfl 3 4 keyedI Tryz.underlying187 w.heap.size Ls.length fm rfl hM (by unfold maxLen; omega) (.int .i64 (y : Int)) (.bool true) rfl rfl hki ?_; intro w3 hM3 hg3; have hm3 := hm.mark HFM.out hM3 hg3; have hx3 := ext_grown hx hg3 (fun b hb => by injection hb with hb; rw [← hb]; exact Nat.le_refl _)))
                    have hm5 := hm3.push (news := [y]) (hP.ext hx3) (ext_alloc (Below.refl _ _) _) hg5 ho5 (by simp) (by rw [toZ_app, List.map_append]; rfl) hl5
                    have hx5 := ext_grown (ext_alloc hx3 _) hg5 (fun b hb => (hm3.q.lt b hb).1)
                    go_roundw
                    case rel => exact ⟨v5, _, _, _, _, _, _, _, _, _, _, _, _, _, _, _, _, ⟨q + 1, Ls ++ [y], by omega, by go_num, hm5, hx5, by have := HI5.out; rw [HTK.out]; simpa [Hid, List.append_assoc] using this, HLN5, HKP.out.add y⟩, rfl⟩
                    case measure => simp [intOf]; omega
                · have h2 : ¬ (((q : Nat) : Int) < ((OR.length : Nat) : Int)) := by omega
                  have hqe : q = OR.length := by omega
                  subst hqe
                  rw [List.take_length] at HI
                  go_wp2
                  go_roundw
                  case rel => exact ⟨2, Ls, by omega, by go_num, hm, hx, by rw [HMO.out.2]; exact HI, HLN, HKP⟩
                  case measure => simp [intOf]
            · have HI2 : Hid (PartInv s.D R Ls (k + 1) []) := Lib.hid (by
                have := HI.out
                simp only [moreOf] at this
                rw [← HKP.out.2.2] at this
                exact this.next)
              have hkl := HKP.out.2.1
              have hLl : Ls.length ≤ 900000 := by have := HLN.out; omega
              go_wp2
              go_roundw
              case rel => exact ⟨k + 1, Ls, by omega, by go_num, hm, hx, Lib.hid ⟨HI2.out, HKP.out.1⟩, HLN⟩
              case measure => have := HLN.out; simp [intOf]; omega
        · have h1 : ¬ (((k : Nat) : Int) < ((Ls.length : Nat) : Int)) := by omega
          have hke : k = Ls.length := by omega
          subst hke
          obtain ⟨aq, cq, rfl, hqc, _⟩ := own_len hm.q
          go_wp2
          go_ret
          exact ⟨_, Ls, rfl, hm.q, HI.out.1.nd, HI.out.1.all HI.out.2, hx⟩

end Go.Proofs.YteknjeohbcgpdaaGreatDoor
