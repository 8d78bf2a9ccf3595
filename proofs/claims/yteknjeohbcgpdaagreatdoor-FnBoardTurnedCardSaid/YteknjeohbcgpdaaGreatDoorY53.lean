/-
  The tied card of FnBoardTurned: for every code the law answers true; the tables that it reads are tied to the program's text. (5 texts.)
-/
import Derived.Test.YteknjeohbcgpdaaGreatDoorY1
import Derived.Test.YteknjeohbcgpdaaGreatDoorY25
import Derived.Test.YteknjeohbcgpdaaGreatDoorY44
import Derived.Test.YteknjeohbcgpdaaGreatDoorY47
import Derived.Test.YteknjeohbcgpdaaGreatDoorY48
import Derived.Test.YteknjeohbcgpdaaGreatDoorY52
import Derived.Test.YteknjeohbcgpdaaGreatDoorRows
import Derived.LaidSub
import Derived.OpenShut
import Derived.Stop.Joined
import Derived.Lay
import Derived.Test.YteknjeohbcgpdaaGreatDoorTie
import Derived.Test.YteknjeohbcgpdaaGreatDoorCards
import Derived.SevenTiedAt
set_option maxRecDepth 100000
namespace Go.Proofs.YteknjeohbcgpdaaGreatDoor
section
open Go.RowKit
open Cgt (Dag Nd Brd GB goodB fr gB cntB)

structure St (w W : World) (bs : List (Value × List ByteArray)) (fs : List (Value × Dag)) (l : List (Nat × Value × TypeId)) : Prop where
  ext : Ext w W
  box : ∀ x, x ∈ l → W.heap[x.1]? = some (.cells #[x.2.1] x.2.2 (0, 0))
  brd : ∀ x, x ∈ bs → x.2.length ≤ 1000000 → Strs W x.1 x.2
  frm : ∀ x, x ∈ fs → Nodes W 0 x.1 x.2
section
variable {w W W' : World} {bs : List (Value × List ByteArray)} {fs : List (Value × Dag)} {l : List (Nat × Value × TypeId)}
theorem St.go (h : St w W bs fs l) (e : Ext W W') : St w W' bs fs l :=
  ⟨ext_trans h.ext e, fun x hx => (e.block _ (blk_lt (h.box x hx))).trans (h.box x hx), fun x hx hl => (h.brd x hx hl).ext e, fun x hx => (h.frm x hx).ext e⟩
theorem St.pushB (h : St w W bs fs l) (e : Ext W W') {v : Value} {ss : List ByteArray} (hb : ss.length ≤ 1000000 → Strs W' v ss) (t : TypeId) : St w (W'.alloc (.cells #[v] t)) ((v, ss) :: bs) fs ((W'.heap.size, v, t) :: l) := by
  have hx : Ext W' (W'.alloc (.cells #[v] t)) := ext_alloc (Below.refl _ _) _
  have k := (h.go e).go hx
  refine ⟨k.ext, fun x hx' => ?_, fun x hx' hl => ?_, k.frm⟩
  · rcases List.mem_cons.1 hx' with rfl | hx'
    · exact heap_alloc_new _ _
    · exact k.box x hx'
  · rcases List.mem_cons.1 hx' with rfl | hx'
    · exact (hb hl).ext hx
    · exact k.brd x hx' hl
theorem St.pushF (h : St w W bs fs l) (e : Ext W W') {v : Value} {F : Dag} (hb : Nodes W' 0 v F) (t : TypeId) : St w (W'.alloc (.cells #[v] t)) bs ((v, F) :: fs) ((W'.heap.size, v, t) :: l) := by
  have hx : Ext W' (W'.alloc (.cells #[v] t)) := ext_alloc (Below.refl _ _) _
  have k := (h.go e).go hx
  refine ⟨k.ext, fun x hx' => ?_, k.brd, fun x hx' => ?_⟩
  · rcases List.mem_cons.1 hx' with rfl | hx'
    · exact heap_alloc_new _ _
    · exact k.box x hx'
  · rcases List.mem_cons.1 hx' with rfl | hx'
    · exact hb.ext hx
    · exact k.frm x hx'
theorem St.cell (h : St w W bs fs l) {p : Nat} {v : Value} {t : TypeId} (hm : (p, v, t) ∈ l) : W.cell? ⟨p, 0, none⟩ = some v := by
  have := cell_of_row W p 0 _ _ _ (h.box _ hm)
  simpa using this
end
theorem fo_nodes {b : Brd} {F : Dag} {ok : Bool} {W : World} {B : Nat} {v : Value} {sl : Nat → Value} (r : ResB b F ok) (h : FO W B v F.length sl (lsOf F)) : Nodes W 0 v F := by
  obtain ⟨h1, h2⟩ := res_smallB r
  exact h.nodes (fun j hj => by have := h2 j hj; omega) (by simp [maxLen]; omega)

theorem small_of_gb {ss : List ByteArray} {h w : Nat} (g : GB (bd ss) h w) : ss.length ≤ 1000000 ∧ ss.length ≤ 1048576 ∧ ∀ s, s ∈ ss → s.size ≤ 1048576 := by
  have h1 := gb_len g; have h2 := g.h1; have h3 := g.w1
  refine ⟨by omega, by omega, fun s hs => ?_⟩
  obtain ⟨i, hi, rfl⟩ := List.mem_iff_getElem.1 hs
  have := gb_row g hi; omega
theorem fit_lists {F : Dag} (h : fitsN F = true) : F.length ≤ 1000000 ∧ ∀ i (hi : i < F.length), (F[i]).1.length ≤ 1000000 ∧ (F[i]).2.length ≤ 1000000 := by
  unfold fitsN at h
  obtain ⟨_, f2, f3⟩ := of_decide_eq_true h
  exact ⟨by omega, fun i hi => by have := f3 i hi; omega⟩

set_option maxHeartbeats 4000000 in
theorem turned_walk (v : Value) (us : List Nat) (m : Int) (w : World) (hv : Vals w v (cds us)) (hs : ∀ u, u ∈ us → u < 256) (hm : w.cell? ⟨0, 0, none⟩ = some (.int .i64 m)) :
    Calls Tryz.prog 5 #[v] w fun e w' => e = .returned (.bool true) ∧ Ext w w' := by
  obtain ⟨a, cap, rfl, -, -, -⟩ := id hv
  by_cases hbig : (65536 : Int) < (((cds us).length : Nat) : Int)
  · go_enter Tryz.func5, Tryz.ntmps5
    go_wp2_with (go_at_call 16; refine (rBig_any _ _ _ _).mono ?_; rintro e w1 ⟨he, hx1⟩; rw [decide_eq_true hbig] at he; subst he)
    go_ret
    exact ⟨rfl, hx1⟩
  · go_enter Tryz.func5, Tryz.ntmps5
    go_upto_region 3 with (go_at_call 16; refine (rBig_any _ _ _ _).mono ?_; rintro e w1 ⟨he, hx1⟩; rw [decide_eq_false hbig] at he; subst he)
    go_upto_region 4 with (go_at_call 26; refine (drawDomino_any _ us _ (hv.ext hx1) hs).mono ?_; rintro e w2 ⟨vb, ss, rfl, hb, hl9, hs12, hx2⟩; obtain ⟨ab, cb, rfl, -, -⟩ := hb.open)
    have H : St w (w2.alloc (.cells #[.slice ab ss.length cb] 31)) [(.slice ab ss.length cb, ss)] [] [(w2.heap.size, .slice ab ss.length cb, 31)] := St.pushB ⟨hx1, fun x hx => absurd hx (by simp), fun x hx => absurd hx (by simp), fun x hx => absurd hx (by simp)⟩ hx2 (fun _ => hb) _
    have HMEM := Lib.hid (And.intro hm hv)
    have HL : Hid (ss.length ≤ 1048576 ∧ ∀ s, s ∈ ss → s.size ≤ 1048576) := Lib.hid ⟨by omega, fun s hs => by have := hs12 s hs; omega⟩
    have HL9 : Hid (ss.length ≤ 1000000) := Lib.hid (by omega)
    have hgd : (goodB (bd ss) != goodB (bd ss)) = false := by simp
    clear hbig hx1 hx2 hb hs12 hs hm hv
    generalize w2.alloc (.cells #[.slice ab ss.length cb] 31) = W2 at *
    generalize w2.heap.size = pb at *
    have c0 := H.cell (List.mem_cons_self ..)
    have HC : ∀ W', Ext w W' → W'.cell? ⟨0, 0, none⟩ = some (.int .i64 m) := fun W' hx => (hx.cell (lt_of_cell HMEM.out.1)).trans HMEM.out.1
    go_upto_region 5 with (go_at_call 10; refine (implDomino_any _ ss m _ (H.brd _ (List.mem_cons_self ..) HL9.out) HL.out.1 HL.out.2 (HC _ H.ext)).mono ?_; rintro e w3 ⟨vF, F, ok, sF, rfl, hRF, hOF, hx3⟩; obtain ⟨aF, cF, rfl⟩ := hOF.top)
    have H := H.pushF hx3 (fo_nodes hRF hOF) 28
    clear c0 hx3 hOF
    generalize w3.alloc (.cells #[.slice aF F.length cF] 28) = W3 at *
    generalize w3.heap.size = pf at *
    have HRF := Lib.hid hRF
    clear hRF
    have c0 := H.cell (p := pb) (v := .slice ab ss.length cb) (t := 31) (by simp)
    go_upto_region 6 with (go_at_call 27; refine (turn_any _ ss _ (H.brd (.slice ab ss.length cb, ss) (by simp) HL9.out) HL.out.1 HL.out.2).mono ?_; rintro e w6 ⟨vT, sT, kT, rfl, hkT, hT, hoT, hx6⟩; obtain ⟨aT, cT, rfl, -, -⟩ := own_len hoT)
    subst hkT
    have H := H.pushB hx6 (fun hl => Strs.of_own hoT (by omega)) 31
    have HT := Lib.hid hT
    clear c0 hx6 hoT hT
    generalize w6.alloc (.cells #[.slice aT sT.length cT] 31) = W6 at *
    generalize w6.heap.size = pT at *
    have c0 := H.cell (p := pb) (v := .slice ab ss.length cb) (t := 31) (by simp)
    go_upto_region 7 with (go_at_call 28; refine (mirror_any _ ss _ (H.brd (.slice ab ss.length cb, ss) (by simp) HL9.out) HL.out.1 HL.out.2).mono ?_; rintro e w7 ⟨vM, sM, kM, rfl, hkM, hM, hoM, hx7⟩; obtain ⟨aM, cM, rfl, -, -⟩ := own_len hoM)
    subst hkM
    have H := H.pushB hx7 (fun hl => Strs.of_own hoM (by omega)) 31
    have HM := Lib.hid hM
    clear c0 hx7 hoM hM
    generalize w7.alloc (.cells #[.slice aM sM.length cM] 31) = W7 at *
    generalize w7.heap.size = pM at *
    have c0 := H.cell (p := pb) (v := .slice ab ss.length cb) (t := 31) (by simp)
    go_upto_region 8 with (go_at_call 29; refine (trim_any _ ss _ (H.brd (.slice ab ss.length cb, ss) (by simp) HL9.out) HL.out.1 HL.out.2).mono ?_; rintro e w8 ⟨vR, sR, kR, rfl, hkR, hR, hoR, hx8⟩; obtain ⟨aR, cR, rfl, -, -⟩ := own_len hoR)
    subst hkR
    have H := H.pushB hx8 (fun hl => Strs.of_own hoR (by omega)) 31
    have HR := Lib.hid hR
    clear c0 hx8 hoR hR
    generalize w8.alloc (.cells #[.slice aR sR.length cR] 31) = W8 at *
    generalize w8.heap.size = pR at *
    have c0 := H.cell (p := pb) (v := .slice ab ss.length cb) (t := 31) (by simp)
    go_upto_region 10 with (go_at_call 30; refine (specGoodBoard_any _ ss _ (H.brd (.slice ab ss.length cb, ss) (by simp) HL9.out) HL.out.1 HL.out.2).mono ?_; rintro e w9 ⟨rfl, hx9⟩)
    have H := H.go hx9
    clear c0 hx9
    by_cases hyes : goodB (bd ss) = true ∧ cntB (bd ss) ≤ 9
    · obtain ⟨hg, h9⟩ := hyes
      obtain ⟨hh, ww, g⟩ := Cgt.goodB_iff.1 hg
      obtain ⟨hok, hFF, hfF⟩ := resB_yes HRF.out g h9
      subst hok
      have hT := HT.out hg
      have hM := HM.out hg
      have hR := HR.out hg
      have gT : GB (bd sT) ww hh := by rw [hT]; exact trnB_gb g
      have gM : GB (bd sM) hh ww := by rw [hM]; exact g.mirB
      obtain ⟨⟨h', w', gR⟩, nR, jR⟩ := trim_join g h9 hR
      have nT : cntB (bd sT) ≤ 9 := by rw [hT]; exact trnB_cnt g h9
      have nM : cntB (bd sM) ≤ 9 := by rw [hM, Cgt.cnt_mirB g]; exact h9
      have HGT := Lib.hid (small_of_gb gT)
      have HGM := Lib.hid (small_of_gb gM)
      have HGR := Lib.hid (small_of_gb gR)
      have HJ := Lib.hid (And.intro g (And.intro h9 (And.intro hFF hfF)))
      have HQT := Lib.hid (And.intro gT (And.intro nT hT))
      have HQM := Lib.hid (And.intro gM (And.intro nM hM))
      have HQR := Lib.hid (And.intro gR (And.intro nR jR))
      clear hg h9 g hFF hfF hT hM hR gT gM gR nT nM nR jR hgd
      have c0 := H.cell (p := pT) (v := .slice aT sT.length cT) (t := 31) (by simp)
      go_upto_region 14 with (go_at_call 10; refine (implDomino_any _ sT m _ (H.brd (.slice aT sT.length cT, sT) (by simp) HGT.out.1) HGT.out.2.1 HGT.out.2.2 (HC _ H.ext)).mono ?_; rintro e w14 ⟨vG, FG, kG, slG, rfl, hRG, hOG, hx14⟩; obtain ⟨aG, cG, rfl⟩ := hOG.top)
      obtain ⟨hok, hFG, -⟩ := resB_yes hRG HQT.out.1 HQT.out.2.1
      subst hok
      have H := H.pushF hx14 (fo_nodes hRG hOG) 28
      have HRG := Lib.hid (And.intro hRG hFG)
      clear c0 hx14 hOG hRG hFG
      generalize w14.alloc (.cells #[.slice aG FG.length cG] 28) = W14 at *
      generalize w14.heap.size = pG at *
      have c0 := H.cell (p := pM) (v := .slice aM sM.length cM) (t := 31) (by simp)
      go_upto_region 15 with (go_at_call 10; refine (implDomino_any _ sM m _ (H.brd (.slice aM sM.length cM, sM) (by simp) HGM.out.1) HGM.out.2.1 HGM.out.2.2 (HC _ H.ext)).mono ?_; rintro e w15 ⟨vH, FH, kH, slH, rfl, hRH, hOH, hx15⟩; obtain ⟨aH, cH, rfl⟩ := hOH.top)
      obtain ⟨hok, hFH, -⟩ := resB_yes hRH HQM.out.1 HQM.out.2.1
      subst hok
      have H := H.pushF hx15 (fo_nodes hRH hOH) 28
      have HRH := Lib.hid (And.intro hRH hFH)
      clear c0 hx15 hOH hRH hFH
      generalize w15.alloc (.cells #[.slice aH FH.length cH] 28) = W15 at *
      generalize w15.heap.size = pH at *
      have c0 := H.cell (p := pR) (v := .slice aR sR.length cR) (t := 31) (by simp)
      go_upto_region 16 with (go_at_call 10; refine (implDomino_any _ sR m _ (H.brd (.slice aR sR.length cR, sR) (by simp) HGR.out.1) HGR.out.2.1 HGR.out.2.2 (HC _ H.ext)).mono ?_; rintro e w16 ⟨vK, FK, kK, slK, rfl, hRK, hOK, hx16⟩; obtain ⟨aK, cK, rfl⟩ := hOK.top)
      obtain ⟨hok, hFK, -⟩ := resB_yes hRK HQR.out.1 HQR.out.2.1
      subst hok
      have H := H.pushF hx16 (fo_nodes hRK hOK) 28
      have HRK := Lib.hid (And.intro hRK hFK)
      clear c0 hx16 hOK hRK hFK
      generalize w16.alloc (.cells #[.slice aK FK.length cK] 28) = W16 at *
      generalize w16.heap.size = pK at *
      have c0 := H.cell (p := pf) (v := .slice aF F.length cF) (t := 28) (by simp)
      go_upto_region 17 with (go_at_call 31; refine (negForm_any _ F _ (H.frm (.slice aF F.length cF, F) (by simp)) HJ.out.2.2.1.1 HJ.out.2.2.2).mono ?_; rintro e w17 ⟨E, vE, Fr, kE, slE, rfl, hIE, hSE, hkE, hFr, hOE, hx17⟩; obtain ⟨aE, cE, rfl⟩ := hOE.top)
      obtain ⟨hfE, hEG⟩ := turned_neg HJ.out.1 HJ.out.2.1 HJ.out.2.2.1 (by rw [← HQT.out.2.2]; exact HRG.out.2) hIE hSE
      rw [hkE, hfE] at hFr
      simp only [hfE, if_true] at hFr ⊢
      clear hkE
      subst hFr
      subst hEG
      have H := H.pushF hx17 (fo_nodes HRG.out.1 hOE) 28
      have HFE := Lib.hid hfE
      clear c0 hx17 hOE hIE hSE hfE
      generalize w17.alloc (.cells #[.slice aE Fr.length cE] 28) = W17 at *
      generalize w17.heap.size = pE at *
      have c0 := H.cell (p := pT) (v := .slice aT sT.length cT) (t := 31) (by simp)
      go_upto_region 18 with (go_at_call 27; refine (turn_any _ sT _ (H.brd (.slice aT sT.length cT, sT) (by simp) HGT.out.1) HGT.out.2.1 HGT.out.2.2).mono ?_; rintro e w18 ⟨vA, sA, kA, rfl, hkA, hA, hoA, hx18⟩; obtain ⟨aA, cA, rfl, -, -⟩ := own_len hoA)
      have hgT : goodB (bd sT) = true := Cgt.goodB_iff.2 ⟨_, _, HQT.out.1⟩
      have hA' := hA (by rw [hkA, hgT])
      rw [HQT.out.2.2, trnB_back HJ.out.1] at hA'
      have hsA : sA = ss := bd_inj hA'
      clear hkA hA hA'
      simp only [hgT]
      subst hsA
      have H := H.pushB hx18 (fun hl => Strs.of_own hoA (by omega)) 31
      clear c0 hx18 hoA
      have hFH : FH = F := mir_join HJ.out.1 HJ.out.2.2.1 (by rw [← HQM.out.2.2]; exact HRH.out.2)
      have hFK : FK = F := HQR.out.2.2 F FK HJ.out.2.2.1 HRK.out.2
      generalize w18.alloc (.cells #[.slice aA sA.length cA] 31) = W18 at *
      generalize w18.heap.size = pA at *
      have hlE := fit_lists HFE.out
      have hlF := fit_lists HJ.out.2.2.2
      have hr1 : ∀ V, Ext W18 V → Calls Tryz.prog 22 #[.agg #[.slice aE Fr.length cE], .agg #[.slice aG Fr.length cG]] V fun e w' => e = .returned (.bool true) ∧ Ext V w' := fun V hV => rForm_same _ _ Fr V ((H.go hV).frm (.slice aE Fr.length cE, Fr) (by simp)) ((H.go hV).frm (.slice aG Fr.length cG, Fr) (by simp)) hlE.1 hlE.2
      have hr2 : ∀ V, Ext W18 V → Calls Tryz.prog 22 #[.agg #[.slice aH FH.length cH], .agg #[.slice aF F.length cF]] V fun e w' => e = .returned (.bool true) ∧ Ext V w' := fun V hV => rForm_same _ _ F V (by have := (H.go hV).frm (.slice aH FH.length cH, FH) (by simp); rw [hFH] at this ⊢; exact this) ((H.go hV).frm (.slice aF F.length cF, F) (by simp)) hlF.1 hlF.2
      have hr3 : ∀ V, Ext W18 V → Calls Tryz.prog 22 #[.agg #[.slice aK FK.length cK], .agg #[.slice aF F.length cF]] V fun e w' => e = .returned (.bool true) ∧ Ext V w' := fun V hV => rForm_same _ _ F V (by have := (H.go hV).frm (.slice aK FK.length cK, FK) (by simp); rw [hFK] at this ⊢; exact this) ((H.go hV).frm (.slice aF F.length cF, F) (by simp)) hlF.1 hlF.2
      have hr4 : ∀ V, Ext W18 V → Calls Tryz.prog 24 #[.slice aA sA.length cA, .slice ab sA.length cb] V fun e w' => e = .returned (.bool true) ∧ Ext V w' := fun V hV => rTexts_same _ _ sA V ((H.go hV).brd (.slice aA sA.length cA, sA) (by simp) HL9.out) ((H.go hV).brd (.slice ab sA.length cb, sA) (by simp) HL9.out) HL9.out
      have hcs : ∀ V, Ext W18 V → V.cell? ⟨pE, 0, none⟩ = some (.slice aE Fr.length cE) ∧ V.cell? ⟨pG, 0, none⟩ = some (.slice aG Fr.length cG) ∧ V.cell? ⟨pH, 0, none⟩ = some (.slice aH FH.length cH) ∧ V.cell? ⟨pf, 0, none⟩ = some (.slice aF F.length cF) ∧ V.cell? ⟨pK, 0, none⟩ = some (.slice aK FK.length cK) ∧ V.cell? ⟨pA, 0, none⟩ = some (.slice aA sA.length cA) ∧ V.cell? ⟨pb, 0, none⟩ = some (.slice ab sA.length cb) := fun V hV => ⟨(H.go hV).cell (p := pE) (v := .slice aE Fr.length cE) (t := 28) (by simp), (H.go hV).cell (p := pG) (v := .slice aG Fr.length cG) (t := 28) (by simp), (H.go hV).cell (p := pH) (v := .slice aH FH.length cH) (t := 28) (by simp), (H.go hV).cell (p := pf) (v := .slice aF F.length cF) (t := 28) (by simp), (H.go hV).cell (p := pK) (v := .slice aK FK.length cK) (t := 28) (by simp), (H.go hV).cell (p := pA) (v := .slice aA sA.length cA) (t := 31) (by simp), (H.go hV).cell (p := pb) (v := .slice ab sA.length cb) (t := 31) (by simp)⟩
      have hq0 : Ext W18 W18 := Below.refl _ _
      obtain ⟨d1, d2, d3, d4, d5, d6, d7⟩ := hcs _ hq0
      have HR := Lib.hid (And.intro hr1 (And.intro hr2 (And.intro hr3 (And.intro hr4 hcs))))
      have HE := Lib.hid H.ext
      clear hr1 hr2 hr3 hr4 hcs hlE hlF hFH hFK H
      go_wp2_with (first
        | (go_at_call 24; refine (HR.out.2.2.2.1 _ hq3).mono ?_; rintro e w22 ⟨rfl, hx22⟩)
        | (go_at_call 22; refine (HR.out.2.2.1 _ hq2).mono ?_; rintro e w21 ⟨rfl, hx21⟩; have hq3 := ext_trans hq2 hx21; obtain ⟨g1, g2, g3, g4, g5, g6, g7⟩ := HR.out.2.2.2.2 _ hq3)
        | (go_at_call 22; refine (HR.out.2.1 _ hq1).mono ?_; rintro e w20 ⟨rfl, hx20⟩; have hq2 := ext_trans hq1 hx20; obtain ⟨f1, f2, f3, f4, f5, f6, f7⟩ := HR.out.2.2.2.2 _ hq2)
        | (go_at_call 22; refine (HR.out.1 _ hq0).mono ?_; rintro e w19 ⟨rfl, hx19⟩; have hq1 := ext_trans hq0 hx19; obtain ⟨e1, e2, e3, e4, e5, e6, e7⟩ := HR.out.2.2.2.2 _ hq1))
      go_ret
      exact ⟨rfl, ext_trans (ext_trans HE.out hq3) hx22⟩
    · have hno : goodB (bd ss) = false ∨ ¬ cntB (bd ss) ≤ 9 := by
        cases hg : goodB (bd ss) with
        | false => exact .inl rfl
        | true => exact .inr fun h => hyes ⟨hg, h⟩
      obtain ⟨hok, -⟩ := resB_no HRF.out hno
      subst hok
      have c0 := H.cell (p := pb) (v := .slice ab ss.length cb) (t := 31) (by simp)
      go_wp2_with (go_at_call 8; refine (specNo_any _ ss _ (H.brd (.slice ab ss.length cb, ss) (by simp) HL9.out) HL.out.1 HL.out.2 hno).mono ?_; rintro e w10 ⟨vN, aN, cN, rfl, rfl, hx10⟩)
      go_ret
      exact ⟨rfl, ext_trans (ext_trans H.ext hx10) (ext_alloc (Below.refl _ _) _)⟩
end
section
open Go.RowKit Go.ChangeShapes Go.WideShapes Go.ChangeAt

theorem u8_wf {n : Int} (h : (Lit.int .u8 n).wf = true) : 0 ≤ n ∧ n < 256 := by
  have : IntKind.u8.min ≤ n ∧ n ≤ IntKind.u8.max := by simpa [Lit.wf] using h
  have e1 : IntKind.u8.min = 0 := rfl
  have e2 : IntKind.u8.max = 255 := rfl
  omega
theorem code_open {H : Type} {enc : TypeId × Value → H} {W : World} {b0 : Nat} {v : Value} {d : DataW H} {p : List MemPlace} (hv : Value.okWide Tryz.prog W .any b0 38 v) (h : DataW.Trod enc Tryz.prog W 0 (fun _ => true) true 38 v d p) :
    ∃ us : List Nat, (∀ u, u ∈ us → u < 256) ∧ ((DataW.weightsEach Tryz.prog [38] [d]).all (· ≤ reachBytes) = true → Vals W v (cds us)) := by
  obtain ⟨a0, l0, c0, rfl⟩ := okWide_slice Tryz.underlying38 hv
  obtain ⟨fuel, hf⟩ := h
  have hf' : DataW.trod enc Tryz.prog W 0 (fun _ => true) true fuel 38 [.slice a0 l0 c0] = some (d, p) := by simpa [Value.cells] using hf
  rcases open_ints Tryz.underlying38 Tryz.underlying5 (by kernel_rfl) hf' with ⟨hcs, hx0⟩ | ⟨a, len, cap, zs, hcs, hb, hl, hm, hz, hx0, hcell, hwf⟩
  · simp only [List.cons.injEq, Value.slice.injEq, and_true] at hcs
    obtain ⟨rfl, rfl, rfl⟩ := hcs
    exact ⟨[], fun u hu => absurd hu (by simp), fun _ => Vals.nil _ _ _⟩
  · simp only [List.cons.injEq, Value.slice.injEq, and_true] at hcs
    obtain ⟨rfl, rfl, rfl⟩ := hcs
    simp only [if_true] at hz
    simp only [Prod.mk.injEq] at hx0
    obtain ⟨rfl, -⟩ := hx0
    refine ⟨(zs.take l0).map Int.toNat, fun u hu => ?_, fun hw => ?_⟩
    · obtain ⟨z, hz', rfl⟩ := List.mem_map.1 hu
      have := u8_wf (hwf z (List.mem_of_mem_take hz'))
      omega
    · have hlen : l0 * 1 ≤ reachBytes := by
        have h2 := Go.sized_slice hw (j := 0) rfl rfl Tryz.underlying38
        have h3 : (Tryz.prog).bytesOf 5 = 1 := by kernel_rfl
        rw [h3] at h2
        have h4 : (lits IntKind.u8 (zs.take l0) : List (DataW H)).length = l0 := by simp [lits]; omega
        rw [h4] at h2
        omega
      have hr : reachBytes = 140737488351232 := rfl
      have hzl : (cds ((zs.take l0).map Int.toNat)).length = l0 := by simp [cds]; omega
      refine ⟨some a, c0, by rw [hzl], by omega, by omega, fun h0 => ?_⟩
      rw [hzl] at h0
      obtain ⟨b, off, spot⟩ := a
      have hspot : spot = none := by simpa [Addr.add] using World.cell?_spot (hcell 0 (by omega))
      subst hspot
      refine ⟨b, off, rfl, fun i hi => ?_⟩
      rw [hzl] at hi
      have hc := hcell i (by omega)
      rw [Go.WideShapes.add_plain] at hc
      rw [hc]
      have hiz : i < zs.length := by omega
      have hw8 := u8_wf (hwf _ (List.getElem_mem hiz))
      simp only [cds, List.getElem_map, List.getElem_take, List.getD_eq_getElem?_getD, List.getElem?_eq_getElem hiz, Option.getD_some]
      rw [Int.toNat_of_nonneg hw8.1]

theorem shape_cellT {W : World} (h : W.ShapedOpen Tryz.prog) : ∃ m, W.cell? ⟨0, 0, none⟩ = some (.int .i64 m) := Tryz.laysM146.s1_3 W h
theorem turned_walkS (v : Value) (us : List Nat) (w : World) (hv : Vals w v (cds us)) (hs : ∀ u, u ∈ us → u < 256) (hS : w.ShapedOpen Tryz.prog) :
    Calls Tryz.prog 5 #[v] w fun e w' => e = .returned (.bool true) ∧ Ext w w' := by
  obtain ⟨m, hm⟩ := shape_cellT hS
  exact turned_walk v us m w hv hs hm
end
section
open Go.ChangeShapes Go.WideShapes Go.ChangeAt Go.RowKit

theorem ownK : ownKnob Tryz.prog.godebug = none := by kernel_rfl
theorem door_met (os : Os) (args : Array Value) : laidMetH Tryz.prog Rows.fnBoardTurnedRow.laid ((World.laidAll Tryz.prog os Rows.fnBoardTurnedRow.laid).forCall (fun _ _ => 0) ⟨#[], args, []⟩).memory := by
  rw [MakeChecks.laidMetH_plain _ _ _ (by kernel_rfl)]
  exact laidMet_laidAll args (by kernel_rfl) (by kernel_rfl)

theorem lifted (os : Os) (started : os.Started) (H : Type) (enc : TypeId × Value → H) :
    ReturnsInHanded {} Tryz.checked os 5 .any (fun w args => (Rows.fnBoardTurnedSpec.pre enc Tryz.prog Tryz.f5 [] false w args ∧ laidMetH Tryz.prog Rows.fnBoardTurnedRow.laid w) ∧ sizedMet enc Tryz.prog Tryz.f5 (OpenSpec.ofChange Rows.fnBoardTurnedSpec) false w args)
      (Rows.fnBoardTurnedSpec.post enc Tryz.prog Tryz.f5 false true false false) := by
  refine lift_shaped (C := Tryz.checked) (X := fun w _ => laidMetH Tryz.prog Rows.fnBoardTurnedRow.laid w) (fun _ _ _ hh h => h.of_heap hh) ownK started (by kernel_rfl) Tryz.func5
    (ChangeSpec.witness_shaped (enc := enc) (C := Tryz.checked) (os := os) (X := fun w _ => laidMetH Tryz.prog Rows.fnBoardTurnedRow.laid w) false (World.laidAll Tryz.prog os Rows.fnBoardTurnedRow.laid) #[.slice none 0 0] 8 (World.laidAll_os _ _ _) (World.shaped_of_ZipB (by kernel_rfl) (by kernel_rfl)) (by kernel_rfl) (by kernel_rfl) (by kernel_rfl) (door_met os _)) ?_
  intro W base args ds gs before hval0 hW _ hwt hL hS _
  have hval : ∀ (j : Nat) t v, Tryz.f5.params[j]? = some t → args[j]? = some v → Value.okWide Tryz.prog W .any base t v := hval0
  have hW' := hW
  obtain ⟨p, q, hA0, hV, rfl, hfz, hnd⟩ := hW
  have hA : DataW.TrodAll enc Tryz.prog W 0 (fun _ => true) true Tryz.f5.params.toList args.toList ds p := hA0
  rw [Tryz.params5] at hA hval
  obtain ⟨v0, d0, rfl, rfl, h0⟩ := trodAll_one hA
  obtain ⟨rfl, rfl⟩ := trodVars_none hV
  obtain ⟨us, hus, hI⟩ := code_open (hval 0 38 v0 rfl rfl) h0
  have hwt' : (DataW.weightsEach Tryz.prog [38] [d0]).all (· ≤ reachBytes) = true := by
    have h := hwt
    rw [show Tryz.f5.params = _ from Tryz.params5] at h
    exact h
  refine (turned_walkS v0 us W (hI hwt') hus hS).mono fun e W' ⟨he, hx⟩ => ?_
  subst he
  have hlt : ∀ x ∈ p, x.block < W.heap.size := fun x hm => by simpa using hW'.lt x (by simp [hm])
  refine ⟨_, rfl, _, _, _, [], p, [], hW', trodAll_mk1 (shut_bool Tryz.underlying4 _), ?_, ?_, hx.frame _, fun h => by cases h⟩
  · exact trodAll_mk1 (Below.trod laidO (by kernel_rfl) (of_decide_eq_true (by kernel_rfl)) h0 hx hlt)
  · exact rfl
end
section
open Go

theorem row_holds : Rows.FnBoardTurnedSaid :=
  OpenClaim.holds_of_wide 5 Tryz.f5 rfl rfl rfl rfl rfl rfl rfl ⟨rfl, rfl, rfl, rfl, rfl⟩ rfl rfl rfl rfl rfl (by kernel_rfl) Tryz.func5 (by kernel_rfl)
    (of_decide_eq_true (by kernel_rfl)) (by unfold Func.isWrapper; first | (rw [if_pos (by decide +kernel)]; kernel_rfl) | (rw [if_neg (by decide +kernel)]; exact ⟨rfl, rfl⟩))
    (fun os started H enc _ => lifted os started H enc)
end
section
open Go

theorem card_holds : Rows.FnBoardTurnedCardSaid :=
  Claim7.holds_tied_plain_at .later [] [.data, .data, .data, .data, .pinned] true (true, "d903891bc9bf13b6bd5c63b9627002bcf821bd46ec0d285e56a1a23fcdfcee16") false
    row_holds (fun _ h => by cases h) (by kernel_rfl) (fun _ h => by cases h) fnBoardTurned_row_tie rfl ⟨rfl, rfl⟩ (by kernel_rfl) rfl
    (fun f fn hf hfn => by
      obtain rfl : f = 5 := Option.some.inj ((show Tryz.prog.funcNamed "loop.example/g00868/laws.FnBoardTurned" = some 5 by kernel_rfl).symm.trans hf) |>.symm
      obtain rfl : fn = Tryz.f5 := (Option.some.inj (Tryz.func5.symm.trans hfn)).symm
      exact ⟨by kernel_rfl, fun j t ht => by
        rw [Tryz.params5] at ht
        have hm : t ∈ [38] := by simpa using Array.mem_of_getElem? ht
        have hall : ([38].all fun u => !Tryz.prog.wantsStandIn u) = true := by kernel_rfl
        exact (show Tryz.prog.wantsStandIn t = false by simpa using List.all_eq_true.1 hall t hm)⟩)
    (by kernel_rfl)
#print axioms card_holds
end
end Go.Proofs.YteknjeohbcgpdaaGreatDoor
