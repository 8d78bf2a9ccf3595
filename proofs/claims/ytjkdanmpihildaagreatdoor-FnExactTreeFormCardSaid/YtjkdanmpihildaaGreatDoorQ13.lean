/-
  Contract of the book's reached.
-/
import Derived.Test.YtjkdanmpihildaaGreatDoorQ12
import Derived.BigRegion
namespace Go.Proofs.YtjkdanmpihildaaGreatDoor
open Go.RowKit
open Cgt (Dag Nd vl WF)

theorem info_bool : (Tryz.prog.info? 4).map (fun i => (i.zero, i.size, i.bytes)) = some (some (.bool false), 1, 1) := by kernel_rfl

structure RInv (D : Dag) (root : Nat) (bs : List Bool) (m : Nat) : Prop where
  len : bs.length = root + 1
  top : bs[root]? = some true
  sound : ∀ j : Nat, bs[j]? = some true → Cgt.Reach D root j
  done : ∀ i : Nat, m ≤ i → bs[i]? = some true → ∀ side x, x ∈ opt D side i → bs[x]? = some true

theorem reach_opt {D : Dag} {root i x : Nat} {side : Bool} (h : Cgt.Reach D root i) (hx : x ∈ opt D side i) : Cgt.Reach D root x := by
  unfold opt at hx
  cases e : D[i]? with
  | none => rw [e] at hx; simp at hx
  | some nd =>
    rw [e] at hx
    cases side
    · exact h.right e (by simpa using hx)
    · exact h.left e (by simpa using hx)

theorem RInv.start (D : Dag) (root : Nat) : RInv D root ((List.replicate (root + 1) false).set root true) (root + 1) := by
  refine ⟨by simp, by simp, fun j h => ?_, fun i hi h => ?_⟩
  · rw [List.getElem?_set] at h
    split at h
    · rename_i e; subst e; exact .here
    · rw [List.getElem?_replicate] at h
      split at h <;> simp at h
  · have h1 : i < ((List.replicate (root + 1) false).set root true).length := (List.getElem?_eq_some_iff.1 h).1
    simp at h1; omega
theorem RInv.mark {D : Dag} (hD : WF D) {root : Nat} {bs : List Bool} {k x : Nat} {side : Bool} (h : RInv D root bs (k + 1)) (hk : bs[k]? = some true) (hx : x ∈ opt D side k) :
    RInv D root (bs.set x true) (k + 1) ∧ (bs.set x true)[k]? = some true ∧ ∀ j : Nat, bs[j]? = some true → (bs.set x true)[j]? = some true := by
  have mono : ∀ j : Nat, bs[j]? = some true → (bs.set x true)[j]? = some true := fun j hj => by
    rw [List.getElem?_set]
    split
    · rename_i e; subst e; simp [(List.getElem?_eq_some_iff.1 hj).1]
    · exact hj
  have hxk := opt_lt hD hx
  refine ⟨⟨by simpa using h.len, mono _ h.top, fun j hj => ?_, fun i hi hm sd y hy => ?_⟩, mono k hk, mono⟩
  · rw [List.getElem?_set] at hj
    split at hj
    · rename_i e; subst e; exact reach_opt (h.sound k hk) hx
    · exact h.sound j hj
  · rw [List.getElem?_set, if_neg (by omega)] at hm
    exact mono _ (h.done i hi hm sd y hy)
theorem RInv.down {D : Dag} {root : Nat} {bs : List Bool} {k : Nat} (h : RInv D root bs (k + 1)) (hk : bs[k]? = some true → ∀ side x, x ∈ opt D side k → bs[x]? = some true) : RInv D root bs k :=
  ⟨h.len, h.top, h.sound, fun i hi hm => by
    by_cases e : i = k
    · subst e; exact hk hm
    · exact h.done i (by omega) hm⟩
theorem RInv.all {D : Dag} {root : Nat} {bs : List Bool} (h : RInv D root bs 0) (j : Nat) : bs[j]? = some true ↔ Cgt.Reach D root j := by
  refine ⟨h.sound j, fun hr => ?_⟩
  induction hr with
  | here => exact h.top
  | left _ hd hk ih => exact h.done _ (Nat.zero_le _) ih true _ (by simp [opt, hd]; exact hk)
  | right _ hd hk ih => exact h.done _ (Nat.zero_le _) ih false _ (by simp [opt, hd]; exact hk)

theorem BookAt.nodeX {w : World} {pb : Nat} {vn vb : Value} {D : Dag} (h : BookAt w pb vn vb D) {i : Nat} (hi : i < D.length) :
    ∃ g cap aL cL aR cR, vn = .slice (some ⟨g, 0, none⟩) D.length cap ∧ ∀ W, Ext w W → W.cell? ⟨pb, 0, none⟩ = some (.slice (some ⟨g, 0, none⟩) D.length cap) ∧ W.cell? ⟨g, i * 2, none⟩ = some (.slice aL (D[i]).1.length cL) ∧ W.cell? ⟨g, i * 2 + 1, none⟩ = some (.slice aR (D[i]).2.length cR) ∧
      Ints W (.slice aL (D[i]).1.length cL) (toZ (D[i]).1) ∧ Ints W (.slice aR (D[i]).2.length cR) (toZ (D[i]).2) := by
  obtain ⟨g, cap, L, R, rfl, h2, h3, h4, h5, h6, h7⟩ := h.nodeCells hi
  obtain ⟨aL, cL, rfl, -⟩ := id h6
  obtain ⟨aR, cR, rfl, -⟩ := id h7
  rw [toZ_len] at h4 h5 h6 h7
  exact ⟨g, cap, aL, cL, aR, cR, rfl, fun W hW => ⟨(h.ext hW).cell0, (hW.cell (lt_of_cell h4)).trans h4, (hW.cell (lt_of_cell h5)).trans h5, h6.ext hW, h7.ext hW⟩⟩
theorem opt_true {D : Dag} {i : Nat} (h : i < D.length) : opt D true i = (D[i]).1 := by simp [opt, h]
theorem opt_false {D : Dag} {i : Nat} (h : i < D.length) : opt D false i = (D[i]).2 := by simp [opt, h]

theorem opt_cell {W : World} {aL : Option Addr} {cL : Nat} {l : List Nat} (h : Ints W (.slice aL l.length cL) (toZ l)) {i : Nat} (hi : i < l.length) : ∃ b off, aL = some ⟨b, off, none⟩ ∧ W.cell? ⟨b, off + i, none⟩ = some (.int .i64 ((l[i] : Nat) : Int)) := by
  obtain ⟨a, c, he, _, _, hc⟩ := h
  simp only [Value.slice.injEq] at he
  obtain ⟨rfl, -, rfl⟩ := he
  rw [toZ_len] at hc
  obtain ⟨b, off, rfl, hcell⟩ := hc (by omega)
  have := hcell i hi
  rw [toZ_zat hi] at this
  exact ⟨b, off, rfl, this⟩
theorem RInv.go {D : Dag} (hD : WF D) {root : Nat} {bs : List Bool} {k i : Nat} {side : Bool} {l : List Nat} (hl : opt D side k = l) (h : RInv D root bs (k + 1)) (hk : bs[k]? = some true) (hi : i < l.length) (hp : ∀ j (h : j < l.length), j < i → bs[l[j]]? = some true) :
    RInv D root (bs.set l[i] true) (k + 1) ∧ (bs.set l[i] true)[k]? = some true ∧ (∀ j : Nat, bs[j]? = some true → (bs.set l[i] true)[j]? = some true) ∧ (∀ j (h : j < l.length), j < i + 1 → (bs.set l[i] true)[l[j]]? = some true) := by
  have hx : l[i] ∈ opt D side k := by rw [hl]; exact List.getElem_mem hi
  obtain ⟨h1, h2, h3⟩ := h.mark hD hk hx
  refine ⟨h1, h2, h3, fun j hj hji => ?_⟩
  by_cases e : j = i
  · subst e
    have hkl : k < bs.length := (List.getElem?_eq_some_iff.1 hk).1
    have := opt_lt hD hx
    rw [List.getElem?_set, if_pos rfl, if_pos (by omega)]
  · exact h3 _ (hp j hj (by omega))
theorem bit_cell {w : World} {base e g n cap : Nat} {bs : List Bool} (h : w.ownsRow base e 1 (.slice (some ⟨g, 0, none⟩) n cap) n (bs.map Value.bool)) {k : Nat} {b : Bool} (hk : k < n) (hb : bs[k]? = some b) : w.cell? ⟨g, k, none⟩ = some (.bool b) := by
  rw [h.cellAt k (by omega)]; simp [hb]
theorem bit_set {w : World} {base e g n cap : Nat} {bs : List Bool} (h : w.ownsRow base e 1 (.slice (some ⟨g, 0, none⟩) n cap) n (bs.map Value.bool)) (k : Nat) (b : Bool) :
    (w.setCell ⟨g, k, none⟩ (.bool b)).ownsRow base e 1 (.slice (some ⟨g, 0, none⟩) n cap) n ((bs.set k b).map Value.bool) := by
  have := (h.stored k (.bool b)).1; rw [List.map_set]; exact this

set_option maxHeartbeats 2000000 in
set_option maxRecDepth 100000 in
theorem reached_any (pb : Nat) (vn vb : Value) (D : Dag) (root : Nat) (w : World) (hB : BookAt w pb vn vb D) (hr : root < D.length) :
    Calls Tryz.prog 68 #[.pointer (some ⟨pb, 0, none⟩), .int .i64 root] w fun e w' => ∃ v' bs, e = .returned v' ∧ RInv D root bs 0 ∧ w'.ownsRow w.heap.size 4 1 v' (root + 1) (bs.map Value.bool) ∧ Ext w w' := by
  have hds := hB.small
  have hD := Lib.hid hB.good.wf
  obtain ⟨i0, hi, hz0, hz1, hz2⟩ := info_parts info_bool
  obtain ⟨w1, hmk, ho1, hg1⟩ := run_make_full (P := Tryz.prog) w w.heap.size 109 4 i0 (.bool false) 1 Tryz.underlying109 hi hz0 hz1 .i64 .i64 (root + 1) (by rw [hz2]; omega) (by unfold maxLen; omega) (Nat.le_refl _)
  rw [show (((root + 1 : Nat)) : Int) = (root : Int) + 1 by omega] at hmk
  have ho1 : w1.ownsRow w.heap.size 4 1 (.slice (some ⟨w.heap.size, 0, none⟩) (root + 1) (root + 1)) (root + 1) ((List.replicate (root + 1) false).map Value.bool) := by
    rw [Nat.mul_one] at ho1; rw [List.map_replicate, ← toList_madeCells_one]; exact ho1
  have c1 := ho1.cellAt root (by omega)
  have f1 := ho1.frozenAt root
  rw [show ((List.replicate (root + 1) false).map Value.bool)[root]? = some (.bool false) by simp] at c1
  have ho2 := ho1.stored root (.bool true)
  have hw : IntKind.i64.wrap ((root : Int) + 1) = (root : Int) + 1 := by rw [IntKind.wrap_i64]; omega
  go_enter Tryz.func68, Tryz.ntmps68
  go_wp2
  have hB' := Lib.hid hB
  have hE2 : Ext w (w1.setCell ⟨w.heap.size, root, none⟩ (.bool true)) := (ext_grown (Below.refl _ _) hg1 (by simp)).grown ho2.2 hg1.size (fun k hk => by injection hk with hk; omega)
  rw [← List.map_set] at ho2
  have hst := RInv.start D root
  obtain ⟨ho3, -⟩ := ho2
  generalize hW : w1.setCell ⟨w.heap.size, root, none⟩ (.bool true) = W at *
  generalize (List.replicate (root + 1) false).set root true = bs0 at *
  clear hmk ho1 hg1 c1 f1 hW hB
  go_loopw [6, 7, 8] (fun kk _ _ wr => ∃ m bs, m ≤ root + 1 ∧ kk = .int .i64 ((m : Int) - 1) ∧ wr.ownsRow w.heap.size 4 1 (.slice (some ⟨w.heap.size, 0, none⟩) (root + 1) (root + 1)) (root + 1) (bs.map Value.bool) ∧ RInv D root bs m ∧ Ext w wr) (fun kk _ _ _ => (intOf kk + 1).toNat)
  case atStart => exact ⟨root + 1, bs0, Nat.le_refl _, by go_num, ho3, hst, hE2⟩
  case round =>
    obtain ⟨m, bs, hm, rfl, hown, hinv, hE⟩ := hrel
    cases m with
    | zero =>
      go_wp2
      go_ret
      exact ⟨_, bs, rfl, hinv, hown, hE⟩
    | succ k =>
      have hk1 : ((k + 1 : Nat) : Int) - 1 = (k : Int) := by omega
      rw [hk1]
      have hkr : k < root + 1 := by omega
      obtain ⟨bv, hbk⟩ : ∃ b, bs[k]? = some b := ⟨_, List.getElem?_eq_getElem (by rw [hinv.len]; omega)⟩
      have hck := bit_cell hown hkr hbk
      have HV := Lib.hid hinv
      have HE := Lib.hid hE
      have HO := Lib.hid hown
      have hkm : IntKind.i64.wrap ((k : Int) - 1) = (k : Int) - 1 := by rw [IntKind.wrap_i64]; omega
      clear hinv hE hown hst ho3
      cases bv with
      | false =>
        go_wp2
        go_roundw
        case rel => exact ⟨k, bs, by omega, by go_num, HO.out, HV.out.down (fun h => by rw [hbk] at h; cases h), HE.out⟩
        case measure => simp [intOf]
      | true =>
        have hkD : k < D.length := by omega
        obtain ⟨gn, cn, aL, cL, aR, cR, rfl, hN⟩ := hB'.out.nodeX hkD
        have hX : Hid (∀ W, Ext w W → W.cell? ⟨pb, 0, none⟩ = some (.slice (some ⟨gn, 0, none⟩) D.length cn) ∧ W.cell? ⟨gn, k * 2, none⟩ = some (.slice aL (D[k]).1.length cL) ∧ W.cell? ⟨gn, k * 2 + 1, none⟩ = some (.slice aR (D[k]).2.length cR) ∧
          Ints W (.slice aL (D[k]).1.length cL) (toZ (D[k]).1) ∧ Ints W (.slice aR (D[k]).2.length cR) (toZ (D[k]).2)) := hN
        clear hN
        go_wp2
        have hLl : (D[k]).1.length ≤ 1152921504606846976 := by have := (hX.out w (Below.refl _ _)).2.2.2.1; obtain ⟨_, _, _, _, h, _⟩ := this; rw [toZ_len] at h; exact h
        have hRl : (D[k]).2.length ≤ 1152921504606846976 := by have := (hX.out w (Below.refl _ _)).2.2.2.2; obtain ⟨_, _, _, _, h, _⟩ := this; rw [toZ_len] at h; exact h
        go_loopw [7] (fun ii wr => ∃ i bs, i ≤ (D[k]).1.length ∧ ii = .int .i64 (i : Int) ∧ wr.ownsRow w.heap.size 4 1 (.slice (some ⟨w.heap.size, 0, none⟩) (root + 1) (root + 1)) (root + 1) (bs.map Value.bool) ∧ RInv D root bs (k + 1) ∧ bs[k]? = some true ∧ Hid (∀ j (h : j < (D[k]).1.length), j < i → bs[(D[k]).1[j]]? = some true) ∧ Ext w wr) (fun ii _ => (D[k]).1.length - (intOf ii).toNat)
        case atStart => exact ⟨0, bs, Nat.zero_le _, rfl, HO.out, HV.out, hbk, fun j _ h => absurd h (by omega), HE.out⟩
        case round =>
          clear HO HV HE hck hbk
          obtain ⟨i, bs, hi, rfl, hown, hinv, hbk, HP, hE⟩ := hrel
          obtain ⟨x0, x1, x2, x3, x4⟩ := hX.out _ hE
          have HV := Lib.hid hinv
          have HE := Lib.hid hE
          have HO := Lib.hid hown
          by_cases hlt : i < (D[k]).1.length
          · obtain ⟨b, off, rfl, hci⟩ := opt_cell x3 hlt
            obtain ⟨v1, v2, v3, v4⟩ := RInv.go hD.out (opt_true hkD) hinv hbk hlt HP.out
            have hxl : (D[k]).1[i] < root + 1 := by have := opt_lt hD.out (show (D[k]).1[i] ∈ opt D true k by rw [opt_true hkD]; exact List.getElem_mem hlt); omega
            obtain ⟨bx, hbx⟩ : ∃ b, bs[(D[k]).1[i]]? = some b := ⟨_, List.getElem?_eq_getElem (by rw [hinv.len]; omega)⟩
            have hcx := bit_cell hown hxl hbx
            have hfx := hown.frozenAt ((D[k]).1[i])
            have V := Lib.hid v1
            have V3 := Lib.hid v3
            have V4 := Lib.hid v4
            clear hinv hE hown v1 v3 v4 x3 x4
            generalize hx : (D[k]).1[i] = x at *
            go_wp2
            go_roundw
            case rel => exact ⟨i + 1, bs.set x true, by omega, by go_num, bit_set HO.out _ _, V.out, v2, fun j hj hji => V4.out j hj hji, HE.out.grown (HO.out.stored x (.bool true)).2 HE.out.size (fun k hk => by injection hk with hk; omega)⟩
            case measure => simp [intOf]; omega
          · have hil : i = (D[k]).1.length := by omega
            subst hil
            clear hinv hE hown
            go_wp2
            have HPL : Hid (∀ x, x ∈ opt D true k → bs[x]? = some true) := fun x hx => by
              rw [opt_true hkD] at hx
              obtain ⟨j, hj, rfl⟩ := List.mem_iff_getElem.1 hx
              exact HP.out j hj hj
            go_loopw [8] (fun ii wr => ∃ i bs, i ≤ (D[k]).2.length ∧ ii = .int .i64 (i : Int) ∧ wr.ownsRow w.heap.size 4 1 (.slice (some ⟨w.heap.size, 0, none⟩) (root + 1) (root + 1)) (root + 1) (bs.map Value.bool) ∧ RInv D root bs (k + 1) ∧ bs[k]? = some true ∧ Hid (∀ j (h : j < (D[k]).2.length), j < i → bs[(D[k]).2[j]]? = some true) ∧ Hid (∀ x, x ∈ opt D true k → bs[x]? = some true) ∧ Ext w wr) (fun ii _ => (D[k]).2.length - (intOf ii).toNat)
            case atStart => exact ⟨0, bs, Nat.zero_le _, rfl, HO.out, HV.out, hbk, fun j _ h => absurd h (by omega), HPL, HE.out⟩
            case round =>
              clear HO HV HE hbk HP HPL x0 x1 x2 x3 x4
              obtain ⟨i, bs, hi, rfl, hown, hinv, hbk, HP, HPL, hE⟩ := hrel
              obtain ⟨x0, x1, x2, x3, x4⟩ := hX.out _ hE
              have HV := Lib.hid hinv
              have HE := Lib.hid hE
              have HO := Lib.hid hown
              by_cases hlt : i < (D[k]).2.length
              · obtain ⟨b, off, rfl, hci⟩ := opt_cell x4 hlt
                obtain ⟨v1, v2, v3, v4⟩ := RInv.go hD.out (opt_false hkD) hinv hbk hlt HP.out
                have hxl : (D[k]).2[i] < root + 1 := by have := opt_lt hD.out (show (D[k]).2[i] ∈ opt D false k by rw [opt_false hkD]; exact List.getElem_mem hlt); omega
                obtain ⟨bx, hbx⟩ : ∃ b, bs[(D[k]).2[i]]? = some b := ⟨_, List.getElem?_eq_getElem (by rw [hinv.len]; omega)⟩
                have hcx := bit_cell hown hxl hbx
                have hfx := hown.frozenAt ((D[k]).2[i])
                have V := Lib.hid v1
                have V3 := Lib.hid v3
                have V4 := Lib.hid v4
                clear hinv hE hown v1 v3 v4 x3 x4
                generalize hx : (D[k]).2[i] = x at *
                go_wp2
                go_roundw
                case rel => exact ⟨i + 1, bs.set x true, by omega, by go_num, bit_set HO.out _ _, V.out, v2, fun j hj hji => V4.out j hj hji, fun y hy => V3.out y (HPL.out y hy), HE.out.grown (HO.out.stored x (.bool true)).2 HE.out.size (fun k hk => by injection hk with hk; omega)⟩
                case measure => simp [intOf]; omega
              · have hil : i = (D[k]).2.length := by omega
                subst hil
                clear hinv hE hown
                go_wp2
                go_roundw
                case rel => exact ⟨k, bs, by omega, by go_num, HO.out, HV.out.down (fun _ side x hx => by
                  cases side
                  · rw [opt_false hkD] at hx
                    obtain ⟨j, hj, rfl⟩ := List.mem_iff_getElem.1 hx
                    exact HP.out j hj hj
                  · exact HPL.out x hx), HE.out⟩
                case measure => simp [intOf]

end Go.Proofs.YtjkdanmpihildaaGreatDoor
