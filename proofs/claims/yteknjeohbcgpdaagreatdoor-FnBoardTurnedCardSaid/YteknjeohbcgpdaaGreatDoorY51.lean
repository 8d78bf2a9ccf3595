/-
  Contract of the program's game, over any texts that tell games: the canonical game of what a text tells.
-/
import Derived.Test.YteknjeohbcgpdaaGreatDoorY50
set_option maxRecDepth 100000
namespace Go.Proofs.YteknjeohbcgpdaaGreatDoor
open Go.RowKit
open Cgt (Dag Nd vl Gm Canon Eqv)

theorem own_blk {w w' : World} {B e sz n : Nat} {v : Value} {xs : List Value} (h : w.ownsRow B e sz v n xs) (hb : ∀ b, v.ownBlock = some b → w'.heap[b]? = w.heap[b]?) : w'.ownsRow B e sz v n xs := by
  obtain ⟨hl, h2⟩ := h
  refine ⟨hl, ?_⟩
  rcases h2 with h2 | ⟨g, cap, cur, e1, hB, hg, rest⟩
  · exact .inl h2
  · exact .inr ⟨g, cap, cur, e1, hB, (hb g (by rw [e1]; rfl)).trans hg, rest⟩
theorem zeroI2 (w : World) : (zeroValue 3).run Tryz.prog w = .ok (.int .i64 0) w := zeroI w

def GamePost (V : Sv) (w0 : World) (pp h kb : Nat) (s : PSt) (fk : Value → Option Value) (n : Nat) (g : Gm) (w : World) (e : Ending) (w' : World) : Prop :=
  ∃ s' fk' i, e = .returned (.int .i64 ((i : Nat) : Int)) ∧ KAt V 0 w0 w' pp h kb s' fk' ∧ GGo pp h kb s w s' w' ∧ NewK V (n + 1) fk fk' ∧ i < s'.D.length ∧ Canon (vl s'.D i) ∧ Eqv (vl s'.D i) g
def GameOk (V : Sv) (N : Nat) : Prop := ∀ (w0 : World) (pp h kb : Nat) (s : PSt) (fk : Value → Option Value) (n : Nat) (g : Gm) (sb : ByteArray) (w : World), n < N → V.T n g sb → KAt V 0 w0 w pp h kb s fk → V.G w0 →
  Calls Tryz.prog 86 #[.agg #[.pointer (some ⟨pp, 0, none⟩), .map (some kb), .func (.func V.fn) #[] #[]], .string sb] w (GamePost V w0 pp h kb s fk n g w)

structure Done (V : Sv) (D : Dag) (n : Nat) (g : Gm) (l0 l1 : List Nat) (k : Nat) (fk fk' : Value → Option Value) : Prop where
  k0 : 1 ≤ k → Side V D n g.l l0
  z0 : k < 1 → l0 = []
  k1 : 2 ≤ k → Side V D n g.r l1
  z1 : k < 2 → l1 = []
  new : NewK V n fk fk'

structure DoneL (V : Sv) (D : Dag) (ss : List ByteArray) (l : List Nat) (j : Nat) (l1 : List Nat) (fk fk' : Value → Option Value) {n : Nat} : Prop where
  kid : Kid V D ss l
  len : l.length = j
  z1 : l1 = []
  new : NewK V n fk fk'
structure DoneR (V : Sv) (D : Dag) (n : Nat) (g : Gm) (ss : List ByteArray) (l : List Nat) (j : Nat) (l0 : List Nat) (fk fk' : Value → Option Value) : Prop where
  kid : Kid V D ss l
  len : l.length = j
  k0 : Side V D n g.l l0
  new : NewK V n fk fk'
theorem DoneL.put {V : Sv} (hV : V.Ok) {D E : Dag} {n : Nat} {ss : List ByteArray} {l l1 : List Nat} {j i m : Nat} {fk fk1 fk2 : Value → Option Value} {x : Gm} {sb : ByteArray} (h : DoneL V D ss l j l1 fk fk1 (n := n)) (g : Cgt.WF D) (g' : Cgt.WF (D ++ E))
    (he : ss[j]? = some sb) (hT : V.T m x sb) (hm : m < n) (hi : i < (D ++ E).length) (hv : Eqv (vl (D ++ E) i) x) (hN : NewK V (m + 1) fk1 fk2) : DoneL V (D ++ E) ss (l ++ [i]) (j + 1) l1 fk fk2 (n := n) :=
  ⟨(h.kid.more g g').add hV (by rw [h.len]; exact he) hT hi hv, by simp [h.len], h.z1, h.new.trans hN (by omega)⟩
theorem DoneR.put {V : Sv} (hV : V.Ok) {D E : Dag} {n : Nat} {q : Gm} {ss : List ByteArray} {l l0 : List Nat} {j i m : Nat} {fk fk1 fk2 : Value → Option Value} {x : Gm} {sb : ByteArray} (h : DoneR V D n q ss l j l0 fk fk1) (g : Cgt.WF D) (g' : Cgt.WF (D ++ E))
    (he : ss[j]? = some sb) (hT : V.T m x sb) (hm : m < n) (hi : i < (D ++ E).length) (hv : Eqv (vl (D ++ E) i) x) (hN : NewK V (m + 1) fk1 fk2) : DoneR V (D ++ E) n q ss (l ++ [i]) (j + 1) l0 fk fk2 :=
  ⟨(h.kid.more g g').add hV (by rw [h.len]; exact he) hT hi hv, by simp [h.len], h.k0.more g g', h.new.trans hN (by omega)⟩
theorem DoneL.all {V : Sv} {D : Dag} {n : Nat} {g : Gm} {ss : List ByteArray} {l l1 : List Nat} {fk fk' : Value → Option Value} (h : DoneL V D ss l ss.length l1 fk fk' (n := n)) (hc : Covers V n g.l ss) (hs : ss.length ≤ 1000) : Done V D n g l l1 1 fk fk' :=
  ⟨fun _ => ⟨ss, hc, h.kid, h.len, hs⟩, fun h => by omega, fun h => by omega, fun _ => h.z1, h.new⟩
theorem DoneR.all {V : Sv} {D : Dag} {n : Nat} {g : Gm} {ss : List ByteArray} {l l0 : List Nat} {fk fk' : Value → Option Value} (h : DoneR V D n g ss l ss.length l0 fk fk') (hc : Covers V n g.r ss) (hs : ss.length ≤ 1000) : Done V D n g l0 l 2 fk fk' :=
  ⟨fun _ => h.k0, fun h => by omega, fun _ => ⟨ss, hc, h.kid, h.len, hs⟩, fun h => by omega, h.new⟩

def rowsGame : List Row := [⟨0, [], 37, [8]⟩, ⟨1, [], 38, [8]⟩, ⟨2, [1], 39, [7, 37]⟩, ⟨3, [2], 40, [38]⟩, ⟨4, [], 41, [2]⟩, ⟨5, [], 42, [10]⟩, ⟨6, [4, 5], 43, [40, 41]⟩, ⟨7, [6], 44, [42]⟩, ⟨8, [3, 7, 6], 45, [39, 43]⟩, ⟨9, [0, 0, 1, 2, 3, 4, 5, 6, 7, 8], 46, [7, 36]⟩, ⟨10, [9, 8, 8, 0, 1, 2, 3, 4, 5, 6, 7, 8], 0, [45, 44]⟩]
def rowsGame14 : List Row := [⟨0, [], 49, [2]⟩, ⟨1, [0], 50, [48]⟩, ⟨2, [], 51, [2]⟩, ⟨3, [2], 52, [50]⟩, ⟨4, [], 53, [7]⟩, ⟨5, [4], 54, [52]⟩, ⟨6, [], 55, [7]⟩, ⟨7, [6], 56, [54]⟩, ⟨8, [3, 5, 7], 57, [51, 53, 55]⟩, ⟨9, [1, 8, 8], 58, [49, 56]⟩, ⟨10, [9, 9, 0, 1, 2, 3, 4, 5, 6, 7, 8, 9], 12, [57]⟩]

set_option maxHeartbeats 4000000 in
theorem game_step {V : Sv} (hV : V.Ok) {N : Nat} (ih : GameOk V N) : GameOk V (N + 1) := by
  intro w0 pp h kb s fk n g sb w hn hT KA hG
  obtain ⟨i0, hi0, hz0, hz1, hz2⟩ := info_parts info_int
  have hM := KA.kn
  have hO := KA.known
  have hkc := kc_le hV fk
  have hkey := keyOfS sb (hV.size hT)
  have hxb : Ext w (w.alloc (.cells #[.pointer (some ⟨pp, 0, none⟩), .map (some kb), .func (.func V.fn) #[] #[]] 115)) := by go_grown
  have hbx := heap_alloc_new w (.cells #[.pointer (some ⟨pp, 0, none⟩), .map (some kb), .func (.func V.fn) #[] #[]] 115)
  go_enter Tryz.func86, Tryz.ntmps86
  go_upto_region 1 with fail
  generalize w.alloc (.cells #[.pointer (some ⟨pp, 0, none⟩), .map (some kb), .func (.func V.fn) #[] #[]] 115) = W1 at *
  have c1 := cell_of_row W1 w.heap.size 1 _ _ _ hbx
  have hM1 := hM.keep (hxb.block _ hM.lt)
  cases hf : fk (.string sb) with
  | some v =>
    obtain ⟨n', g', sb', i, e1, hT', rfl, hi, hc, he⟩ := hO _ _ hf
    injection e1 with e1
    subst e1
    have he := he.trans (hV.one hT' hT).2
    have HF := Lib.hid (And.intro hi (And.intro hc he))
    have hff := hf
    clear hf hi hc he
    go_wp2_with (at_lookup; refine look_list rfl _ _ 113 true rfl 9 3 keyedS Tryz.underlying113 (.int .i64 0) (zeroI2 _) kb (kc V fk) fk rfl hM1 (.string sb) rfl hkey ?_; rw [hff]; simp only [if_true, Option.getD_some, Option.isSome_some])
    go_ret
    exact ⟨s, fk, i, rfl, KA.ext' hxb, GGo.ext hxb, NewK.refl _ _ _, HF.out.1, HF.out.2.1, HF.out.2.2⟩
  | none =>
    have hff := Lib.hid hf
    clear hf
    go_upto_region 4 with (at_lookup; refine look_list rfl _ _ 113 true rfl 9 3 keyedS Tryz.underlying113 (.int .i64 0) (zeroI2 _) kb (kc V fk) fk rfl hM1 (.string sb) rfl hkey ?_; rw [hff.out]; simp only [if_true, Option.getD_none, Option.isSome_none])
    have K1 := KA.ext' hxb
    have hxa : Ext W1 (W1.alloc (.cells #[.slice none 0 0, .slice none 0 0] 177)) := by go_grown
    have hba := heap_alloc_new W1 (.cells #[.slice none 0 0, .slice none 0 0] 177)
    go_upto_region 5 with fail
    have hXb : ∀ b, b = w.heap.size → Aside pp h kb s W1 b := fun b hb => by subst hb; exact KA.aside (Nat.le_refl _) (blk_lt hbx)
    have hgm : GM w (W1.alloc (.cells #[.slice none 0 0, .slice none 0 0] 177)) pp h kb s W1.heap.size (.slice none 0 0) (.slice none 0 0) [] [] (fun b => b = w.heap.size) :=
      ⟨hba, ⟨by simp [toZ], .inl ⟨rfl, rfl⟩⟩, ⟨by simp [toZ], .inl ⟨rfl, rfl⟩⟩, fun b hb => by simp [Value.ownBlock] at hb, fun b hb => by simp [Value.ownBlock] at hb, fun b hb => by simp [Value.ownBlock] at hb, K1.aside (Nat.le_refl _) (by rw [World.size_alloc]; omega), hxb.size, fun b hb => ⟨((hXb b hb).go (GGo.ext hxa)).1, by simp [Value.ownBlock], by simp [Value.ownBlock], by have := (hXb b hb).1; omega⟩⟩
    have K2 := K1.ext' hxa
    have G2 : GGo pp h kb s w s (W1.alloc (.cells #[.slice none 0 0, .slice none 0 0] 177)) := GGo.ext (ext_trans hxb hxa)
    have hbx2 := (hxa.block _ (blk_lt hbx)).trans hbx
    have hkbl := hM.lt
    have HD0 : Hid (Done V s.D n g [] [] 0 fk fk) := Lib.hid ⟨fun h => by omega, fun _ => rfl, fun h => by omega, fun _ => rfl, NewK.refl _ _ _⟩
    have hmv : ∀ left W, Ext w0 W → Calls Tryz.prog V.fn #[.string sb, .bool left] W (MovesPost V n g left W) := fun left W hW => hV.moves left W hT (hV.gext hG hW)
    have hent := hV.ent
    generalize W1.alloc (.cells #[.slice none 0 0, .slice none 0 0] 177) = W2 at *
    generalize W1.heap.size = ab at *
    clear hba hxa hbx hxb K1 c1 hM1 hXb hM
    go_wp2
    go_loopw [8, 10, 22] (fun _ _ kk wr => ∃ (k : Nat) (s1 : PSt) (fk1 : Value → Option Value) (v0 v1 : Value) (l0 l1 : List Nat), kk = .int .i64 ((k : Nat) : Int) ∧ k ≤ 2 ∧ KAt V 0 w0 wr pp h kb s1 fk1 ∧ GGo pp h kb s w s1 wr ∧ GM w wr pp h kb s1 ab v0 v1 l0 l1 (fun b => b = w.heap.size) ∧ wr.heap[w.heap.size]? = some (.cells #[.pointer (some ⟨pp, 0, none⟩), .map (some kb), .func (.func V.fn) #[] #[]] 115 (0, 0)) ∧ Hid (Done V s1.D n g l0 l1 k fk fk1)) (fun _ _ kk _ => 2 - (intOf kk).toNat)
    case atStart => exact ⟨0, s, fk, _, _, [], [], rfl, by omega, K2, G2, hgm, hbx2, HD0⟩
    case round =>
      clear K2 G2 hgm hbx2 HD0
      obtain ⟨k, s1, fk1, v0, v1, l0, l1, rfl, hk, KW, hgo, hm, hbox, HD⟩ := hrel
      have c2 := cell_of_row wr w.heap.size 2 _ _ _ hbox
      simp only [List.getElem?_toArray, List.getElem?_cons_succ, List.getElem?_cons_zero] at c2
      have hk3 : k = 0 ∨ k = 1 ∨ k = 2 := by omega
      rcases hk3 with rfl | rfl | rfl
      · have hm0 := hm
        have hzr : w.heap.size ≤ wr.heap.size := hgo.keep.size
        go_wp2_with ((with_reducible refine (hmv true _ KW.ext).mono ?_); rintro e w3 ⟨vm, ss, rfl, hom, hsl, hss, hx3⟩; obtain ⟨am, cm, rfl, -, -⟩ := own_len hom)
        have HSS : Hid (Covers V n g.l ss) := Lib.hid hss
        clear hss
        have K3 := KW.ext' hx3
        have g3 := hm.addX (Y := fun b => b = w.heap.size ∨ (Value.slice am ss.length cm).ownBlock = some b) KW hx3 (fun b hb => by
          rcases hb with e | e
          · exact .inl e
          · exact .inr (hom.lt b e))
        have G3 := hgo.trans (GGo.ext hx3 (s := s1)) hkbl
        have hb3 := (hx3.block _ (blk_lt hbox)).trans hbox
        have hD3 := HD.out
        obtain rfl := hD3.z0 (by omega)
        have HD3 : Hid (DoneL V s1.D ss [] 0 l1 fk fk1 (n := n)) := Lib.hid ⟨Kid.nil _ _ _, rfl, hD3.z1 (by omega), hD3.new⟩
        clear hm hm0 hbox KW hgo HD hD3 c2
        go_loopw [10, 32] (fun _ jj wr => ∃ (j : Nat) (s2 : PSt) (fk2 : Value → Option Value) (v : Value) (l : List Nat), jj = .int .i64 ((j : Nat) : Int) ∧ j ≤ ss.length ∧ KAt V 0 w0 wr pp h kb s2 fk2 ∧ GGo pp h kb s w s2 wr ∧ GM w wr pp h kb s2 ab v v1 l l1 (fun b => b = w.heap.size ∨ (Value.slice am ss.length cm).ownBlock = some b) ∧ wr.heap[w.heap.size]? = some (.cells #[.pointer (some ⟨pp, 0, none⟩), .map (some kb), .func (.func V.fn) #[] #[]] 115 (0, 0)) ∧ wr.ownsRow w.heap.size 9 1 (.slice am ss.length cm) ss.length (ss.map Value.string) ∧ Hid (DoneL V s2.D ss l j l1 fk fk2 (n := n))) (fun _ jj _ => ss.length - (intOf jj).toNat)
        case atStart => exact ⟨0, s1, fk1, _, _, rfl, Nat.zero_le _, K3, G3, g3, hb3, own_lower hom hzr, HD3⟩
        case round =>
          clear K3 G3 g3 hb3 HD3 hom
          obtain ⟨j, s2, fk2, v, l, rfl, hj, KW, hgo, hm, hbox, hom, HD⟩ := hrel
          by_cases hjl : j < ss.length
          · have h3 : ((j : Nat) : Int) < (ss.length : Int) := by omega
            obtain ⟨gm, cm', he, -, -, hcell⟩ := own_at hom (by omega)
            simp only [Value.slice.injEq, true_and] at he
            obtain ⟨rfl, rfl⟩ := he
            have htxt : wr.cell? ⟨gm, j, none⟩ = some (.string ss[j]) := by rw [hcell j (by omega)]; simp [hjl]
            obtain ⟨mj, xj, hlt, hxj, hTe⟩ := HSS.out.1 j hjl
            obtain ⟨av, cv, rfl, -, -⟩ := own_len hm.r0
            have hlen : l.length ≤ 1000 := by have := HD.out.len; omega
            have hmn : mj < N := by omega
            have HX := Lib.hid (And.intro hTe hlt)
            have b0 := cell_of_row wr w.heap.size 0 _ _ _ hbox
            have b1 := cell_of_row wr w.heap.size 1 _ _ _ hbox
            have b2 := cell_of_row wr w.heap.size 2 _ _ _ hbox
            have ca := cell_of_row wr ab 0 _ _ _ hm.arr
            simp only [List.getElem?_toArray, List.getElem?_cons_succ, List.getElem?_cons_zero] at b0 b1 b2 ca
            have hcall : ∀ W, Ext wr W → Calls Tryz.prog 86 #[.agg #[.pointer (some ⟨pp, 0, none⟩), .map (some kb), .func (.func V.fn) #[] #[]], .string ss[j]] W (GamePost V w0 pp h kb s2 fk2 mj xj W) := fun W hW => ih w0 pp h kb s2 fk2 mj xj _ W hmn hTe (KW.ext' hW) hG
            clear hcell hlt hTe hxj
            go_upto_region 11 with fail
            refine wp_region_L (fun W => W.cell? ⟨ab, 0, none⟩ = some (.slice av l.length cv) ∧ W.cell? ⟨w.heap.size, 0, none⟩ = some (.pointer (some ⟨pp, 0, none⟩)) ∧ W.cell? ⟨w.heap.size, 1, none⟩ = some (.map (some kb)) ∧ W.cell? ⟨w.heap.size, 2, none⟩ = some (.func (.func V.fn) #[] #[])) [9, 10] rowsGame (by kernel_rfl) ⟨by kernel_rfl, by kernel_rfl, by kernel_rfl⟩ ⟨ca, b0, b1, b2⟩ (fun hTab hHeld => ?_)
            ((refine tkB hTab (i := 0) hHeld ?_); (try simp only [nP]); (refine tkB hTab (i := 1) hHeld ?_); (try simp only [nP]); (refine tkB hTab (i := 2) hHeld ?_); (try simp only [nP]); (refine tkB hTab (i := 3) hHeld ?_); (try simp only [nP]); (refine tkB hTab (i := 4) hHeld ?_); (try simp only [nP]); (refine tkB hTab (i := 5) hHeld ?_); (try simp only [nP]))
            (refine stB hTab (i := 6) fun K hK => ?_; go_simp)
            refine (hcall _ (rd_ext ⟨1, rfl⟩)).mono ?_
            rintro e4 w4 ⟨s4, fk4, i, rfl, K4, G4, N4, hi4, hc4, hv4⟩
            have hxd : Ext wr (wr.drewN 1) := rd_ext ⟨1, rfl⟩
            obtain ⟨gd, hXd⟩ := hm.go (GGo.ext hxd)
            obtain ⟨g4, hX4⟩ := gd.go G4
            have hbox4 := ((hX4 _ (.inl rfl)).trans (hXd _ (.inl rfl))).trans hbox
            have hom4 := own_blk hom (fun b hb => (hX4 b (.inr hb)).trans (hXd b (.inr hb)))
            have hgo4 := (hgo.trans (GGo.ext hxd (s := s2)) hkbl).trans G4 hkbl
            have d0 := cell_of_row w4 w.heap.size 0 _ _ _ hbox4
            have d1 := cell_of_row w4 w.heap.size 1 _ _ _ hbox4
            have d2 := cell_of_row w4 w.heap.size 2 _ _ _ hbox4
            have da := cell_of_row w4 ab 0 _ _ _ g4.arr
            simp only [List.getElem?_toArray, List.getElem?_cons_succ, List.getElem?_cons_zero] at d0 d1 d2 da
            (refine hK.out _ _ (fun _ => ?_) ?_)
            · exact ⟨da, d0, d1, d2⟩
            clear hK K
            (try simp only [nP])
            (refine stB hTab (i := 7) fun K hK => ?_; go_simp)
            (refine hK.out _ _ (fun _ => ?_) ?_)
            · exact ⟨alloc_cell da _, alloc_cell d0 _, alloc_cell d1 _, alloc_cell d2 _⟩
            clear hK K
            (try simp only [nP])
            refine stB hTab (i := 8) fun K hK => ?_
            refine app_step rfl (.tmp 39) (.tmp 43) 80 rfl w.heap.size 3 i0 (.int .i64 0) 1 8 Tryz.underlying80 hi0 hz0 hz1 hz2 rfl (by decide) (.slice av l.length cv) l.length _ rfl (g4.r0.alloc _) _ 1 _ [.int .i64 ((i : Nat) : Int)] rfl rfl (.inr ⟨_, rfl, one_src (new_cell _ _ _)⟩) one_cell (by unfold maxLen; omega) (by omega) (by rw [World.size_alloc]; have := hgo4.keep.size; omega) ?_
            intro v9 w9 ho9 hg9 hl9
            obtain ⟨x9, y9, rfl, -, -⟩ := own_len ho9
            have hx9 : Ext w4 (w4.alloc (.cells #[.int .i64 ((i : Nat) : Int)] 3)) := ext_alloc (Below.refl _ _) _
            obtain ⟨gp, hkp9, hX9, ca9, cf9⟩ := g4.put0 (i := i) hx9 hx9.size K4 hg9 ho9 (by simp) (by simp [toZ]) hl9
            have hb9 : w9.heap[w.heap.size]? = some (.cells #[.pointer (some ⟨pp, 0, none⟩), .map (some kb), .func (.func V.fn) #[] #[]] 115 (0, 0)) := ((keep_grownO hg9).block _ (Nat.lt_of_lt_of_le (blk_lt hbox4) hx9.size) (fun e => (g4.prot _ (.inl rfl)).2.1 e)).trans ((hx9.block _ (blk_lt hbox4)).trans hbox4)
            have e0 := cell_of_row w9 w.heap.size 0 _ _ _ hb9
            have e1 := cell_of_row w9 w.heap.size 1 _ _ _ hb9
            have e2 := cell_of_row w9 w.heap.size 2 _ _ _ hb9
            simp only [List.getElem?_toArray, List.getElem?_cons_succ, List.getElem?_cons_zero] at e0 e1 e2
            have HDN : Hid (DoneL V s4.D ss (l ++ [i]) (j + 1) l1 fk fk4 (n := n)) := Lib.hid (by
              obtain ⟨E, hE⟩ := G4.more
              have hw := K4.pool.good.wf
              rw [hE] at hw hi4 hv4 ⊢
              exact HD.out.put hV KW.pool.good.wf hw (List.getElem?_eq_getElem hjl) HX.out.1 HX.out.2 hi4 hv4 N4)
            have K9 := Lib.hid (K4.side hkp9 (fun b hb => by
              rcases hb with e | e
              · exact (g4.a0 b e).1
              · rw [e]; exact g4.aab) (fun b hb => by
              have hz0 := KA.ext.size
              rcases hb with e | e
              · have := (g4.r0.lt b e).1; omega
              · have := g4.abw; omega))
            have G9 := Lib.hid (hgo4.side hkp9 (fun b hb => by
              rcases hb with e | e
              · exact (g4.r0.lt b e).1
              · have := g4.abw; omega))
            have hb10 := (hX9 _ (.inl rfl)).trans hbox4
            have hom10 := own_blk hom4 (fun b hb => hX9 b (.inr hb))
            have GP := Lib.hid gp
            (refine hK.out _ _ (fun _ => ?_) ?_)
            · exact ⟨ca9, e0, e1, e2⟩
            clear hK K
            (try simp only [nP])
            refine tlB hTab [9, 10] [_, _] ?_
            clear hTab hHeld da d0 d1 d2 gd g4 gp hkp9 hX9 hXd hX4 hm hgo hgo4 hcall e0 e1 e2 K4 G4 N4 hc4 hv4 KW
            go_wp2
            go_roundw
            case rel => exact ⟨j + 1, s4, fk4, _, l ++ [i], by go_num, by omega, K9.out, G9.out, GP.out, hb10, hom10, HDN⟩
            case measure => simp [intOf]; omega
          · have h3 : ¬ (((j : Nat) : Int) < (ss.length : Int)) := by omega
            have hje : j = ss.length := by omega
            subst hje
            have hm2 := hm.mono (Y := fun b => b = w.heap.size) (fun b hb => .inl hb)
            clear hm hom
            go_wp2
            go_roundw
            case rel => exact ⟨1, s2, fk2, _, _, _, _, rfl, by omega, KW, hgo, hm2, hbox, Lib.hid (HD.out.all HSS.out hsl)⟩
            case measure => simp [intOf]
      · have hm1 := hm
        have hzr : w.heap.size ≤ wr.heap.size := hgo.keep.size
        go_wp2_with ((with_reducible refine (hmv false _ KW.ext).mono ?_); rintro e w3 ⟨vm, ss, rfl, hom, hsl, hss, hx3⟩; obtain ⟨am, cm, rfl, -, -⟩ := own_len hom)
        have HSS : Hid (Covers V n g.r ss) := Lib.hid hss
        clear hss
        have K3 := KW.ext' hx3
        have g3 := hm.addX (Y := fun b => b = w.heap.size ∨ (Value.slice am ss.length cm).ownBlock = some b) KW hx3 (fun b hb => by
          rcases hb with e | e
          · exact .inl e
          · exact .inr (hom.lt b e))
        have G3 := hgo.trans (GGo.ext hx3 (s := s1)) hkbl
        have hb3 := (hx3.block _ (blk_lt hbox)).trans hbox
        have hD3 := HD.out
        obtain rfl := hD3.z1 (by omega)
        have HD3 : Hid (DoneR V s1.D n g ss [] 0 l0 fk fk1) := Lib.hid ⟨Kid.nil _ _ _, rfl, hD3.k0 (by omega), hD3.new⟩
        clear hm hm1 hbox KW hgo HD hD3 c2
        go_loopw [10, 32] (fun _ jj wr => ∃ (j : Nat) (s2 : PSt) (fk2 : Value → Option Value) (v : Value) (l : List Nat), jj = .int .i64 ((j : Nat) : Int) ∧ j ≤ ss.length ∧ KAt V 0 w0 wr pp h kb s2 fk2 ∧ GGo pp h kb s w s2 wr ∧ GM w wr pp h kb s2 ab v0 v l0 l (fun b => b = w.heap.size ∨ (Value.slice am ss.length cm).ownBlock = some b) ∧ wr.heap[w.heap.size]? = some (.cells #[.pointer (some ⟨pp, 0, none⟩), .map (some kb), .func (.func V.fn) #[] #[]] 115 (0, 0)) ∧ wr.ownsRow w.heap.size 9 1 (.slice am ss.length cm) ss.length (ss.map Value.string) ∧ Hid (DoneR V s2.D n g ss l j l0 fk fk2)) (fun _ jj _ => ss.length - (intOf jj).toNat)
        case atStart => exact ⟨0, s1, fk1, _, _, rfl, Nat.zero_le _, K3, G3, g3, hb3, own_lower hom hzr, HD3⟩
        case round =>
          clear K3 G3 g3 hb3 HD3 hom
          obtain ⟨j, s2, fk2, v, l, rfl, hj, KW, hgo, hm, hbox, hom, HD⟩ := hrel
          by_cases hjl : j < ss.length
          · have h3 : ((j : Nat) : Int) < (ss.length : Int) := by omega
            obtain ⟨gm, cm', he, -, -, hcell⟩ := own_at hom (by omega)
            simp only [Value.slice.injEq, true_and] at he
            obtain ⟨rfl, rfl⟩ := he
            have htxt : wr.cell? ⟨gm, j, none⟩ = some (.string ss[j]) := by rw [hcell j (by omega)]; simp [hjl]
            obtain ⟨mj, xj, hlt, hxj, hTe⟩ := HSS.out.1 j hjl
            obtain ⟨av, cv, rfl, -, -⟩ := own_len hm.r1
            have hlen : l.length ≤ 1000 := by have := HD.out.len; omega
            have hmn : mj < N := by omega
            have HX := Lib.hid (And.intro hTe hlt)
            have b0 := cell_of_row wr w.heap.size 0 _ _ _ hbox
            have b1 := cell_of_row wr w.heap.size 1 _ _ _ hbox
            have b2 := cell_of_row wr w.heap.size 2 _ _ _ hbox
            have ca := cell_of_row wr ab 1 _ _ _ hm.arr
            simp only [List.getElem?_toArray, List.getElem?_cons_succ, List.getElem?_cons_zero] at b0 b1 b2 ca
            have hcall : ∀ W, Ext wr W → Calls Tryz.prog 86 #[.agg #[.pointer (some ⟨pp, 0, none⟩), .map (some kb), .func (.func V.fn) #[] #[]], .string ss[j]] W (GamePost V w0 pp h kb s2 fk2 mj xj W) := fun W hW => ih w0 pp h kb s2 fk2 mj xj _ W hmn hTe (KW.ext' hW) hG
            clear hcell hlt hTe hxj
            go_upto_region 11 with fail
            refine wp_region_L (fun W => W.cell? ⟨ab, 1, none⟩ = some (.slice av l.length cv) ∧ W.cell? ⟨w.heap.size, 0, none⟩ = some (.pointer (some ⟨pp, 0, none⟩)) ∧ W.cell? ⟨w.heap.size, 1, none⟩ = some (.map (some kb)) ∧ W.cell? ⟨w.heap.size, 2, none⟩ = some (.func (.func V.fn) #[] #[])) [9, 10] rowsGame (by kernel_rfl) ⟨by kernel_rfl, by kernel_rfl, by kernel_rfl⟩ ⟨ca, b0, b1, b2⟩ (fun hTab hHeld => ?_)
            ((refine tkB hTab (i := 0) hHeld ?_); (try simp only [nP]); (refine tkB hTab (i := 1) hHeld ?_); (try simp only [nP]); (refine tkB hTab (i := 2) hHeld ?_); (try simp only [nP]); (refine tkB hTab (i := 3) hHeld ?_); (try simp only [nP]); (refine tkB hTab (i := 4) hHeld ?_); (try simp only [nP]); (refine tkB hTab (i := 5) hHeld ?_); (try simp only [nP]))
            (refine stB hTab (i := 6) fun K hK => ?_; go_simp)
            refine (hcall _ (rd_ext ⟨1, rfl⟩)).mono ?_
            rintro e4 w4 ⟨s4, fk4, i, rfl, K4, G4, N4, hi4, hc4, hv4⟩
            have hxd : Ext wr (wr.drewN 1) := rd_ext ⟨1, rfl⟩
            obtain ⟨gd, hXd⟩ := hm.go (GGo.ext hxd)
            obtain ⟨g4, hX4⟩ := gd.go G4
            have hbox4 := ((hX4 _ (.inl rfl)).trans (hXd _ (.inl rfl))).trans hbox
            have hom4 := own_blk hom (fun b hb => (hX4 b (.inr hb)).trans (hXd b (.inr hb)))
            have hgo4 := (hgo.trans (GGo.ext hxd (s := s2)) hkbl).trans G4 hkbl
            have d0 := cell_of_row w4 w.heap.size 0 _ _ _ hbox4
            have d1 := cell_of_row w4 w.heap.size 1 _ _ _ hbox4
            have d2 := cell_of_row w4 w.heap.size 2 _ _ _ hbox4
            have da := cell_of_row w4 ab 1 _ _ _ g4.arr
            simp only [List.getElem?_toArray, List.getElem?_cons_succ, List.getElem?_cons_zero] at d0 d1 d2 da
            (refine hK.out _ _ (fun _ => ?_) ?_)
            · exact ⟨da, d0, d1, d2⟩
            clear hK K
            (try simp only [nP])
            (refine stB hTab (i := 7) fun K hK => ?_; go_simp)
            (refine hK.out _ _ (fun _ => ?_) ?_)
            · exact ⟨alloc_cell da _, alloc_cell d0 _, alloc_cell d1 _, alloc_cell d2 _⟩
            clear hK K
            (try simp only [nP])
            refine stB hTab (i := 8) fun K hK => ?_
            refine app_step rfl (.tmp 39) (.tmp 43) 80 rfl w.heap.size 3 i0 (.int .i64 0) 1 8 Tryz.underlying80 hi0 hz0 hz1 hz2 rfl (by decide) (.slice av l.length cv) l.length _ rfl (g4.r1.alloc _) _ 1 _ [.int .i64 ((i : Nat) : Int)] rfl rfl (.inr ⟨_, rfl, one_src (new_cell _ _ _)⟩) one_cell (by unfold maxLen; omega) (by omega) (by rw [World.size_alloc]; have := hgo4.keep.size; omega) ?_
            intro v9 w9 ho9 hg9 hl9
            obtain ⟨x9, y9, rfl, -, -⟩ := own_len ho9
            have hx9 : Ext w4 (w4.alloc (.cells #[.int .i64 ((i : Nat) : Int)] 3)) := ext_alloc (Below.refl _ _) _
            obtain ⟨gp, hkp9, hX9, ca9, cf9⟩ := g4.put1 (i := i) hx9 hx9.size K4 hg9 ho9 (by simp) (by simp [toZ]) hl9
            have hb9 : w9.heap[w.heap.size]? = some (.cells #[.pointer (some ⟨pp, 0, none⟩), .map (some kb), .func (.func V.fn) #[] #[]] 115 (0, 0)) := ((keep_grownO hg9).block _ (Nat.lt_of_lt_of_le (blk_lt hbox4) hx9.size) (fun e => (g4.prot _ (.inl rfl)).2.2.1 e)).trans ((hx9.block _ (blk_lt hbox4)).trans hbox4)
            have e0 := cell_of_row w9 w.heap.size 0 _ _ _ hb9
            have e1 := cell_of_row w9 w.heap.size 1 _ _ _ hb9
            have e2 := cell_of_row w9 w.heap.size 2 _ _ _ hb9
            simp only [List.getElem?_toArray, List.getElem?_cons_succ, List.getElem?_cons_zero] at e0 e1 e2
            have HDN : Hid (DoneR V s4.D n g ss (l ++ [i]) (j + 1) l0 fk fk4) := Lib.hid (by
              obtain ⟨E, hE⟩ := G4.more
              have hw := K4.pool.good.wf
              rw [hE] at hw hi4 hv4 ⊢
              exact HD.out.put hV KW.pool.good.wf hw (List.getElem?_eq_getElem hjl) HX.out.1 HX.out.2 hi4 hv4 N4)
            have K9 := Lib.hid (K4.side hkp9 (fun b hb => by
              rcases hb with e | e
              · exact (g4.a1 b e).1
              · rw [e]; exact g4.aab) (fun b hb => by
              have hz0 := KA.ext.size
              rcases hb with e | e
              · have := (g4.r1.lt b e).1; omega
              · have := g4.abw; omega))
            have G9 := Lib.hid (hgo4.side hkp9 (fun b hb => by
              rcases hb with e | e
              · exact (g4.r1.lt b e).1
              · have := g4.abw; omega))
            have hb10 := (hX9 _ (.inl rfl)).trans hbox4
            have hom10 := own_blk hom4 (fun b hb => hX9 b (.inr hb))
            have GP := Lib.hid gp
            (refine hK.out _ _ (fun _ => ?_) ?_)
            · exact ⟨ca9, e0, e1, e2⟩
            clear hK K
            (try simp only [nP])
            refine tlB hTab [9, 10] [_, _] ?_
            clear hTab hHeld da d0 d1 d2 gd g4 gp hkp9 hX9 hXd hX4 hm hgo hgo4 hcall e0 e1 e2 K4 G4 N4 hc4 hv4 KW
            go_wp2
            go_roundw
            case rel => exact ⟨j + 1, s4, fk4, _, l ++ [i], by go_num, by omega, K9.out, G9.out, GP.out, hb10, hom10, HDN⟩
            case measure => simp [intOf]; omega
          · have h3 : ¬ (((j : Nat) : Int) < (ss.length : Int)) := by omega
            have hje : j = ss.length := by omega
            subst hje
            have hm2 := hm.mono (Y := fun b => b = w.heap.size) (fun b hb => .inl hb)
            clear hm hom
            go_wp2
            go_roundw
            case rel => exact ⟨2, s2, fk2, _, _, _, _, rfl, by omega, KW, hgo, hm2, hbox, Lib.hid (HD.out.all HSS.out hsl)⟩
            case measure => simp [intOf]
      · have hD3 := HD.out
        have hkL := (hD3.k0 (by omega)).lt
        have hkR := (hD3.k1 (by omega)).lt
        have hkc1 := kc_le hV fk1
        have hsm1 := KW.small
        have hroom1 : s1.D.length + 1 ≤ 900000 := by omega
        have hm1 : kc V fk1 < maxLen := by unfold maxLen; omega
        have hno1 := Lib.hid (hD3.new.none hV hT hff.out)
        have hnode : ∀ W, Ext wr W → Calls Tryz.prog 119 #[.pointer (some ⟨pp, 0, none⟩), v0, v1] W (PNodePost pp h s1 l0 l1 W) := fun W hW => node_any pp h s1 v0 v1 l0 l1 W (KW.pool.ext hW) hroom1 hkL.1 hkR.1 (by omega) (by omega) (Ints.of_own (own_keep hm.r0 hW) (by rw [toZ_len]; omega)) (Ints.of_own (own_keep hm.r1 hW) (by rw [toZ_len]; omega))
        obtain ⟨x0, y0, rfl, -, -⟩ := own_len hm.r0
        obtain ⟨x1, y1, rfl, -, -⟩ := own_len hm.r1
        have HD3 := Lib.hid hD3
        have b0 := cell_of_row wr w.heap.size 0 _ _ _ hbox
        have ca0 := cell_of_row wr ab 0 _ _ _ hm.arr
        have ca1 := cell_of_row wr ab 1 _ _ _ hm.arr
        simp only [List.getElem?_toArray, List.getElem?_cons_succ, List.getElem?_cons_zero] at b0 ca0 ca1
        clear hD3 HD
        go_upto_region 14 with fail
        refine wp_region_L (fun W => W.cell? ⟨w.heap.size, 0, none⟩ = some (.pointer (some ⟨pp, 0, none⟩)) ∧ W.cell? ⟨ab, 0, none⟩ = some (.slice x0 l0.length y0) ∧ W.cell? ⟨ab, 1, none⟩ = some (.slice x1 l1.length y1)) [10] rowsGame14 (by kernel_rfl) ⟨by kernel_rfl, by kernel_rfl, by kernel_rfl⟩ ⟨b0, ca0, ca1⟩ (fun hTab hHeld => ?_)
        ((refine tkB hTab (i := 0) hHeld ?_); (try simp only [nP]); (refine tkB hTab (i := 1) hHeld ?_); (try simp only [nP]); (refine tkB hTab (i := 2) hHeld ?_); (try simp only [nP]); (refine tkB hTab (i := 3) hHeld ?_); (try simp only [nP]); (refine tkB hTab (i := 4) hHeld ?_); (try simp only [nP]); (refine tkB hTab (i := 5) hHeld ?_); (try simp only [nP]); (refine tkB hTab (i := 6) hHeld ?_); (try simp only [nP]); (refine tkB hTab (i := 7) hHeld ?_); (try simp only [nP]))
        (refine stB hTab (i := 8) fun K hK => ?_; go_simp)
        refine (hnode _ (rd_ext ⟨1, rfl⟩)).mono ?_
        rintro e5 w5 ⟨s5, f, rfl, k5, p5, c5⟩
        have hxd : Ext wr (wr.drewN 1) := rd_ext ⟨1, rfl⟩
        obtain ⟨gd, hXd⟩ := hm.go (GGo.ext hxd)
        obtain ⟨g5, hX5⟩ := gd.go (GGo.pool (kb := kb) k5)
        have hbox5 := ((hX5 _ rfl).trans (hXd _ rfl)).trans hbox
        have d0 := cell_of_row w5 w.heap.size 0 _ _ _ hbox5
        have da0 := cell_of_row w5 ab 0 _ _ _ g5.arr
        have da1 := cell_of_row w5 ab 1 _ _ _ g5.arr
        simp only [List.getElem?_toArray, List.getElem?_cons_succ, List.getElem?_cons_zero] at d0 da0 da1
        (refine hK.out _ _ (fun _ => ?_) ?_)
        · exact ⟨d0, da0, da1⟩
        clear hK K
        (try simp only [nP])
        have hf5 : f < s5.D.length := p5.lt
        have hroom5 : s5.D.length + miss (f + 1) s5.cn ≤ 900000 := by
          have h2 : s5.D.length ≤ s1.D.length + 1 := by
            rcases p5.2 with e | e
            · rw [e]; omega
            · rw [e]; simp
          have h1 : miss (f + 1) s5.cn ≤ 1 := miss_one (f := f) fun x hx hxf => by
            rw [c5]
            exact KW.all x (by omega)
          omega
        (refine stB hTab (i := 9) fun K hK => ?_; go_simp)
        refine (pcanon_any pp h s5 f w5 k5.pool hf5 hroom5).mono ?_
        rintro e6 w6 ⟨s6, j, rfl, k6, hcn6, hG6⟩
        obtain ⟨g6, hX6⟩ := g5.go (GGo.pool (kb := kb) k6)
        have hbox6 := (hX6 _ rfl).trans hbox5
        have q0 := cell_of_row w6 w.heap.size 0 _ _ _ hbox6
        have q1 := cell_of_row w6 w.heap.size 1 _ _ _ hbox6
        have qa0 := cell_of_row w6 ab 0 _ _ _ g6.arr
        have qa1 := cell_of_row w6 ab 1 _ _ _ g6.arr
        simp only [List.getElem?_toArray, List.getElem?_cons_succ, List.getElem?_cons_zero] at q0 q1 qa0 qa1
        (refine hK.out _ _ (fun _ => ?_) ?_)
        · exact ⟨q0, qa0, qa1⟩
        clear hK K
        (try simp only [nP])
        refine tlB hTab [10] [_] ?_
        obtain ⟨K6, G6, s61, s62, s63, s64⟩ := step_done (KW.ext' hxd) k5 p5 c5 k6 hcn6 hG6
        have hev := s64.trans (side_node KW.pool.good.wf k5.pool.good.wf (HD3.out.k0 (by omega)) (HD3.out.k1 (by omega)) p5)
        have hM6 := K6.kn
        have HF := Lib.hid (And.intro s61 (And.intro s62 (And.intro s63 hev)))
        clear hTab hHeld d0 da0 da1 q0 qa0 qa1 b0 ca0 ca1 hnode gd g5 g6 hXd hX5 hX6 hm s61 s62 s63 s64 hev hbox hbox5 hroom5 hroom1
        go_wp2_with (at_mapUpdate; refine store_list rfl _ _ _ 113 rfl 9 3 keyedS Tryz.underlying113 kb (kc V fk1) fk1 rfl hM6 hm1 (.string sb) (.int .i64 ((j : Nat) : Int)) rfl rfl hkey ?_; intro w7 hM7 hg7)
        go_ret
        exact ⟨s6, _, j, rfl, K6.learn hV hM7 hg7 hT hno1.out HF.out.2.1 HF.out.2.2.1 HF.out.2.2.2, ((hgo.trans (GGo.ext hxd (s := s1)) hkbl).trans G6 hkbl).learn hg7, HD3.out.new.learn hT, HF.out.2.1, HF.out.2.2.1, HF.out.2.2.2⟩

end Go.Proofs.YteknjeohbcgpdaaGreatDoor
