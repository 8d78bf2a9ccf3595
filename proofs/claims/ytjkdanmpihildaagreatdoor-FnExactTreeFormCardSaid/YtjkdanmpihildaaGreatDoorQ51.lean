/-
  Contract of the program's game: the canonical game of a tree that is told as a text.
-/
import Derived.Test.YtjkdanmpihildaaGreatDoorQ50
namespace Go.Proofs.YtjkdanmpihildaaGreatDoor
open Go.RowKit
open Cgt (Dag Nd vl Gm Canon Eqv)

theorem own_blk {w w' : World} {B e sz n : Nat} {v : Value} {xs : List Value} (h : w.ownsRow B e sz v n xs) (hb : ∀ b, v.ownBlock = some b → w'.heap[b]? = w.heap[b]?) : w'.ownsRow B e sz v n xs := by
  obtain ⟨hl, h2⟩ := h
  refine ⟨hl, ?_⟩
  rcases h2 with h2 | ⟨g, cap, cur, e1, hB, hg, rest⟩
  · exact .inl h2
  · exact .inr ⟨g, cap, cur, e1, hB, (hb g (by rw [e1]; rfl)).trans hg, rest⟩
theorem room_end {c n : Nat} (h : c ≤ n) : c * kN (n - 1) + 1 ≤ kN n := by
  rcases Nat.eq_zero_or_pos n with e | e
  · subst e
    have : c = 0 := by omega
    subst this; simp [kN]
  · obtain ⟨k, rfl⟩ : ∃ k, n = k + 1 := ⟨n - 1, by omega⟩
    rw [Nat.add_sub_cancel, kN]
    have := Nat.mul_le_mul_right (kN k) h
    omega
theorem told_size {us : List Int} {sg : List UInt8} {sb : ByteArray} (h : Told us sg sb) : sb.size ≤ maxLen := by
  have h1 : sb.size = sb.data.toList.length := by rw [Array.length_toList]; rfl
  have h2 := txt_len 32 us
  have h3 := h.1.len
  have h4 := h.1.small
  rw [h1, h.2, List.length_append]; unfold maxLen; omega
theorem kid_told {us : List Int} {sg : List UInt8} {left : Bool} {ss : List ByteArray} (g : GT us sg) (h : ss.map (·.data.toList) = (edges sg left us.length).map fun e => tx32 (cutU us sg e, cutS us sg e)) {j : Nat} (hj : j < ss.length) :
    ∃ e, (edges sg left us.length)[j]? = some e ∧ Told (cutU us sg e) (cutS us sg e) ss[j] ∧ (cutU us sg e).length < us.length := by
  have hl := congrArg List.length h
  simp only [List.length_map] at hl
  have hje : j < (edges sg left us.length).length := by omega
  refine ⟨(edges sg left us.length)[j], List.getElem?_eq_getElem hje, ?_⟩
  have h1 : (ss.map (·.data.toList))[j]? = some (ss[j].data.toList) := by rw [List.getElem?_map, List.getElem?_eq_getElem hj]; rfl
  rw [h, List.getElem?_map, List.getElem?_eq_getElem hje] at h1
  simp only [Option.map_some, Option.some.injEq] at h1
  have hc := cut_good g (edges_lt (List.getElem_mem hje))
  exact ⟨⟨hc.1, h1.symm⟩, hc.2⟩

def GamePost (w0 : World) (pp h kb : Nat) (s : PSt) (m : Nat) (us : List Int) (sg : List UInt8) (w : World) (e : Ending) (w' : World) : Prop :=
  ∃ s' m' i, e = .returned (.int .i64 ((i : Nat) : Int)) ∧ KAt w0 w' pp h kb s' m' ∧ GGo pp h kb s w s' w' ∧ i < s'.D.length ∧ Canon (vl s'.D i) ∧ Eqv (vl s'.D i) (tg us sg) ∧ s'.D.length ≤ s.D.length + 2 * kN us.length ∧ m' ≤ m + kN us.length
def GameOk (n : Nat) : Prop := ∀ (w0 : World) (pp h kb : Nat) (s : PSt) (m : Nat) (us : List Int) (sg : List UInt8) (sb : ByteArray) (w : World), us.length < n → Told us sg sb → KAt w0 w pp h kb s m → Glb w0 → s.D.length + 2 * kN us.length ≤ 900000 → m + kN us.length ≤ 900000 →
  Calls Tryz.prog 39 #[.agg #[.pointer (some ⟨pp, 0, none⟩), .map (some kb), .func (.func 21) #[] #[]], .string sb] w (GamePost w0 pp h kb s m us sg w)

structure Done (D : Dag) (us : List Int) (sg : List UInt8) (l0 l1 : List Nat) (a b : Nat) (d0 m0 d m : Nat) : Prop where
  kl : Kid D us sg true l0
  kr : Kid D us sg false l1
  nl : l0.length = a
  nr : l1.length = b
  sd : d ≤ d0 + 2 * ((l0.length + l1.length) * kN (us.length - 1))
  sm : m ≤ m0 + (l0.length + l1.length) * kN (us.length - 1)

theorem Done.more {D E : Dag} {us : List Int} {sg : List UInt8} {l0 l1 : List Nat} {a b d0 m0 d m : Nat} (h : Done D us sg l0 l1 a b d0 m0 d m) (g : Cgt.WF D) (g' : Cgt.WF (D ++ E)) : Kid (D ++ E) us sg true l0 ∧ Kid (D ++ E) us sg false l1 := ⟨h.kl.more g g', h.kr.more g g'⟩
theorem Done.put0 {D E : Dag} {us : List Int} {sg : List UInt8} {l0 l1 : List Nat} {a b d0 m0 d m d' m' i e : Nat} (h : Done D us sg l0 l1 a b d0 m0 d m) (g : Cgt.WF D) (g' : Cgt.WF (D ++ E)) (he : (edges sg true us.length)[a]? = some e) (hi : i < (D ++ E).length) (hv : Eqv (vl (D ++ E) i) (tg (cutU us sg e) (cutS us sg e))) (hk : (cutU us sg e).length < us.length) (hd : d' ≤ d + 2 * kN (cutU us sg e).length) (hm : m' ≤ m + kN (cutU us sg e).length) : Done (D ++ E) us sg (l0 ++ [i]) l1 (a + 1) b d0 m0 d' m' := by
  have h2 : kN (cutU us sg e).length ≤ kN (us.length - 1) := kN_mono (by omega)
  have h3 := h.sd
  have h4 := h.sm
  have h5 : (l0 ++ [i]).length + l1.length = (l0.length + l1.length) + 1 := by simp; omega
  obtain ⟨k1, k2⟩ := h.more g g'
  have hn := h.nl
  subst hn
  have h6 := Nat.succ_mul (l0.length + l1.length) (kN (us.length - 1))
  rw [Nat.succ_eq_add_one] at h6
  refine ⟨k1.add he hi hv, k2, by simp, h.nr, ?_, ?_⟩
  · rw [h5]; omega
  · rw [h5]; omega
theorem Done.put1 {D E : Dag} {us : List Int} {sg : List UInt8} {l0 l1 : List Nat} {a b d0 m0 d m d' m' i e : Nat} (h : Done D us sg l0 l1 a b d0 m0 d m) (g : Cgt.WF D) (g' : Cgt.WF (D ++ E)) (he : (edges sg false us.length)[b]? = some e) (hi : i < (D ++ E).length) (hv : Eqv (vl (D ++ E) i) (tg (cutU us sg e) (cutS us sg e))) (hk : (cutU us sg e).length < us.length) (hd : d' ≤ d + 2 * kN (cutU us sg e).length) (hm : m' ≤ m + kN (cutU us sg e).length) : Done (D ++ E) us sg l0 (l1 ++ [i]) a (b + 1) d0 m0 d' m' := by
  have h2 : kN (cutU us sg e).length ≤ kN (us.length - 1) := kN_mono (by omega)
  have h3 := h.sd
  have h4 := h.sm
  have h5 : l0.length + (l1 ++ [i]).length = (l0.length + l1.length) + 1 := by simp; omega
  obtain ⟨k1, k2⟩ := h.more g g'
  have hn := h.nr
  subst hn
  have h6 := Nat.succ_mul (l0.length + l1.length) (kN (us.length - 1))
  rw [Nat.succ_eq_add_one] at h6
  refine ⟨k1, k2.add he hi hv, h.nl, by simp, ?_, ?_⟩
  · rw [h5]; omega
  · rw [h5]; omega

theorem Done.room {D : Dag} {us : List Int} {sg : List UInt8} {l0 l1 : List Nat} {a b d0 m0 d m e : Nat} (h : Done D us sg l0 l1 a b d0 m0 d m) (hc : a + b + 1 ≤ us.length) (hk : (cutU us sg e).length < us.length) (h1 : d0 + 2 * kN us.length ≤ 900000) (h2 : m0 + kN us.length ≤ 900000) : d + 2 * kN (cutU us sg e).length ≤ 900000 ∧ m + kN (cutU us sg e).length ≤ 900000 ∧ l0.length ≤ 8 + us.length ∧ l1.length ≤ 8 + us.length := by
  have h5 : kN (cutU us sg e).length ≤ kN (us.length - 1) := kN_mono (by omega)
  have h3 := h.sd
  have h4 := h.sm
  have h6 := kN_room hc
  have hn := h.nl
  have hn' := h.nr
  rw [hn, hn'] at h3 h4
  refine ⟨?_, ?_, ?_, ?_⟩ <;> omega

theorem KAt.learn {w0 w w' : World} {pp h kb m m' : Nat} {s : PSt} {fk : Value → Option Value} (k : KAt w0 w pp h kb s m) (hM : MapIs Tryz.prog 9 w' kb m' fk) (hg : w.grownBy w' (some kb)) (hO : KnownOk s.D fk) : KAt w0 w' pp h kb s m' := by
  have hk := keep_grown hg
  exact ⟨k.pool.keep hk (fun b h1 h2 => k.kb1 (by subst h2; exact h1)) (fun b h1 h2 => k.kb2 (by subst h2; exact h1)), k.all, ⟨fk, hM, hO⟩, k.kb1, k.kb2, k.kb0, k.base, ext_keep k.ext hk (fun b hb => by subst hb; exact k.kb0)⟩
theorem GGo.learn {pp h kb : Nat} {s s1 : PSt} {w w1 w3 : World} (k : GGo pp h kb s w s1 w1) (hg : w1.grownBy w3 (some kb)) : GGo pp h kb s w s1 w3 :=
  ⟨k.keep.trans (keep_grown hg) (fun x _ hx => .inr hx), k.own, k.lists, k.more⟩
theorem zeroI2 (w : World) : (zeroValue 3).run Tryz.prog w = .ok (.int .i64 0) w := zeroI w
def rowsGame : List Row := [⟨0, [], 37, [8]⟩, ⟨1, [], 38, [8]⟩, ⟨2, [1], 39, [7, 37]⟩, ⟨3, [2], 40, [38]⟩, ⟨4, [], 41, [2]⟩, ⟨5, [], 42, [10]⟩, ⟨6, [4, 5], 43, [40, 41]⟩, ⟨7, [6], 44, [42]⟩, ⟨8, [3, 7, 6], 45, [39, 43]⟩, ⟨9, [0, 0, 1, 2, 3, 4, 5, 6, 7, 8], 46, [7, 36]⟩, ⟨10, [9, 8, 8, 0, 1, 2, 3, 4, 5, 6, 7, 8], 0, [45, 44]⟩]
def rowsGame14 : List Row := [⟨0, [], 49, [2]⟩, ⟨1, [0], 50, [48]⟩, ⟨2, [], 51, [2]⟩, ⟨3, [2], 52, [50]⟩, ⟨4, [], 53, [7]⟩, ⟨5, [4], 54, [52]⟩, ⟨6, [], 55, [7]⟩, ⟨7, [6], 56, [54]⟩, ⟨8, [3, 5, 7], 57, [51, 53, 55]⟩, ⟨9, [1, 8, 8], 58, [49, 56]⟩, ⟨10, [9, 9, 0, 1, 2, 3, 4, 5, 6, 7, 8, 9], 12, [57]⟩]

set_option maxHeartbeats 4000000 in
set_option maxRecDepth 100000 in
theorem game_step {n : Nat} (ih : GameOk n) : GameOk (n + 1) := by
  intro w0 pp h kb s m us sg sb w hn hT KA hG hsz hmz
  obtain ⟨i0, hi0, hz0, hz1, hz2⟩ := info_parts info_int
  obtain ⟨fk, hM, hO⟩ := id KA.kn
  have hkey := keyOfS sb (told_size hT)
  have hxb : Ext w (w.alloc (.cells #[.pointer (some ⟨pp, 0, none⟩), .map (some kb), .func (.func 21) #[] #[]] 69)) := by go_grown
  have hbx := heap_alloc_new w (.cells #[.pointer (some ⟨pp, 0, none⟩), .map (some kb), .func (.func 21) #[] #[]] 69)
  go_enter Tryz.func39, Tryz.ntmps39
  go_upto_region 1 with fail
  generalize w.alloc (.cells #[.pointer (some ⟨pp, 0, none⟩), .map (some kb), .func (.func 21) #[] #[]] 69) = W1 at *
  have c1 := cell_of_row W1 w.heap.size 1 _ _ _ hbx
  have hM1 := hM.keep (hxb.block _ hM.lt)
  have hkp := kN_pos us.length
  cases hf : fk (.string sb) with
  | some v =>
    obtain ⟨us', sg', sb', i, e1, hT', rfl, hi, hc, he⟩ := hO _ _ hf
    injection e1 with e1
    subst e1
    obtain ⟨rfl, rfl⟩ := told_eq hT hT'
    have HF := Lib.hid (And.intro hi (And.intro hc he))
    have hff := hf
    clear hf hi hc he
    go_wp2_with (at_lookup; refine look_list rfl _ _ 67 true rfl 9 3 keyedS Tryz.underlying67 (.int .i64 0) (zeroI2 _) kb m fk rfl hM1 (.string sb) rfl hkey ?_; rw [hff]; simp only [if_true, Option.getD_some, Option.isSome_some])
    go_ret
    exact ⟨s, m, i, rfl, KA.ext' hxb, GGo.ext hxb, HF.out.1, HF.out.2.1, HF.out.2.2, by omega, by omega⟩
  | none =>
    have hff := Lib.hid hf
    clear hf
    go_upto_region 4 with (at_lookup; refine look_list rfl _ _ 67 true rfl 9 3 keyedS Tryz.underlying67 (.int .i64 0) (zeroI2 _) kb m fk rfl hM1 (.string sb) rfl hkey ?_; rw [hff.out]; simp only [if_true, Option.getD_none, Option.isSome_none])
    have K1 := KA.ext' hxb
    have hxa : Ext W1 (W1.alloc (.cells #[.slice none 0 0, .slice none 0 0] 101)) := by go_grown
    have hba := heap_alloc_new W1 (.cells #[.slice none 0 0, .slice none 0 0] 101)
    go_upto_region 5 with fail
    have hXb : ∀ b, b = w.heap.size → Aside pp h kb s W1 b := fun b hb => by subst hb; exact KA.aside (Nat.le_refl _) (blk_lt hbx)
    have hgm : GM w (W1.alloc (.cells #[.slice none 0 0, .slice none 0 0] 101)) pp h kb s W1.heap.size (.slice none 0 0) (.slice none 0 0) [] [] (fun b => b = w.heap.size) :=
      ⟨hba, ⟨by simp [toZ], .inl ⟨rfl, rfl⟩⟩, ⟨by simp [toZ], .inl ⟨rfl, rfl⟩⟩, fun b hb => by simp [Value.ownBlock] at hb, fun b hb => by simp [Value.ownBlock] at hb, fun b hb => by simp [Value.ownBlock] at hb, K1.aside (Nat.le_refl _) (by rw [World.size_alloc]; omega), hxb.size, fun b hb => ⟨((hXb b hb).go (GGo.ext hxa)).1, by simp [Value.ownBlock], by simp [Value.ownBlock], by have := (hXb b hb).1; omega⟩⟩
    have K2 := K1.ext' hxa
    have G2 : GGo pp h kb s w s (W1.alloc (.cells #[.slice none 0 0, .slice none 0 0] 101)) := GGo.ext (ext_trans hxb hxa)
    have hbx2 := (hxa.block _ (blk_lt hbx)).trans hbx
    have hkbl := hM.lt
    have HD0 : Hid (Done s.D us sg [] [] 0 0 s.D.length m s.D.length m) := Lib.hid ⟨Kid.nil _ _ _ _, Kid.nil _ _ _ _, rfl, rfl, by simp, by simp⟩
    generalize W1.alloc (.cells #[.slice none 0 0, .slice none 0 0] 101) = W2 at *
    generalize W1.heap.size = ab at *
    clear hba hxa hbx hxb K1 c1 hM1 hXb hM
    have hel := edges_len sg us.length
    go_wp2
    go_loopw [8, 10, 22] (fun _ _ kk wr => ∃ (k : Nat) (s1 : PSt) (m1 : Nat) (v0 v1 : Value) (l0 l1 : List Nat), kk = .int .i64 ((k : Nat) : Int) ∧ k ≤ 2 ∧ KAt w0 wr pp h kb s1 m1 ∧ GGo pp h kb s w s1 wr ∧ GM w wr pp h kb s1 ab v0 v1 l0 l1 (fun b => b = w.heap.size) ∧ wr.heap[w.heap.size]? = some (.cells #[.pointer (some ⟨pp, 0, none⟩), .map (some kb), .func (.func 21) #[] #[]] 69 (0, 0)) ∧ Hid (Done s1.D us sg l0 l1 (if 1 ≤ k then (edges sg true us.length).length else 0) (if 2 ≤ k then (edges sg false us.length).length else 0) s.D.length m s1.D.length m1)) (fun _ _ kk _ => 2 - (intOf kk).toNat)
    case atStart => exact ⟨0, s, m, _, _, [], [], rfl, by omega, K2, G2, hgm, hbx2, HD0⟩
    case round =>
      clear K2 G2 hgm hbx2 HD0
      obtain ⟨k, s1, m1, v0, v1, l0, l1, rfl, hk, KW, hgo, hm, hbox, HD⟩ := hrel
      have c2 := cell_of_row wr w.heap.size 2 _ _ _ hbox
      simp only [List.getElem?_toArray, List.getElem?_cons_succ, List.getElem?_cons_zero] at c2
      have hk3 : k = 0 ∨ k = 1 ∨ k = 2 := by omega
      rcases hk3 with rfl | rfl | rfl
      · have hm0 := hm
        have hzr : w.heap.size ≤ wr.heap.size := hgo.keep.size
        go_wp2_with (go_at_call 21; refine (kids_any sb us sg true hT.1 hT.2 wr (hG.ext KW.ext)).mono ?_; rintro e w3 ⟨vm, ss, rfl, hom, hss, hx3⟩; obtain ⟨am, cm, rfl, -, -⟩ := own_len hom)
        have hsl : ss.length = (edges sg true us.length).length := by have := congrArg List.length hss; simpa using this
        have HSL := Lib.hid hsl
        have K3 := KW.ext' hx3
        have g3 := hm.addX (Y := fun b => b = w.heap.size ∨ (Value.slice am ss.length cm).ownBlock = some b) KW hx3 (fun b hb => by
          rcases hb with e | e
          · exact .inl e
          · exact .inr (hom.lt b e))
        have G3 := hgo.trans (GGo.ext hx3 (s := s1)) hkbl
        have hb3 := (hx3.block _ (blk_lt hbox)).trans hbox
        have hD3 := HD.out
        rw [show (if 1 ≤ 0 then (edges sg true us.length).length else 0) = 0 from by simp, show (if 2 ≤ 0 then (edges sg false us.length).length else 0) = 0 from by simp] at hD3
        have HD3 := Lib.hid hD3
        clear hm hm0 hbox KW hgo HD hD3 c2 hsl
        go_loopw [10, 32] (fun _ jj wr => ∃ (j : Nat) (s2 : PSt) (m2 : Nat) (v : Value) (l : List Nat), jj = .int .i64 ((j : Nat) : Int) ∧ j ≤ ss.length ∧ KAt w0 wr pp h kb s2 m2 ∧ GGo pp h kb s w s2 wr ∧ GM w wr pp h kb s2 ab v v1 l l1 (fun b => b = w.heap.size ∨ (Value.slice am ss.length cm).ownBlock = some b) ∧ wr.heap[w.heap.size]? = some (.cells #[.pointer (some ⟨pp, 0, none⟩), .map (some kb), .func (.func 21) #[] #[]] 69 (0, 0)) ∧ wr.ownsRow w.heap.size 9 1 (.slice am ss.length cm) ss.length (ss.map Value.string) ∧ Hid (Done s2.D us sg l l1 j 0 s.D.length m s2.D.length m2)) (fun _ jj _ => ss.length - (intOf jj).toNat)
        case atStart => exact ⟨0, s1, m1, _, _, rfl, Nat.zero_le _, K3, G3, g3, hb3, own_lower hom hzr, HD3⟩
        case round =>
          clear K3 G3 g3 hb3 HD3 hom
          obtain ⟨j, s2, m2, v, l, rfl, hj, KW, hgo, hm, hbox, hom, HD⟩ := hrel
          by_cases hjl : j < ss.length
          · have h3 : ((j : Nat) : Int) < (ss.length : Int) := by omega
            have hjL : j < (edges sg true us.length).length := by have := HSL.out; omega
            obtain ⟨gm, cm', he, -, -, hcell⟩ := own_at hom (by omega)
            simp only [Value.slice.injEq, true_and] at he
            obtain ⟨rfl, rfl⟩ := he
            have htxt : wr.cell? ⟨gm, j, none⟩ = some (.string ss[j]) := by rw [hcell j (by omega)]; simp [hjl]
            obtain ⟨e, hee, hTe, hlt⟩ := kid_told hT.1 hss hjl
            obtain ⟨av, cv, rfl, -, -⟩ := own_len hm.r0
            obtain ⟨r1, r2, r3, r4⟩ := HD.out.room (e := e) (by omega) hlt hsz hmz
            have hus := hT.1.small
            have hlen : l.length ≤ 100 := by omega
            have HX := Lib.hid (And.intro hee (And.intro hlt (And.intro r1 r2)))
            have b0 := cell_of_row wr w.heap.size 0 _ _ _ hbox
            have b1 := cell_of_row wr w.heap.size 1 _ _ _ hbox
            have b2 := cell_of_row wr w.heap.size 2 _ _ _ hbox
            have ca := cell_of_row wr ab 0 _ _ _ hm.arr
            simp only [List.getElem?_toArray, List.getElem?_cons_succ, List.getElem?_cons_zero] at b0 b1 b2 ca
            have hcall : ∀ W, Ext wr W → Calls Tryz.prog 39 #[.agg #[.pointer (some ⟨pp, 0, none⟩), .map (some kb), .func (.func 21) #[] #[]], .string ss[j]] W (GamePost w0 pp h kb s2 m2 (cutU us sg e) (cutS us sg e) W) := fun W hW => ih w0 pp h kb s2 m2 _ _ _ W (by omega) hTe (KW.ext' hW) hG r1 r2
            clear hcell hee r1 r2 r3 r4 hlt
            go_upto_region 11 with fail
            refine wp_region_L (fun W => W.cell? ⟨ab, 0, none⟩ = some (.slice av l.length cv) ∧ W.cell? ⟨w.heap.size, 0, none⟩ = some (.pointer (some ⟨pp, 0, none⟩)) ∧ W.cell? ⟨w.heap.size, 1, none⟩ = some (.map (some kb)) ∧ W.cell? ⟨w.heap.size, 2, none⟩ = some (.func (.func 21) #[] #[])) [9, 10] rowsGame (by kernel_rfl) ⟨by kernel_rfl, by kernel_rfl, by kernel_rfl⟩ ⟨ca, b0, b1, b2⟩ (fun hTab hHeld => ?_)
            ((refine tkL hTab (i := 0) (v := ?v1) (by simp only [gE]; rfl) hHeld (Or.inl ⟨by rfl, ?hy1⟩) ?r1; case hy1 => (intro w' hSw; (try dsimp only at hSw); go_simp; (try with_reducible rfl))); (try simp only [Act.put, nE]); (refine tkL hTab (i := 1) (v := ?v2) (by simp only [gE]; rfl) hHeld (Or.inl ⟨by rfl, ?hy2⟩) ?r2; case hy2 => (intro w' hSw; (try dsimp only at hSw); go_simp; (try with_reducible rfl))); (try simp only [Act.put, nE]); (refine tkL hTab (i := 2) (v := ?v3) (by simp only [gE]; rfl) hHeld (Or.inl ⟨by rfl, ?hy3⟩) ?r3; case hy3 => (intro w' hSw; (try dsimp only at hSw); go_simp; (try with_reducible rfl))); (try simp only [Act.put, nE]); (refine tkL hTab (i := 3) (v := ?v4) (by simp only [gE]; rfl) hHeld (Or.inl ⟨by rfl, ?hy4⟩) ?r4; case hy4 => (intro w' hSw; (try dsimp only at hSw); go_simp; (try with_reducible rfl))); (try simp only [Act.put, nE]); (refine tkL hTab (i := 4) (v := ?v5) (by simp only [gE]; rfl) hHeld (Or.inl ⟨by rfl, ?hy5⟩) ?r5; case hy5 => (intro w' hSw; (try dsimp only at hSw); go_simp; (try with_reducible rfl))); (try simp only [Act.put, nE]); (refine tkL hTab (i := 5) (v := ?v6) (by simp only [gE]; rfl) hHeld (Or.inl ⟨by rfl, ?hy6⟩) ?r6; case hy6 => (intro w' hSw; (try dsimp only at hSw); go_simp; (try with_reducible rfl))); (try simp only [Act.put, nE]))
            (refine wpAnyL_step hTab (i := 6) (o := _) (by kernel_rfl) (by simp only [gE]; rfl) (fun K hK => ?_); go_simp)
            refine (hcall _ (rd_ext ⟨1, rfl⟩)).mono ?_
            rintro e4 w4 ⟨s4, m4, i, rfl, K4, G4, hi4, hc4, hv4, hs4, hm4⟩
            have hxd : Ext wr (wr.drewN 1) := rd_ext ⟨1, rfl⟩
            obtain ⟨gd, hXd⟩ := hm.go (GGo.ext hxd)
            obtain ⟨g4, hX4⟩ := gd.go G4
            have hbox4 := ((hX4 _ (.inl rfl)).trans (hXd _ (.inl rfl))).trans hbox
            have hom4 := own_blk hom (fun b hb => (hX4 b (.inr hb)).trans (hXd b (.inr hb)))
            have hgo4 := (hgo.trans (GGo.ext hxd (s := s2)) hkbl).trans G4 hkbl
            have d0 := cell_of_row w4 w.heap.size 0 _ _ _ hbox4
            have d1 := cell_of_row w4 w.heap.size 1 _ _ _ hbox4
            have d2 := cell_of_row w4 w.heap.size 2 _ _ _ hbox4
            have da := cell_of_row w4 ab 0 _ _ _ g4.arr
            simp only [List.getElem?_toArray, List.getElem?_cons_succ, List.getElem?_cons_zero] at d0 d1 d2 da
            (refine hK.out _ _ (fun _ => ?_) ?_)
            · exact ⟨da, d0, d1, d2⟩
            clear hK K
            (try simp only [Act.put, nE])
            (refine wpAnyL_step hTab (i := 7) (o := _) (by kernel_rfl) (by simp only [gE]; rfl) (fun K hK => ?_); go_simp)
            (refine hK.out _ _ (fun _ => ?_) ?_)
            · exact ⟨alloc_cell da _, alloc_cell d0 _, alloc_cell d1 _, alloc_cell d2 _⟩
            clear hK K
            (try simp only [Act.put, nE])
            (refine wpAnyL_step hTab (i := 8) (o := _) (by kernel_rfl) (by simp only [gE]; rfl) (fun K hK => ?_))
            refine app_step rfl (.tmp 39) (.tmp 43) 22 rfl w.heap.size 3 i0 (.int .i64 0) 1 8 Tryz.underlying22 hi0 hz0 hz1 hz2 rfl (by decide) (.slice av l.length cv) l.length _ rfl (g4.r0.alloc _) _ 1 _ [.int .i64 ((i : Nat) : Int)] rfl rfl (.inr ⟨_, rfl, one_src (new_cell _ _ _)⟩) one_cell (by unfold maxLen; omega) (by omega) (by rw [World.size_alloc]; have := hgo4.keep.size; omega) ?_
            intro v9 w9 ho9 hg9 hl9
            obtain ⟨x9, y9, rfl, -, -⟩ := own_len ho9
            have hx9 : Ext w4 (w4.alloc (.cells #[.int .i64 ((i : Nat) : Int)] 3)) := ext_alloc (Below.refl _ _) _
            obtain ⟨gp, hkp9, hX9, ca9, cf9⟩ := g4.put0 (i := i) hx9 hx9.size K4 hg9 ho9 (by simp) (by simp [toZ]) hl9
            have hb9 : w9.heap[w.heap.size]? = some (.cells #[.pointer (some ⟨pp, 0, none⟩), .map (some kb), .func (.func 21) #[] #[]] 69 (0, 0)) := ((keep_grownO hg9).block _ (Nat.lt_of_lt_of_le (blk_lt hbox4) hx9.size) (fun e => (g4.prot _ (.inl rfl)).2.1 e)).trans ((hx9.block _ (blk_lt hbox4)).trans hbox4)
            have e0 := cell_of_row w9 w.heap.size 0 _ _ _ hb9
            have e1 := cell_of_row w9 w.heap.size 1 _ _ _ hb9
            have e2 := cell_of_row w9 w.heap.size 2 _ _ _ hb9
            simp only [List.getElem?_toArray, List.getElem?_cons_succ, List.getElem?_cons_zero] at e0 e1 e2
            have HDN : Hid (Done s4.D us sg (l ++ [i]) l1 (j + 1) 0 s.D.length m s4.D.length m4) := Lib.hid (by
              obtain ⟨E, hE⟩ := G4.more
              have hw := K4.pool.good.wf
              rw [hE] at hw hi4 hv4 hs4 ⊢
              exact HD.out.put0 KW.pool.good.wf hw HX.out.1 hi4 hv4 HX.out.2.1 hs4 hm4)
            have K9 := Lib.hid (K4.side hkp9 (fun b hb => by
              rcases hb with e | e
              · exact (g4.a0 b e).1
              · rw [e]; exact g4.aab) (fun b hb => by
              have hz0 := KA.ext.size
              rcases hb with e | e
              · have := (g4.r0.lt b e).1; omega
              · have := g4.abw; omega))
            have G9 := Lib.hid (hgo4.side hkp9 (fun b hb => by
              rcases hb with e | e
              · exact (g4.r0.lt b e).1
              · have := g4.abw; omega))
            have hb10 := (hX9 _ (.inl rfl)).trans hbox4
            have hom10 := own_blk hom4 (fun b hb => hX9 b (.inr hb))
            have GP := Lib.hid gp
            (refine hK.out _ _ (fun _ => ?_) ?_)
            · exact ⟨ca9, e0, e1, e2⟩
            clear hK K
            (try simp only [Act.put, nE])
            refine wpAnyL_tail hTab [9, 10] [?o7_9, ?o7_10] _ _ _ _ (by simp) (by kernel_rfl) (by rfl) (by simp only [List.map_cons, List.map_nil, gE]; rfl) ?_
            clear hTab hHeld da d0 d1 d2 gd g4 gp hkp9 hX9 hXd hX4 hm hgo hgo4 hcall e0 e1 e2 K4 G4 hc4 hv4 hs4 hm4 KW
            go_wp2
            go_roundw
            case rel => exact ⟨j + 1, s4, m4, _, l ++ [i], by go_num, by omega, K9.out, G9.out, GP.out, hb10, hom10, HDN⟩
            case measure => simp [intOf]; omega
          · have h3 : ¬ (((j : Nat) : Int) < (ss.length : Int)) := by omega
            have hje : j = ss.length := by omega
            subst hje
            have hm2 := hm.mono (Y := fun b => b = w.heap.size) (fun b hb => .inl hb)
            clear hm hom
            go_wp2
            go_roundw
            case rel => exact ⟨1, s2, m2, _, _, _, _, rfl, by omega, KW, hgo, hm2, hbox, Lib.hid (by have := HD.out; rw [HSL.out] at this; simpa using this)⟩
            case measure => simp [intOf]
      · have hm1 := hm
        have hzr : w.heap.size ≤ wr.heap.size := hgo.keep.size
        go_wp2_with (go_at_call 21; refine (kids_any sb us sg false hT.1 hT.2 wr (hG.ext KW.ext)).mono ?_; rintro e w3 ⟨vm, ss, rfl, hom, hss, hx3⟩; obtain ⟨am, cm, rfl, -, -⟩ := own_len hom)
        have hsl : ss.length = (edges sg false us.length).length := by have := congrArg List.length hss; simpa using this
        have HSL := Lib.hid hsl
        have K3 := KW.ext' hx3
        have g3 := hm.addX (Y := fun b => b = w.heap.size ∨ (Value.slice am ss.length cm).ownBlock = some b) KW hx3 (fun b hb => by
          rcases hb with e | e
          · exact .inl e
          · exact .inr (hom.lt b e))
        have G3 := hgo.trans (GGo.ext hx3 (s := s1)) hkbl
        have hb3 := (hx3.block _ (blk_lt hbox)).trans hbox
        have hD3 := HD.out
        rw [show (if 1 ≤ 1 then (edges sg true us.length).length else 0) = (edges sg true us.length).length from by simp, show (if 2 ≤ 1 then (edges sg false us.length).length else 0) = 0 from by simp] at hD3
        have HD3 := Lib.hid hD3
        clear hm hm1 hbox KW hgo HD hD3 c2 hsl
        go_loopw [10, 32] (fun _ jj wr => ∃ (j : Nat) (s2 : PSt) (m2 : Nat) (v : Value) (l : List Nat), jj = .int .i64 ((j : Nat) : Int) ∧ j ≤ ss.length ∧ KAt w0 wr pp h kb s2 m2 ∧ GGo pp h kb s w s2 wr ∧ GM w wr pp h kb s2 ab v0 v l0 l (fun b => b = w.heap.size ∨ (Value.slice am ss.length cm).ownBlock = some b) ∧ wr.heap[w.heap.size]? = some (.cells #[.pointer (some ⟨pp, 0, none⟩), .map (some kb), .func (.func 21) #[] #[]] 69 (0, 0)) ∧ wr.ownsRow w.heap.size 9 1 (.slice am ss.length cm) ss.length (ss.map Value.string) ∧ Hid (Done s2.D us sg l0 l (edges sg true us.length).length j s.D.length m s2.D.length m2)) (fun _ jj _ => ss.length - (intOf jj).toNat)
        case atStart => exact ⟨0, s1, m1, _, _, rfl, Nat.zero_le _, K3, G3, g3, hb3, own_lower hom hzr, HD3⟩
        case round =>
          clear K3 G3 g3 hb3 HD3 hom
          obtain ⟨j, s2, m2, v, l, rfl, hj, KW, hgo, hm, hbox, hom, HD⟩ := hrel
          by_cases hjl : j < ss.length
          · have h3 : ((j : Nat) : Int) < (ss.length : Int) := by omega
            have hjL : j < (edges sg false us.length).length := by have := HSL.out; omega
            obtain ⟨gm, cm', he, -, -, hcell⟩ := own_at hom (by omega)
            simp only [Value.slice.injEq, true_and] at he
            obtain ⟨rfl, rfl⟩ := he
            have htxt : wr.cell? ⟨gm, j, none⟩ = some (.string ss[j]) := by rw [hcell j (by omega)]; simp [hjl]
            obtain ⟨e, hee, hTe, hlt⟩ := kid_told hT.1 hss hjl
            obtain ⟨av, cv, rfl, -, -⟩ := own_len hm.r1
            obtain ⟨r1, r2, r3, r4⟩ := HD.out.room (e := e) (by omega) hlt hsz hmz
            have hus := hT.1.small
            have hlen : l.length ≤ 100 := by omega
            have HX := Lib.hid (And.intro hee (And.intro hlt (And.intro r1 r2)))
            have b0 := cell_of_row wr w.heap.size 0 _ _ _ hbox
            have b1 := cell_of_row wr w.heap.size 1 _ _ _ hbox
            have b2 := cell_of_row wr w.heap.size 2 _ _ _ hbox
            have ca := cell_of_row wr ab 1 _ _ _ hm.arr
            simp only [List.getElem?_toArray, List.getElem?_cons_succ, List.getElem?_cons_zero] at b0 b1 b2 ca
            have hcall : ∀ W, Ext wr W → Calls Tryz.prog 39 #[.agg #[.pointer (some ⟨pp, 0, none⟩), .map (some kb), .func (.func 21) #[] #[]], .string ss[j]] W (GamePost w0 pp h kb s2 m2 (cutU us sg e) (cutS us sg e) W) := fun W hW => ih w0 pp h kb s2 m2 _ _ _ W (by omega) hTe (KW.ext' hW) hG r1 r2
            clear hcell hee r1 r2 r3 r4 hlt
            go_upto_region 11 with fail
            refine wp_region_L (fun W => W.cell? ⟨ab, 1, none⟩ = some (.slice av l.length cv) ∧ W.cell? ⟨w.heap.size, 0, none⟩ = some (.pointer (some ⟨pp, 0, none⟩)) ∧ W.cell? ⟨w.heap.size, 1, none⟩ = some (.map (some kb)) ∧ W.cell? ⟨w.heap.size, 2, none⟩ = some (.func (.func 21) #[] #[])) [9, 10] rowsGame (by kernel_rfl) ⟨by kernel_rfl, by kernel_rfl, by kernel_rfl⟩ ⟨ca, b0, b1, b2⟩ (fun hTab hHeld => ?_)
            ((refine tkL hTab (i := 0) (v := ?v8) (by simp only [gE]; rfl) hHeld (Or.inl ⟨by rfl, ?hy8⟩) ?r8; case hy8 => (intro w' hSw; (try dsimp only at hSw); go_simp; (try with_reducible rfl))); (try simp only [Act.put, nE]); (refine tkL hTab (i := 1) (v := ?v9) (by simp only [gE]; rfl) hHeld (Or.inl ⟨by rfl, ?hy9⟩) ?r9; case hy9 => (intro w' hSw; (try dsimp only at hSw); go_simp; (try with_reducible rfl))); (try simp only [Act.put, nE]); (refine tkL hTab (i := 2) (v := ?v10) (by simp only [gE]; rfl) hHeld (Or.inl ⟨by rfl, ?hy10⟩) ?r10; case hy10 => (intro w' hSw; (try dsimp only at hSw); go_simp; (try with_reducible rfl))); (try simp only [Act.put, nE]); (refine tkL hTab (i := 3) (v := ?v11) (by simp only [gE]; rfl) hHeld (Or.inl ⟨by rfl, ?hy11⟩) ?r11; case hy11 => (intro w' hSw; (try dsimp only at hSw); go_simp; (try with_reducible rfl))); (try simp only [Act.put, nE]); (refine tkL hTab (i := 4) (v := ?v12) (by simp only [gE]; rfl) hHeld (Or.inl ⟨by rfl, ?hy12⟩) ?r12; case hy12 => (intro w' hSw; (try dsimp only at hSw); go_simp; (try with_reducible rfl))); (try simp only [Act.put, nE]); (refine tkL hTab (i := 5) (v := ?v13) (by simp only [gE]; rfl) hHeld (Or.inl ⟨by rfl, ?hy13⟩) ?r13; case hy13 => (intro w' hSw; (try dsimp only at hSw); go_simp; (try with_reducible rfl))); (try simp only [Act.put, nE]))
            (refine wpAnyL_step hTab (i := 6) (o := _) (by kernel_rfl) (by simp only [gE]; rfl) (fun K hK => ?_); go_simp)
            refine (hcall _ (rd_ext ⟨1, rfl⟩)).mono ?_
            rintro e4 w4 ⟨s4, m4, i, rfl, K4, G4, hi4, hc4, hv4, hs4, hm4⟩
            have hxd : Ext wr (wr.drewN 1) := rd_ext ⟨1, rfl⟩
            obtain ⟨gd, hXd⟩ := hm.go (GGo.ext hxd)
            obtain ⟨g4, hX4⟩ := gd.go G4
            have hbox4 := ((hX4 _ (.inl rfl)).trans (hXd _ (.inl rfl))).trans hbox
            have hom4 := own_blk hom (fun b hb => (hX4 b (.inr hb)).trans (hXd b (.inr hb)))
            have hgo4 := (hgo.trans (GGo.ext hxd (s := s2)) hkbl).trans G4 hkbl
            have d0 := cell_of_row w4 w.heap.size 0 _ _ _ hbox4
            have d1 := cell_of_row w4 w.heap.size 1 _ _ _ hbox4
            have d2 := cell_of_row w4 w.heap.size 2 _ _ _ hbox4
            have da := cell_of_row w4 ab 1 _ _ _ g4.arr
            simp only [List.getElem?_toArray, List.getElem?_cons_succ, List.getElem?_cons_zero] at d0 d1 d2 da
            (refine hK.out _ _ (fun _ => ?_) ?_)
            · exact ⟨da, d0, d1, d2⟩
            clear hK K
            (try simp only [Act.put, nE])
            (refine wpAnyL_step hTab (i := 7) (o := _) (by kernel_rfl) (by simp only [gE]; rfl) (fun K hK => ?_); go_simp)
            (refine hK.out _ _ (fun _ => ?_) ?_)
            · exact ⟨alloc_cell da _, alloc_cell d0 _, alloc_cell d1 _, alloc_cell d2 _⟩
            clear hK K
            (try simp only [Act.put, nE])
            (refine wpAnyL_step hTab (i := 8) (o := _) (by kernel_rfl) (by simp only [gE]; rfl) (fun K hK => ?_))
            refine app_step rfl (.tmp 39) (.tmp 43) 22 rfl w.heap.size 3 i0 (.int .i64 0) 1 8 Tryz.underlying22 hi0 hz0 hz1 hz2 rfl (by decide) (.slice av l.length cv) l.length _ rfl (g4.r1.alloc _) _ 1 _ [.int .i64 ((i : Nat) : Int)] rfl rfl (.inr ⟨_, rfl, one_src (new_cell _ _ _)⟩) one_cell (by unfold maxLen; omega) (by omega) (by rw [World.size_alloc]; have := hgo4.keep.size; omega) ?_
            intro v9 w9 ho9 hg9 hl9
            obtain ⟨x9, y9, rfl, -, -⟩ := own_len ho9
            have hx9 : Ext w4 (w4.alloc (.cells #[.int .i64 ((i : Nat) : Int)] 3)) := ext_alloc (Below.refl _ _) _
            obtain ⟨gp, hkp9, hX9, ca9, cf9⟩ := g4.put1 (i := i) hx9 hx9.size K4 hg9 ho9 (by simp) (by simp [toZ]) hl9
            have hb9 : w9.heap[w.heap.size]? = some (.cells #[.pointer (some ⟨pp, 0, none⟩), .map (some kb), .func (.func 21) #[] #[]] 69 (0, 0)) := ((keep_grownO hg9).block _ (Nat.lt_of_lt_of_le (blk_lt hbox4) hx9.size) (fun e => (g4.prot _ (.inl rfl)).2.2.1 e)).trans ((hx9.block _ (blk_lt hbox4)).trans hbox4)
            have e0 := cell_of_row w9 w.heap.size 0 _ _ _ hb9
            have e1 := cell_of_row w9 w.heap.size 1 _ _ _ hb9
            have e2 := cell_of_row w9 w.heap.size 2 _ _ _ hb9
            simp only [List.getElem?_toArray, List.getElem?_cons_succ, List.getElem?_cons_zero] at e0 e1 e2
            have HDN : Hid (Done s4.D us sg l0 (l ++ [i]) (edges sg true us.length).length (j + 1) s.D.length m s4.D.length m4) := Lib.hid (by
              obtain ⟨E, hE⟩ := G4.more
              have hw := K4.pool.good.wf
              rw [hE] at hw hi4 hv4 hs4 ⊢
              exact HD.out.put1 KW.pool.good.wf hw HX.out.1 hi4 hv4 HX.out.2.1 hs4 hm4)
            have K9 := Lib.hid (K4.side hkp9 (fun b hb => by
              rcases hb with e | e
              · exact (g4.a1 b e).1
              · rw [e]; exact g4.aab) (fun b hb => by
              have hz0 := KA.ext.size
              rcases hb with e | e
              · have := (g4.r1.lt b e).1; omega
              · have := g4.abw; omega))
            have G9 := Lib.hid (hgo4.side hkp9 (fun b hb => by
              rcases hb with e | e
              · exact (g4.r1.lt b e).1
              · have := g4.abw; omega))
            have hb10 := (hX9 _ (.inl rfl)).trans hbox4
            have hom10 := own_blk hom4 (fun b hb => hX9 b (.inr hb))
            have GP := Lib.hid gp
            (refine hK.out _ _ (fun _ => ?_) ?_)
            · exact ⟨ca9, e0, e1, e2⟩
            clear hK K
            (try simp only [Act.put, nE])
            refine wpAnyL_tail hTab [9, 10] [?o14_9, ?o14_10] _ _ _ _ (by simp) (by kernel_rfl) (by rfl) (by simp only [List.map_cons, List.map_nil, gE]; rfl) ?_
            clear hTab hHeld da d0 d1 d2 gd g4 gp hkp9 hX9 hXd hX4 hm hgo hgo4 hcall e0 e1 e2 K4 G4 hc4 hv4 hs4 hm4 KW
            go_wp2
            go_roundw
            case rel => exact ⟨j + 1, s4, m4, _, l ++ [i], by go_num, by omega, K9.out, G9.out, GP.out, hb10, hom10, HDN⟩
            case measure => simp [intOf]; omega
          · have h3 : ¬ (((j : Nat) : Int) < (ss.length : Int)) := by omega
            have hje : j = ss.length := by omega
            subst hje
            have hm2 := hm.mono (Y := fun b => b = w.heap.size) (fun b hb => .inl hb)
            clear hm hom
            go_wp2
            go_roundw
            case rel => exact ⟨2, s2, m2, _, _, _, _, rfl, by omega, KW, hgo, hm2, hbox, Lib.hid (by have := HD.out; rw [HSL.out] at this; simpa using this)⟩
            case measure => simp [intOf]
      · have hD3 := HD.out
        rw [show (if 1 ≤ 2 then (edges sg true us.length).length else 0) = (edges sg true us.length).length from by simp, show (if 2 ≤ 2 then (edges sg false us.length).length else 0) = (edges sg false us.length).length from by simp] at hD3
        have hus := hT.1.small
        have hn0 := hD3.nl
        have hn1 := hD3.nr
        have hre := room_end (c := l0.length + l1.length) (n := us.length) (by omega)
        have hsd := hD3.sd
        have hsm := hD3.sm
        have hS1 : s1.D.length + 2 ≤ s.D.length + 2 * kN us.length ∧ m1 + 1 ≤ m + kN us.length := by
          generalize (l0.length + l1.length) * kN (us.length - 1) = X at *
          omega
        have HS1 := Lib.hid hS1
        have hroom1 : s1.D.length + 1 ≤ 900000 := by omega
        have hm1 : m1 < maxLen := by unfold maxLen; omega
        have hnode : ∀ W, Ext wr W → Calls Tryz.prog 59 #[.pointer (some ⟨pp, 0, none⟩), v0, v1] W (PNodePost pp h s1 l0 l1 W) := fun W hW => node_any pp h s1 v0 v1 l0 l1 W (KW.pool.ext hW) hroom1 hD3.kl.lt hD3.kr.lt (by omega) (by omega) (Ints.of_own (own_keep hm.r0 hW) (by rw [toZ_len]; omega)) (Ints.of_own (own_keep hm.r1 hW) (by rw [toZ_len]; omega))
        obtain ⟨x0, y0, rfl, -, -⟩ := own_len hm.r0
        obtain ⟨x1, y1, rfl, -, -⟩ := own_len hm.r1
        have HD3 := Lib.hid hD3
        have b0 := cell_of_row wr w.heap.size 0 _ _ _ hbox
        have ca0 := cell_of_row wr ab 0 _ _ _ hm.arr
        have ca1 := cell_of_row wr ab 1 _ _ _ hm.arr
        simp only [List.getElem?_toArray, List.getElem?_cons_succ, List.getElem?_cons_zero] at b0 ca0 ca1
        clear hD3 HD hn0 hn1 hre hsd hsm hel hS1
        go_upto_region 14 with fail
        refine wp_region_L (fun W => W.cell? ⟨w.heap.size, 0, none⟩ = some (.pointer (some ⟨pp, 0, none⟩)) ∧ W.cell? ⟨ab, 0, none⟩ = some (.slice x0 l0.length y0) ∧ W.cell? ⟨ab, 1, none⟩ = some (.slice x1 l1.length y1)) [10] rowsGame14 (by kernel_rfl) ⟨by kernel_rfl, by kernel_rfl, by kernel_rfl⟩ ⟨b0, ca0, ca1⟩ (fun hTab hHeld => ?_)
        ((refine tkL hTab (i := 0) (v := ?v15) (by simp only [gE]; rfl) hHeld (Or.inl ⟨by rfl, ?hy15⟩) ?r15; case hy15 => (intro w' hSw; (try dsimp only at hSw); go_simp; (try with_reducible rfl))); (try simp only [Act.put, nE]); (refine tkL hTab (i := 1) (v := ?v16) (by simp only [gE]; rfl) hHeld (Or.inl ⟨by rfl, ?hy16⟩) ?r16; case hy16 => (intro w' hSw; (try dsimp only at hSw); go_simp; (try with_reducible rfl))); (try simp only [Act.put, nE]); (refine tkL hTab (i := 2) (v := ?v17) (by simp only [gE]; rfl) hHeld (Or.inl ⟨by rfl, ?hy17⟩) ?r17; case hy17 => (intro w' hSw; (try dsimp only at hSw); go_simp; (try with_reducible rfl))); (try simp only [Act.put, nE]); (refine tkL hTab (i := 3) (v := ?v18) (by simp only [gE]; rfl) hHeld (Or.inl ⟨by rfl, ?hy18⟩) ?r18; case hy18 => (intro w' hSw; (try dsimp only at hSw); go_simp; (try with_reducible rfl))); (try simp only [Act.put, nE]); (refine tkL hTab (i := 4) (v := ?v19) (by simp only [gE]; rfl) hHeld (Or.inl ⟨by rfl, ?hy19⟩) ?r19; case hy19 => (intro w' hSw; (try dsimp only at hSw); go_simp; (try with_reducible rfl))); (try simp only [Act.put, nE]); (refine tkL hTab (i := 5) (v := ?v20) (by simp only [gE]; rfl) hHeld (Or.inl ⟨by rfl, ?hy20⟩) ?r20; case hy20 => (intro w' hSw; (try dsimp only at hSw); go_simp; (try with_reducible rfl))); (try simp only [Act.put, nE]); (refine tkL hTab (i := 6) (v := ?v21) (by simp only [gE]; rfl) hHeld (Or.inl ⟨by rfl, ?hy21⟩) ?r21; case hy21 => (intro w' hSw; (try dsimp only at hSw); go_simp; (try with_reducible rfl))); (try simp only [Act.put, nE]); (refine tkL hTab (i := 7) (v := ?v22) (by simp only [gE]; rfl) hHeld (Or.inl ⟨by rfl, ?hy22⟩) ?r22; case hy22 => (intro w' hSw; (try dsimp only at hSw); go_simp; (try with_reducible rfl))); (try simp only [Act.put, nE]))
        (refine wpAnyL_step hTab (i := 8) (o := _) (by kernel_rfl) (by simp only [gE]; rfl) (fun K hK => ?_); go_simp)
        refine (hnode _ (rd_ext ⟨1, rfl⟩)).mono ?_
        rintro e5 w5 ⟨s5, f, rfl, k5, p5, c5⟩
        have hxd : Ext wr (wr.drewN 1) := rd_ext ⟨1, rfl⟩
        obtain ⟨gd, hXd⟩ := hm.go (GGo.ext hxd)
        obtain ⟨g5, hX5⟩ := gd.go (GGo.pool (kb := kb) k5)
        have hbox5 := ((hX5 _ rfl).trans (hXd _ rfl)).trans hbox
        have d0 := cell_of_row w5 w.heap.size 0 _ _ _ hbox5
        have da0 := cell_of_row w5 ab 0 _ _ _ g5.arr
        have da1 := cell_of_row w5 ab 1 _ _ _ g5.arr
        simp only [List.getElem?_toArray, List.getElem?_cons_succ, List.getElem?_cons_zero] at d0 da0 da1
        (refine hK.out _ _ (fun _ => ?_) ?_)
        · exact ⟨d0, da0, da1⟩
        clear hK K
        (try simp only [Act.put, nE])
        have hf5 : f < s5.D.length := p5.lt
        have hroom5 : s5.D.length + miss (f + 1) s5.cn ≤ 900000 := by
          have h2 : s5.D.length ≤ s1.D.length + 1 := by
            rcases p5.2 with e | e
            · rw [e]; omega
            · rw [e]; simp
          have h1 : miss (f + 1) s5.cn ≤ 1 := miss_one (f := f) fun x hx hxf => by
            rw [c5]
            exact KW.all x (by omega)
          have := HS1.out
          omega
        (refine wpAnyL_step hTab (i := 9) (o := _) (by kernel_rfl) (by simp only [gE]; rfl) (fun K hK => ?_); go_simp)
        refine (pcanon_any pp h s5 f w5 k5.pool hf5 hroom5).mono ?_
        rintro e6 w6 ⟨s6, j, rfl, k6, hcn6, hG6⟩
        obtain ⟨g6, hX6⟩ := g5.go (GGo.pool (kb := kb) k6)
        have hbox6 := (hX6 _ rfl).trans hbox5
        have q0 := cell_of_row w6 w.heap.size 0 _ _ _ hbox6
        have q1 := cell_of_row w6 w.heap.size 1 _ _ _ hbox6
        have qa0 := cell_of_row w6 ab 0 _ _ _ g6.arr
        have qa1 := cell_of_row w6 ab 1 _ _ _ g6.arr
        simp only [List.getElem?_toArray, List.getElem?_cons_succ, List.getElem?_cons_zero] at q0 q1 qa0 qa1
        (refine hK.out _ _ (fun _ => ?_) ?_)
        · exact ⟨q0, qa0, qa1⟩
        clear hK K
        (try simp only [Act.put, nE])
        refine wpAnyL_tail hTab [10] [?o23_10] _ _ _ _ (by simp) (by kernel_rfl) (by rfl) (by simp only [List.map_cons, List.map_nil, gE]; rfl) ?_
        obtain ⟨K6, G6, s61, s62, s63, s64⟩ := step_done (KW.ext' hxd) k5 p5 c5 k6 hcn6 hG6
        have hev := s64.trans (kid_node hT.1 KW.pool.good.wf k5.pool.good.wf HD3.out.kl HD3.out.kr HD3.out.nl HD3.out.nr p5)
        obtain ⟨fk6, hM6, hO6⟩ := id K6.kn
        have HF := Lib.hid (And.intro s61 (And.intro s62 (And.intro s63 hev)))
        clear hTab hHeld d0 da0 da1 q0 qa0 qa1 b0 ca0 ca1 hnode gd g5 g6 hXd hX5 hX6 hm s61 s62 s63 s64 hev hbox hbox5 hroom5 hroom1
        go_wp2_with (at_mapUpdate; refine store_list rfl _ _ _ 67 rfl 9 3 keyedS Tryz.underlying67 kb m1 fk6 rfl hM6 hm1 (.string sb) (.int .i64 ((j : Nat) : Int)) rfl rfl hkey ?_; intro w7 hM7 hg7)
        go_ret
        exact ⟨s6, m1 + 1, j, rfl, K6.learn hM7 hg7 (hO6.add hT HF.out.2.1 HF.out.2.2.1 HF.out.2.2.2), ((hgo.trans (GGo.ext hxd (s := s1)) hkbl).trans G6 hkbl).learn hg7, HF.out.2.1, HF.out.2.2.1, HF.out.2.2.2, by have := HF.out.1; have := HS1.out; omega, by have := HS1.out; omega⟩

end Go.Proofs.YtjkdanmpihildaaGreatDoor
