/-
  The walk of FnExactDominoValue, given the contract of the program's DominoValue. (3 texts.)
-/
import Derived.Test.YteknjeohbcgpdaaGreatDoorY1
import Derived.Test.YteknjeohbcgpdaaGreatDoorY3
import Derived.Test.YteknjeohbcgpdaaGreatDoorY14
import Derived.Test.YteknjeohbcgpdaaGreatDoorY23
import Derived.Test.YteknjeohbcgpdaaGreatDoorY25
import Derived.Test.YteknjeohbcgpdaaGreatDoorY26
import Derived.Test.YteknjeohbcgpdaaGreatDoorY51
import Derived.Laws.EntriesVeiled
import Derived.Lib.SlicesS
import Derived.Laws.Concat
import Derived.Laws.IdiomStrings
set_option maxRecDepth 100000
namespace Go.Proofs.YteknjeohbcgpdaaGreatDoor
section
open Go.RowKit
open Cgt (Dag Nd vl Gm Canon Eqv IsForm topOf Same)

theorem gameOk {V : Sv} (hV : V.Ok) : ∀ n, GameOk V n := by
  intro n
  induction n with
  | zero => intro w0 pp h kb s fk n g sb w hn; omega
  | succ n ih => exact game_step hV ih
theorem game_any {V : Sv} (hV : V.Ok) (w0 : World) (pp h kb : Nat) (s : PSt) (fk : Value → Option Value) (n : Nat) (g : Gm) (sb : ByteArray) (w : World) (hT : V.T n g sb) (K : KAt V 0 w0 w pp h kb s fk) (hG : V.G w0) :
    Calls Tryz.prog 86 #[.agg #[.pointer (some ⟨pp, 0, none⟩), .map (some kb), .func (.func V.fn) #[] #[]], .string sb] w (GamePost V w0 pp h kb s fk n g w) :=
  gameOk hV (n + 1) w0 pp h kb s fk n g sb w (by omega) hT K hG

def SolvedPost (g : Gm) (w : World) (e : Ending) (w' : World) : Prop :=
  ∃ F vN Fr ok sl, e = .returned (.tuple #[.agg #[vN], .bool ok]) ∧ FormOf F g ∧ ok = fitsN F ∧ Fr = (if ok then F else []) ∧ FO w' w.heap.size vN Fr.length sl (lsOf Fr) ∧ Ext w w'

def rowsSolved : List Row := [⟨0, [], 12, [6]⟩, ⟨1, [0], 13, [11]⟩, ⟨2, [], 14, [6]⟩, ⟨3, [], 15, [0]⟩, ⟨4, [2, 3], 16, [13, 14]⟩, ⟨5, [1, 4, 4], 17, [12, 15]⟩, ⟨6, [5], 18, [16]⟩, ⟨7, [5], 19, [16]⟩, ⟨8, [6, 5, 0, 1, 2, 3, 4, 5, 6, 7], 0, [4, 17]⟩, ⟨9, [7, 8, 0, 1, 2, 3, 4, 5, 6, 7, 8], 6, [18]⟩]

def pst0 : PSt := ⟨.slice none 0 0, .slice none 0 0, .slice none 0 0, [], fun _ => False, fun _ => none⟩

set_option maxHeartbeats 4000000 in
theorem solved_any {V : Sv} (hV : V.Ok) (n : Nat) (g : Gm) (sb : ByteArray) (w : World) (hT : V.T n g sb) (hG : V.G w) :
    Calls Tryz.prog 44 #[.string sb, .func (.func V.fn) #[] #[]] w (SolvedPost g w) := by
  have hb1 : (w.alloc (.cells #[.slice none 0 0] 28)).heap[w.heap.size]? = some (.cells #[.slice none 0 0] 28 (0, 0)) := heap_alloc_new _ _
  have hx1 : Ext w (w.alloc (.cells #[.slice none 0 0] 28)) := by go_grown
  have hmm := fun w : World => run_makeMap_plain (P := Tryz.prog) (w := w) 113
  go_enter Tryz.func44, Tryz.ntmps44
  go_upto_region 1 with fail
  generalize w.alloc (.cells #[.slice none 0 0] 28) = W1 at *
  generalize hf1 : w.heap.size = f1 at *
  have hf1W : f1 < W1.heap.size := blk_lt hb1
  go_upto_region 2 with (go_at_call 68; refine (newPool_any W1).mono ?_; rintro e w2 ⟨h, hh, rfl, hp2, hmaps, hz2, hx2⟩)
  subst hh
  have hx3 : Ext w2 (w2.alloc (.map #[] 0)) := ext_alloc (Below.refl _ _) _
  have hkbB : (w2.alloc (.map #[] 0)).heap[W1.heap.size + 6]? = some (.map #[] 0) := by rw [← hz2]; exact heap_alloc_new _ _
  have hz3 : (w2.alloc (.map #[] 0)).heap.size = W1.heap.size + 6 + 1 := by rw [World.size_alloc, hz2]
  have hpool := (PoolAt.empty hp2 hmaps).ext hx3
  have hE3 := ext_trans hx2 hx3
  generalize w2.alloc (.map #[] 0) = W3 at *
  have K3 : KAt V 0 W1 W3 (W1.heap.size + 1 + 1 + 1 + 1 + 1) W1.heap.size (W1.heap.size + 6) pst0 (fun _ => none) := by
    have hp : ∀ b, POwn (W1.heap.size + 1 + 1 + 1 + 1 + 1) W1.heap.size pst0 b → W1.heap.size ≤ b ∧ b ≤ W1.heap.size + 5 := by
      intro b hb
      rcases hb with h | h | h | h | h
      · omega
      · omega
      · simp [pst0, Value.ownBlock] at h
      · simp [pst0, Value.ownBlock] at h
      · simp [pst0, Value.ownBlock] at h
    exact ⟨hpool, fun x hx => absurd hx (by simp [pst0]), (MapIs.made _ _ hkbB).mono (Nat.zero_le _), fun _ _ h => (by cases h), Nat.zero_le _, fun h => by have := (hp _ h).2; omega, fun h => h.elim, by omega, fun b hb => (hp b hb).1, hE3⟩
  have hx4 : Ext W3 (W3.alloc (.cells #[.pointer (some ⟨W1.heap.size + 1 + 1 + 1 + 1 + 1, 0, none⟩), .map (some (W1.heap.size + 6)), .func (.func V.fn) #[] #[]] 115)) := ext_alloc (Below.refl _ _) _
  have hb4 : (W3.alloc (.cells #[.pointer (some ⟨W1.heap.size + 1 + 1 + 1 + 1 + 1, 0, none⟩), .map (some (W1.heap.size + 6)), .func (.func V.fn) #[] #[]] 115)).heap[W1.heap.size + 6 + 1]? = some (.cells #[.pointer (some ⟨W1.heap.size + 1 + 1 + 1 + 1 + 1, 0, none⟩), .map (some (W1.heap.size + 6)), .func (.func V.fn) #[] #[]] 115 (0, 0)) := by rw [← hz3]; exact heap_alloc_new _ _
  have hK4 := K3.ext' hx4
  have hax := K3.aside (b := W1.heap.size + 6 + 1) (by omega) (blk_lt hb4)
  have hG1 := hV.gext hG hx1
  generalize W3.alloc (.cells #[.pointer (some ⟨W1.heap.size + 1 + 1 + 1 + 1 + 1, 0, none⟩), .map (some (W1.heap.size + 6)), .func (.func V.fn) #[] #[]] 115) = W4 at *
  generalize W1.heap.size + 6 + 1 = px at *
  generalize W1.heap.size + 6 = kb at *
  obtain ⟨h, hh⟩ : ∃ h, h = W1.heap.size := ⟨_, rfl⟩
  rw [← hh] at hK4 hax hb4 hf1W ⊢
  generalize h + 1 + 1 + 1 + 1 + 1 = pp at *
  clear hp2 hmaps hz2 hz3 K3 hpool hkbB hx3 hx4 hE3 hx2 hmm
  have b0 := cell_of_row W4 px 0 _ _ _ hb4
  have b1 := cell_of_row W4 px 1 _ _ _ hb4
  have b2 := cell_of_row W4 px 2 _ _ _ hb4
  simp only [List.getElem?_toArray, List.getElem?_cons_succ, List.getElem?_cons_zero] at b0 b1 b2
  have hcall : ∀ W, Ext W4 W → Calls Tryz.prog 86 #[.agg #[.pointer (some ⟨pp, 0, none⟩), .map (some kb), .func (.func V.fn) #[] #[]], .string sb] W (GamePost V W1 pp h kb pst0 (fun _ => none) n g W) := fun W hW => game_any hV W1 pp h kb pst0 (fun _ => none) n g sb W hT (hK4.ext' hW) hG1
  refine wp_region_L (fun W => W.cell? ⟨px, 0, none⟩ = some (.pointer (some ⟨pp, 0, none⟩)) ∧ W.cell? ⟨px, 1, none⟩ = some (.map (some kb)) ∧ W.cell? ⟨px, 2, none⟩ = some (.func (.func V.fn) #[] #[])) [8, 9] rowsSolved (by kernel_rfl) ⟨by kernel_rfl, by kernel_rfl, by kernel_rfl⟩ ⟨b0, b1, b2⟩ (fun hTab hHeld => ?_)
  ((refine tkB hTab (i := 0) hHeld ?_); (try simp only [nP]); (refine tkB hTab (i := 1) hHeld ?_); (try simp only [nP]); (refine tkB hTab (i := 2) hHeld ?_); (try simp only [nP]); (refine tkB hTab (i := 3) hHeld ?_); (try simp only [nP]))
  (refine stB hTab (i := 4) fun K hK => ?_; go_simp)
  refine (hcall _ (rd_ext ⟨1, rfl⟩)).mono ?_
  rintro e5 w5 ⟨s5, fk5, i, rfl, K5, G5, -, hi5, hc5, he5⟩
  have hxd : Ext W4 (W4.drewN 1) := rd_ext ⟨1, rfl⟩
  have hb5 := ((((hax.go (GGo.ext hxd)).1).go G5).2.trans (hax.go (GGo.ext hxd)).2).trans hb4
  have d0 := cell_of_row w5 px 0 _ _ _ hb5
  have d1 := cell_of_row w5 px 1 _ _ _ hb5
  have d2 := cell_of_row w5 px 2 _ _ _ hb5
  simp only [List.getElem?_toArray, List.getElem?_cons_succ, List.getElem?_cons_zero] at d0 d1 d2
  (refine hK.out _ _ (fun _ => ?_) ?_)
  · exact ⟨d0, d1, d2⟩
  clear hK K
  (try simp only [nP])
  (refine stB hTab (i := 5) fun K hK => ?_; go_simp)
  refine (pform_any pp h s5 i w5 K5.pool hi5).mono ?_
  rintro e6 w6 ⟨F, vN, Fr, ok, sl, rfl, hF1, hF2, hok, hFr, hFO, hx6⟩
  obtain ⟨aN, cN, rfl⟩ := hFO.top
  have HOK := Lib.hid (And.intro hok hFr)
  clear hok hFr
  have hS6 : w6.cell? ⟨px, 0, none⟩ = some (.pointer (some ⟨pp, 0, none⟩)) ∧ w6.cell? ⟨px, 1, none⟩ = some (.map (some kb)) ∧ w6.cell? ⟨px, 2, none⟩ = some (.func (.func V.fn) #[] #[]) := ⟨(hx6.cell (lt_of_cell d0)).trans d0, (hx6.cell (lt_of_cell d1)).trans d1, (hx6.cell (lt_of_cell d2)).trans d2⟩
  (refine hK.out _ _ (fun _ => ?_) ?_)
  · exact hS6
  clear hK K
  (try simp only [nP])
  clear hHeld
  have hHeld := hS6
  ((refine tkB hTab (i := 6) hHeld ?_); (try simp only [nP]); (refine tkB hTab (i := 7) hHeld ?_); (try simp only [nP]))
  refine tlB hTab [8, 9] [_, _] ?_
  have hE6 := ext_trans K5.ext hx6
  have hbf := (hE6.block f1 (by omega)).trans hb1
  have hsz5 := K5.ext.size
  have c0 := cell_of_row w6 f1 0 _ _ _ hbf
  have q0 := frozen_of_row w6 f1 0 _ _ hbf
  have HW := Lib.hid (heap_setCell_same w6 f1 0 _ _ (.slice aN Fr.length cN) hbf)
  have HEr := Lib.hid ((ext_trans hx1 hE6).setCell (p := ⟨f1, 0, none⟩) (by show w.heap.size ≤ f1; omega) (.slice aN Fr.length cN))
  have HFO := Lib.hid ((hFO.keepG (keep_set (p := ⟨f1, 0, none⟩) (v := .slice aN Fr.length cN)) (fun b hb => by subst hb; omega)).lower (show f1 ≤ w5.heap.size by omega))
  have HV := Lib.hid (show FormOf F g from ⟨hF1, _, hF2, hc5, he5⟩)
  clear hTab hHeld d0 d1 d2 b0 b1 b2 hS6 hFO hF1 hF2 hc5 he5 hcall hb5 hax K5 G5 hK4
  go_wp2
  (try simp only [Exit.inBlock, Exit.then])
  refine bodyPost_ret (results_row_tmp rfl _ _ f1 28 #[.slice aN Fr.length cN] (0, 0) _ rfl HW.out Tryz.underlying28 rfl (by kernel_rfl) rfl) rfl ?_
  exact ⟨F, _, Fr, ok, sl, rfl, HV.out, HOK.out.1, HOK.out.2, by rw [hf1]; exact HFO.out, HEr.out⟩
end
section
open Go.RowKit
open Cgt (Dag Nd vl Gm Canon Eqv IsForm topOf Same Brd GB goodB txtB fr gB cntB mAll plc vary Marks)

theorem entersBM (args : Array Value) (w : World) : (callFunc 45 args).run Tryz.prog w = .ok (.enter 45 args) w := by kernel_rfl

def brdV (b0 : Brd) (hh ww : Nat) : Sv where
  fn := 45
  T := fun n g sb => ∃ b, GB b hh ww ∧ bdr sb = txtB b ∧ txtB b ∈ vary (txtB b0) ∧ n = cntB b ∧ g = gB (fr b)
  U := (vary (txtB b0)).map fun l => ⟨l.toArray⟩
  G := fun w => ∃ m, w.cell? ⟨0, 0, none⟩ = some (.int .i64 m)
theorem mk_bdr (s : ByteArray) : (⟨(bdr s).toArray⟩ : ByteArray) = s := by unfold bdr; cases s; simp
theorem mAll_marks {b : Brd} {hh ww : Nat} (g : GB b hh ww) {left : Bool} {y : Brd} (hy : y ∈ mAll left b ww hh) : Marks (txtB b) (txtB y) := by
  obtain ⟨r, c, _, rfl⟩ := (Cgt.mem_mAll g).1 hy
  exact Cgt.plc_marks g left r c
theorem brdV_ok {b0 : Brd} {hh ww : Nat} (h9 : cntB b0 ≤ 9) : (brdV b0 hh ww).Ok where
  room := by
    show ((vary (txtB b0)).map fun l => (⟨l.toArray⟩ : ByteArray)).length ≤ 400000
    rw [List.length_map, Cgt.vary_len, Cgt.txtB_count]
    have : 2 ^ cntB b0 ≤ 2 ^ 9 := Nat.pow_le_pow_right (by omega) h9
    omega
  mem := by
    rintro n g sb ⟨b, _, hb, hv, _, _⟩
    exact List.mem_map.2 ⟨txtB b, hv, by rw [← hb]; exact mk_bdr sb⟩
  one := by
    rintro n g sb n' g' ⟨b, k, hb, _, rfl, rfl⟩ ⟨b', k', hb', _, rfl, rfl⟩
    have : b = b' := k.inj k' (hb.symm.trans hb')
    subst this; exact ⟨rfl, Eqv.refl _⟩
  size := by
    rintro n g sb ⟨b, k, hb, _, _, _⟩
    have := txtB_len (b := b) fun r hr => by have := (k.row r hr).1; have := k.w1; omega
    have h1 := k.h1
    have h2 := k.hgt
    rw [← hb, bdr_len] at this
    unfold maxLen; omega
  gext := by
    rintro w w' ⟨m, h⟩ hx
    exact ⟨m, (hx.cell (lt_of_cell h)).trans h⟩
  ent := entersBM
  moves := by
    rintro n g sb left w ⟨b, k, hb, hv, rfl, rfl⟩ ⟨m, hm⟩
    refine (bMoves_any sb b hh ww left m w k hb hm).mono ?_
    rintro e w' ⟨v, ss, rfl, ho, hss, hx⟩
    have hl : ss.length = (mAll left b ww hh).length := by have := congrArg List.length hss; simpa using this
    have hT : ∀ j (h : j < ss.length) (h' : j < (mAll left b ww hh).length), (brdV b0 hh ww).T (cntB (mAll left b ww hh)[j]) (gB (fr (mAll left b ww hh)[j])) ss[j] := fun j h h' => by
      refine ⟨(mAll left b ww hh)[j], mAll_gb k (List.getElem_mem h'), ?_, Cgt.vary_step hv (mAll_marks k (List.getElem_mem h')), rfl, rfl⟩
      have e1 : (ss.map bdr)[j]? = ((mAll left b ww hh).map txtB)[j]? := by rw [hss]
      rw [List.getElem?_map, List.getElem?_map, List.getElem?_eq_getElem h, List.getElem?_eq_getElem h'] at e1
      simpa using e1
    have hsd : ∀ x, x ∈ side (gB (fr b)) left ↔ ∃ y, y ∈ mAll left b ww hh ∧ x = gB (fr y) := fun x => Cgt.gB_moves k left
    refine ⟨v, ss, rfl, ho, ?_, ⟨fun j h => ?_, fun x hx => ?_⟩, hx⟩
    · have l1 := Cgt.mAll_len left b ww hh
      have l2 := Nat.mul_le_mul k.h1.2 k.w1.2
      omega
    · have h' : j < (mAll left b ww hh).length := by omega
      refine ⟨_, _, ?_, (hsd _).2 ⟨_, List.getElem_mem h', rfl⟩, hT j h h'⟩
      have := (mem_moves_cnt k (List.getElem_mem h')).2; omega
    · obtain ⟨y, hy, rfl⟩ := (hsd x).1 hx
      obtain ⟨j, hj, rfl⟩ := List.mem_iff_getElem.1 hy
      exact ⟨j, by omega, _, hT j (by omega) hj⟩

def ImplBPost (b : Brd) (w : World) (e : Ending) (w' : World) : Prop :=
  ∃ vN Fr ok sl, e = .returned (.tuple #[.agg #[vN], .bool ok]) ∧ ResB b Fr ok ∧ FO w' w.heap.size vN Fr.length sl (lsOf Fr) ∧ Ext w w'
theorem count_brd {s : ByteArray} {b : Brd} (h : bdr s = txtB b) : Lib.countByte s.data.toList 46 = cntB b := by
  have : s.data.toList = txtB b := h
  unfold Lib.countByte
  rw [this, ← Cgt.txtB_count]; rfl

set_option maxHeartbeats 2000000 in
theorem implDomino_any (v : Value) (ss : List ByteArray) (m : Int) (w : World) (hv : Strs w v ss) (hl : ss.length ≤ 1048576) (hs : ∀ s, s ∈ ss → s.size ≤ 1048576) (hm : w.cell? ⟨0, 0, none⟩ = some (.int .i64 m)) : Calls Tryz.prog 10 #[.agg #[v]] w (ImplBPost (bd ss) w) := by
  obtain ⟨a, cap, rfl, hcap, hml⟩ := hv.open
  have hb1 : ((w.alloc (.cells #[.slice a ss.length cap] 31)).alloc (.cells #[.slice none 0 0] 28)).heap[w.heap.size]? = some (.cells #[.slice a ss.length cap] 31 (0, 0)) := by
    rw [Below.heap_alloc _ _ _ (by simp)]; exact heap_alloc_new _ _
  have hb2 : ((w.alloc (.cells #[.slice a ss.length cap] 31)).alloc (.cells #[.slice none 0 0] 28)).heap[w.heap.size + 1]? = some (.cells #[.slice none 0 0] 28 (0, 0)) := by
    have h := heap_alloc_new (w.alloc (.cells #[.slice a ss.length cap] 31)) (.cells #[.slice none 0 0] 28); rw [World.size_alloc] at h; exact h
  have hx2 : Ext w ((w.alloc (.cells #[.slice a ss.length cap] 31)).alloc (.cells #[.slice none 0 0] 28)) := by go_grown
  have HV := Lib.hid hv
  have HS := Lib.hid (And.intro hl hs)
  have HM := Lib.hid hm
  clear hl hs hv hm
  cases hg : goodB (bd ss) with
  | false =>
    have HNO : Hid (goodB (bd ss) = false ∨ ¬ cntB (bd ss) ≤ 9) := Lib.hid (.inl hg)
    go_enter Tryz.func10, Tryz.ntmps10
    go_upto_region 1 with fail
    generalize (w.alloc (.cells #[.slice a ss.length cap] 31)).alloc (.cells #[.slice none 0 0] 28) = W at *
    have c0 := cell_of_row W w.heap.size 0 _ _ _ hb1
    go_upto_region 2 with (go_at_call 41; refine (pGoodBoard_any _ ss _ (HV.out.ext hx2) HS.out.1 HS.out.2).mono ?_; rintro e w1 ⟨he, hx1⟩; rw [hg] at he; subst he)
    have hr1 : w1.heap[w.heap.size + 1]? = some (.cells #[.slice none 0 0] 28 (0, 0)) := (hx1.block _ (blk_lt hb2)).trans hb2
    have d0 := cell_of_row w1 (w.heap.size + 1) 0 _ _ _ hr1
    have f0 := frozen_of_row w1 (w.heap.size + 1) 0 _ _ hr1
    have HE := Lib.hid (ext_trans hx2 hx1)
    clear c0
    go_wp2
    have HH := Lib.hid (heap_setCell_same w1 (w.heap.size + 1) 0 _ _ (.slice none 0 0) hr1)
    (try simp only [Exit.inBlock, Exit.then])
    refine bodyPost_ret (results_row_tmp rfl _ _ (w.heap.size + 1) 28 #[.slice none 0 0] (0, 0) _ rfl HH.out Tryz.underlying28 rfl (by kernel_rfl) rfl) rfl ?_
    exact ⟨_, [], false, fun _ => undef, rfl, .inr ⟨HNO.out, rfl, rfl⟩, FO.none _ _ _ _, HE.out.setCell (p := ⟨w.heap.size + 1, 0, none⟩) (by show w.heap.size ≤ w.heap.size + 1; omega) _⟩
  | true =>
    obtain ⟨hh, ww, g⟩ := Cgt.goodB_iff.1 hg
    by_cases h9 : cntB (bd ss) ≤ 9
    · go_enter Tryz.func10, Tryz.ntmps10
      go_upto_region 1 with fail
      generalize (w.alloc (.cells #[.slice a ss.length cap] 31)).alloc (.cells #[.slice none 0 0] 28) = W at *
      have c0 := cell_of_row W w.heap.size 0 _ _ _ hb1
      have hq9 : ¬ ((9 : Int) < ((cntB (bd ss) : Nat) : Int)) := by omega
      have H9 := Lib.hid h9
      clear h9
      go_upto_region 3 with (first
        | (go_at_call 42; refine (Tryz.strings_Count_one so 46 _).mono ?_; rintro e w3 ⟨rfl, rfl⟩)
        | (go_at_call 43; refine (bText_any _ ss hh ww w1 (HV.out.ext (ext_trans hx2 hx1)) g).mono ?_; rintro e w2 ⟨so, rfl, hso, hx12⟩; have hco := count_brd hso)
        | (go_at_call 41; refine (pGoodBoard_any _ ss _ (HV.out.ext hx2) HS.out.1 HS.out.2).mono ?_; rintro e w1 ⟨he, hx1⟩; rw [hg] at he; subst he; have c1 := (hx1.cell (lt_of_cell c0)).trans c0))
      have hE3 := ext_trans (ext_trans hx2 hx1) hx12
      have hxx := ext_trans hx1 hx12
      have hr1 : w3.heap[w.heap.size + 1]? = some (.cells #[.slice none 0 0] 28 (0, 0)) := (hxx.block _ (blk_lt hb2)).trans hb2
      have hq1 : w3.heap[w.heap.size]? = some (.cells #[.slice a ss.length cap] 31 (0, 0)) := (hxx.block _ (blk_lt hb1)).trans hb1
      have c3 := cell_of_row w3 w.heap.size 0 _ _ _ hq1
      simp only [gE] at c3
      have hV3 := HV.out.ext hE3
      have hVok := brdV_ok (b0 := bd ss) (hh := hh) (ww := ww) H9.out
      have hzr := blk_lt hr1
      clear hx2 hx1 hx12 hxx hb1 hb2 hq1 hco hq9 c0 c1
      go_wp2_with (first
        | (go_at_call 44; refine (solved_any hVok (cntB (bd ss)) (gB (fr (bd ss))) so2 w4 ⟨bd ss, g, hso2, Cgt.vary_self _, rfl, rfl⟩ ⟨m, ((ext_trans hE3 hx4).cell (lt_of_cell HM.out)).trans HM.out⟩).mono ?_; rintro e w5 ⟨F, vN, Fr, ok, sl, rfl, hTV, hok, hFr, hFO, hx5⟩
           obtain ⟨aN, cN, rfl⟩ := hFO.top
           have HVV := Lib.hid (And.intro hTV (And.intro hok hFr))
           have hr5 : w5.heap[w.heap.size + 1]? = some (.cells #[.slice none 0 0] 28 (0, 0)) := ((ext_trans hx4 hx5).block _ hzr).trans hr1
           have q0 := cell_of_row w5 (w.heap.size + 1) 0 _ _ _ hr5
           have q1 := frozen_of_row w5 (w.heap.size + 1) 0 _ _ hr5
           have HFO := Lib.hid hFO
           clear hTV hok hFr hFO)
        | (go_at_call 43; refine (bText_any _ ss hh ww w3 hV3 g).mono ?_; rintro e w4 ⟨so2, rfl, hso2, hx4⟩))
      have HW := Lib.hid (heap_setCell_same w5 (w.heap.size + 1) 0 _ _ (.slice aN Fr.length cN) hr5)
      have hz4 : w.heap.size + 1 < w4.heap.size := Nat.lt_of_lt_of_le hzr hx4.size
      (try simp only [Exit.inBlock, Exit.then])
      refine bodyPost_ret (results_row_tmp rfl _ _ (w.heap.size + 1) 28 #[.slice aN Fr.length cN] (0, 0) _ rfl HW.out Tryz.underlying28 rfl (by kernel_rfl) rfl) rfl ?_
      exact ⟨_, Fr, ok, sl, rfl, .inl ⟨hg, H9.out, F, HVV.out⟩, (HFO.out.keepG (keep_set (p := ⟨w.heap.size + 1, 0, none⟩)) (fun b hb => by subst hb; exact hz4)).lower (show w.heap.size ≤ w4.heap.size by omega), (ext_trans hE3 (ext_trans hx4 hx5)).setCell (p := ⟨w.heap.size + 1, 0, none⟩) (by show w.heap.size ≤ w.heap.size + 1; omega) _⟩
    · have HNO : Hid (goodB (bd ss) = false ∨ ¬ cntB (bd ss) ≤ 9) := Lib.hid (.inr h9)
      go_enter Tryz.func10, Tryz.ntmps10
      go_upto_region 1 with fail
      generalize (w.alloc (.cells #[.slice a ss.length cap] 31)).alloc (.cells #[.slice none 0 0] 28) = W at *
      have c0 := cell_of_row W w.heap.size 0 _ _ _ hb1
      have hq9 : ((9 : Int) < ((cntB (bd ss) : Nat) : Int)) := by omega
      clear h9
      go_upto_region 2 with (first
        | (go_at_call 42; refine (Tryz.strings_Count_one so 46 _).mono ?_; rintro e w3 ⟨rfl, rfl⟩)
        | (go_at_call 43; refine (bText_any _ ss hh ww w1 (HV.out.ext (ext_trans hx2 hx1)) g).mono ?_; rintro e w2 ⟨so, rfl, hso, hx12⟩; have hco := count_brd hso)
        | (go_at_call 41; refine (pGoodBoard_any _ ss _ (HV.out.ext hx2) HS.out.1 HS.out.2).mono ?_; rintro e w1 ⟨he, hx1⟩; rw [hg] at he; subst he; have c1 := (hx1.cell (lt_of_cell c0)).trans c0))
      have hr1 : w3.heap[w.heap.size + 1]? = some (.cells #[.slice none 0 0] 28 (0, 0)) := (hx12.block _ (blk_lt ((hx1.block _ (blk_lt hb2)).trans hb2))).trans ((hx1.block _ (blk_lt hb2)).trans hb2)
      have d0 := cell_of_row w3 (w.heap.size + 1) 0 _ _ _ hr1
      have f0 := frozen_of_row w3 (w.heap.size + 1) 0 _ _ hr1
      have HE := Lib.hid (ext_trans (ext_trans hx2 hx1) hx12)
      clear c0 c1
      go_wp2
      have HH := Lib.hid (heap_setCell_same w3 (w.heap.size + 1) 0 _ _ (.slice none 0 0) hr1)
      (try simp only [Exit.inBlock, Exit.then])
      refine bodyPost_ret (results_row_tmp rfl _ _ (w.heap.size + 1) 28 #[.slice none 0 0] (0, 0) _ rfl HH.out Tryz.underlying28 rfl (by kernel_rfl) rfl) rfl ?_
      exact ⟨_, [], false, fun _ => undef, rfl, .inr ⟨HNO.out, rfl, rfl⟩, FO.none _ _ _ _, HE.out.setCell (p := ⟨w.heap.size + 1, 0, none⟩) (by show w.heap.size ≤ w.heap.size + 1; omega) _⟩
end
section
open Go.RowKit
open Cgt (Dag Nd vl Same Brd)

theorem res_smallB {b : Brd} {F : Dag} {ok : Bool} (h : ResB b F ok) : F.length ≤ 120 ∧ ∀ j, j < 2 * F.length → (lsOf F j).length ≤ 24 := by
  rcases h with ⟨_, _, F', h1, h2, h3⟩ | ⟨_, _, h3⟩
  · cases ok with
    | false => simp at h3; subst h3; simp
    | true =>
      simp at h3; subst h3
      have hf := h2.symm
      unfold fitsN at hf
      obtain ⟨_, f2, f3⟩ := of_decide_eq_true hf
      refine ⟨f2, fun j hj => ?_⟩
      have hi : j / 2 < F.length := by omega
      have g : F.getD (j / 2) ([], []) = F[j / 2] := by rw [List.getD_eq_getElem?_getD, List.getElem?_eq_getElem hi]; rfl
      unfold lsOf
      split
      · rw [toZ_len, g]; exact (f3 _ hi).1
      · rw [toZ_len, g]; exact (f3 _ hi).2
  · subst h3; simp
end
end Go.Proofs.YteknjeohbcgpdaaGreatDoor
