/-
  Contract of the reference's DominoValue at boards that are not good, or have too many free cells. (8 texts.)
-/
import Derived.Test.YteknjeohbcgpdaaGreatDoorY1
import Derived.Test.YteknjeohbcgpdaaGreatDoorY3
import Derived.Test.YteknjeohbcgpdaaGreatDoorY7
import Derived.Test.YteknjeohbcgpdaaGreatDoorY8
import Derived.Test.YteknjeohbcgpdaaGreatDoorY13
import Derived.Test.YteknjeohbcgpdaaGreatDoorY23
import Derived.Laws.ResultCell
import Derived.Deep.DeepCutAuto
import Derived.Deep.CutBlock
import Derived.Lib.SlicesS
import Derived.Deep.LoopGhost
import Derived.Laws.Rows
set_option maxRecDepth 100000
namespace Go.Proofs.YteknjeohbcgpdaaGreatDoor
section
open Go.RowKit
open Cgt (Dag Nd vl Same)

structure FO (w : World) (B : Nat) (v : Value) (n : Nat) (sl : Nat → Value) (ls : Nat → List Int) : Prop where
  row : ∃ xs, w.ownsRow B 89 2 v n xs ∧ ∀ j, j < 2 * n → xs[j]? = some (sl j)
  own : ∀ j, j < 2 * n → w.ownsRow B 3 1 (sl j) (ls j).length ((ls j).map (Value.int .i64))
  ap : ∀ i j, i < 2 * n → j < 2 * n → i ≠ j → ∀ b, (sl i).ownBlock = some b → (sl j).ownBlock ≠ some b
  ap0 : ∀ j, j < 2 * n → ∀ b, (sl j).ownBlock = some b → v.ownBlock ≠ some b

theorem FO.ext {w w' : World} {B : Nat} {v : Value} {n : Nat} {sl : Nat → Value} {ls : Nat → List Int} (h : FO w B v n sl ls) (hx : Ext w w') : FO w' B v n sl ls := by
  obtain ⟨xs, h1, h2⟩ := h.row
  exact ⟨⟨xs, own_keep h1 hx, h2⟩, fun j hj => own_keep (h.own j hj) hx, h.ap, h.ap0⟩
theorem FO.set {w w' : World} {B : Nat} {v : Value} {n : Nat} {sl : Nat → Value} {ls : Nat → List Int} (h : FO w B v n sl ls) {j : Nat} (hj : j < 2 * n) {l : List Int} (hk : Keep (fun b => (sl j).ownBlock = some b) w w') (ho : w'.ownsRow B 3 1 (sl j) l.length (l.map (Value.int .i64))) : FO w' B v n sl (fun q => if q = j then l else ls q) := by
  obtain ⟨xs, h1, h2⟩ := h.row
  refine ⟨⟨xs, own_keepG h1 hk (fun b hb e => h.ap0 j hj b e hb), h2⟩, fun q hq => ?_, h.ap, h.ap0⟩
  by_cases c : q = j
  · subst c; simp only [if_true]; exact ho
  · simp only [c, if_false]; exact own_keepG (h.own q hq) hk (fun b hb e => h.ap q j hq hj c b hb e)
theorem FO.cell {w : World} {B : Nat} {v : Value} {n : Nat} {sl : Nat → Value} {ls : Nat → List Int} (h : FO w B v n sl ls) {i : Nat} (hi : i < n) : ∃ g cap, v = .slice (some ⟨g, 0, none⟩) n cap ∧ n ≤ cap ∧ w.cell? ⟨g, i * 2, none⟩ = some (sl (2 * i)) ∧ w.cell? ⟨g, i * 2 + 1, none⟩ = some (sl (2 * i + 1)) := by
  obtain ⟨xs, h1, h2⟩ := h.row
  obtain ⟨g, cap, rfl, hc, _, hcell⟩ := own_at h1 (by omega)
  exact ⟨g, cap, rfl, hc, by rw [hcell _ (by omega), Nat.mul_comm]; exact h2 _ (by omega), by rw [hcell _ (by omega), Nat.mul_comm]; exact h2 _ (by omega)⟩
theorem FO.slice {w : World} {B : Nat} {v : Value} {n : Nat} {sl : Nat → Value} {ls : Nat → List Int} (h : FO w B v n sl ls) {j : Nat} (hj : j < 2 * n) : ∃ a c, sl j = .slice a (ls j).length c := by
  obtain ⟨a, c, e, _⟩ := own_len (h.own j hj); exact ⟨a, c, e⟩

def Lists (n : Nat) (sl : Nat → Value) (b : Nat) : Prop := ∃ j, j < 2 * n ∧ (sl j).ownBlock = some b

def lsOf (F : Dag) (j : Nat) : List Int := if j % 2 = 0 then toZ (F.getD (j / 2) ([], [])).1 else toZ (F.getD (j / 2) ([], [])).2
theorem FO.keepG {w w' : World} {B : Nat} {v : Value} {n : Nat} {sl : Nat → Value} {ls : Nat → List Int} {G : Nat → Prop} (h : FO w B v n sl ls) (hk : Keep G w w') (hG : ∀ b, G b → b < B) : FO w' B v n sl ls := by
  obtain ⟨xs, h1, h2⟩ := h.row
  exact ⟨⟨xs, own_keepG h1 hk (fun b hb g => by have := hG b g; have := (h1.lt b hb).1; omega), h2⟩, fun j hj => own_keepG (h.own j hj) hk (fun b hb g => by have := hG b g; have := ((h.own j hj).lt b hb).1; omega), h.ap, h.ap0⟩
theorem FO.lists {w : World} {B : Nat} {v : Value} {n : Nat} {sl : Nat → Value} {ls : Nat → List Int} (h : FO w B v n sl ls) {b : Nat} (hb : Lists n sl b) : B ≤ b ∧ b < w.heap.size := by
  obtain ⟨j, hj, e⟩ := hb; exact (h.own j hj).lt b e
theorem FO.top {w : World} {B : Nat} {v : Value} {n : Nat} {sl : Nat → Value} {ls : Nat → List Int} (h : FO w B v n sl ls) : ∃ a c, v = .slice a n c := by
  obtain ⟨xs, h1, _⟩ := h.row; obtain ⟨a, c, h, _⟩ := own_len h1; exact ⟨a, c, h⟩
theorem FO.nodes {w : World} {B : Nat} {v : Value} {F : Dag} {sl : Nat → Value} (h : FO w B v F.length sl (lsOf F)) (hs : ∀ j, j < 2 * F.length → (lsOf F j).length ≤ 1152921504606846976) (hl : F.length ≤ maxLen) : Nodes w 0 v F := by
  obtain ⟨xs, h1, h2⟩ := h.row
  refine Nodes.of_own (K := fun _ => False) (own_base h1 (Nat.zero_le _)) (fun i hi => ?_)
  have g : F.getD i ([], []) = F[i] := by rw [List.getD_eq_getElem?_getD, List.getElem?_eq_getElem hi]; rfl
  have e0 : lsOf F (2 * i) = toZ (F[i]).1 := by unfold lsOf; rw [if_pos (by omega), show 2 * i / 2 = i by omega, g]
  have e1 : lsOf F (2 * i + 1) = toZ (F[i]).2 := by unfold lsOf; rw [if_neg (by omega), show (2 * i + 1) / 2 = i by omega, g]
  have o0 := h.own (2 * i) (by omega)
  have o1 := h.own (2 * i + 1) (by omega)
  have s0 := hs (2 * i) (by omega)
  have s1 := hs (2 * i + 1) (by omega)
  rw [e0] at o0 s0
  rw [e1] at o1 s1
  exact ⟨sl (2 * i), sl (2 * i + 1), by rw [Nat.mul_comm]; exact h2 _ (by omega), by rw [Nat.mul_comm]; exact h2 _ (by omega), Ints.of_own o0 s0, Ints.of_own o1 s1, fun b hb => ⟨Nat.zero_le _, (o0.lt b hb).2, id⟩, fun b hb => ⟨Nat.zero_le _, (o1.lt b hb).2, id⟩⟩
theorem results_row_tmp {P : Program} {fn : Func} {p u : Tmp} {ty : TypeId} (h : fn.results = #[.cell p ty, .tmp u]) (tmps : Array Value) (w : World) (g : Nat) (t : TypeId) (cs : Array Value) (fr : Nat × Nat) (d : TypeDesc)
    (hp : tmps.getD p undef = .pointer (some ⟨g, 0, none⟩)) (hg : w.heap[g]? = some (.cells cs t fr))
    (hu : P.underlying ty = some d) (hd : (match d with | .struct _ | .array _ _ => true | _ => false) = true) (hi : (P.info? ty).map (·.size) = some cs.size) {v : Value} (hv : tmps.getD u undef = v) :
    (results fn tmps).run P w = .ok (.tuple #[.agg cs, v]) w := by
  have hp' : tmps[p]?.getD undef = .pointer (some ⟨g, 0, none⟩) := by simpa using hp
  subst hv
  rw [results_cell_tmp h]
  simp [hp', asAddr, run_loadVar_row w g t ty cs fr d hg hu hd hi]
end
section
open Go.RowKit
open Cgt (Brd GB txtB Cs fr)

def BoxSt (S : Cs) (hh ww : Nat) (D : Nat → Nat → Prop) (t b f o : Int) : Prop :=
  (∀ r c, D r c → S r c = true → t ≤ (r : Int) ∧ (r : Int) ≤ b ∧ f ≤ (c : Int) ∧ (c : Int) ≤ o) ∧
  ((t = hh ∧ b = -1 ∧ f = ww ∧ o = -1 ∧ ∀ r c, D r c → S r c = false) ∨ ∃ r1 c1 r2 c2 r3 c3 r4 c4 : Nat, S r1 c1 = true ∧ t = r1 ∧ S r2 c2 = true ∧ b = r2 ∧ S r3 c3 = true ∧ f = c3 ∧ S r4 c4 = true ∧ o = c4)
theorem BoxSt.skip {S : Cs} {hh ww : Nat} {D D' : Nat → Nat → Prop} {t b f o : Int} (h : BoxSt S hh ww D t b f o) (hD : ∀ r c, D' r c → S r c = true → D r c) : BoxSt S hh ww D' t b f o := by
  refine ⟨fun r c d s => h.1 r c (hD r c d s) s, ?_⟩
  rcases h.2 with ⟨h1, h2, h3, h4, h5⟩ | h
  · refine .inl ⟨h1, h2, h3, h4, fun r c d => ?_⟩
    cases s : S r c with
    | false => rfl
    | true => rw [h5 r c (hD r c d s)] at s; cases s
  · exact .inr h
theorem BoxSt.take {S : Cs} {hh ww : Nat} {D D' : Nat → Nat → Prop} {t b f o : Int} {i k : Nat} (h : BoxSt S hh ww D t b f o) (hi : i < hh) (hk : k < ww) (hs : S i k = true) (hD : ∀ r c, D' r c → D r c ∨ (r = i ∧ c = k)) :
    BoxSt S hh ww D' (if t < (i : Int) then t else (i : Int)) (max b (i : Int)) (if f < (k : Int) then f else (k : Int)) (max o (k : Int)) := by
  refine ⟨fun r c d s => ?_, .inr ?_⟩
  · rcases hD r c d with d | ⟨rfl, rfl⟩
    · have := h.1 r c d s
      refine ⟨?_, by omega, ?_, by omega⟩
      · split <;> omega
      · split <;> omega
    · refine ⟨?_, by omega, ?_, by omega⟩
      · split <;> omega
      · split <;> omega
  · rcases h.2 with ⟨h1, h2, h3, h4, -⟩ | ⟨r1, c1, r2, c2, r3, c3, r4, c4, s1, e1, s2, e2, s3, e3, s4, e4⟩
    · refine ⟨i, k, i, k, i, k, i, k, hs, ?_, hs, by omega, hs, ?_, hs, by omega⟩
      · rw [if_neg (by omega)]
      · rw [if_neg (by omega)]
    · refine ⟨if t < (i : Int) then r1 else i, if t < (i : Int) then c1 else k, if b < (i : Int) then i else r2, if b < (i : Int) then k else c2, if f < (k : Int) then r3 else i, if f < (k : Int) then c3 else k, if o < (k : Int) then i else r4, if o < (k : Int) then k else c4, ?_, ?_, ?_, ?_, ?_, ?_, ?_, ?_⟩
      · split <;> assumption
      · split <;> omega
      · split <;> assumption
      · split <;> omega
      · split <;> assumption
      · split <;> omega
      · split <;> assumption
      · split <;> omega

structure IsBox (S : Cs) (t b f o : Nat) : Prop where
  all : ∀ r c, S r c = true → t ≤ r ∧ r ≤ b ∧ f ≤ c ∧ c ≤ o
  top : ∃ c, S t c = true
  bot : ∃ c, S b c = true
  from_ : ∃ r, S r f = true
  upto : ∃ r, S r o = true
theorem IsBox.unique {S : Cs} {t b f o t' b' f' o' : Nat} (h : IsBox S t b f o) (k : IsBox S t' b' f' o') : t = t' ∧ b = b' ∧ f = f' ∧ o = o' := by
  obtain ⟨c1, h1⟩ := h.top; obtain ⟨c2, h2⟩ := h.bot; obtain ⟨c3, h3⟩ := h.from_; obtain ⟨c4, h4⟩ := h.upto
  obtain ⟨d1, k1⟩ := k.top; obtain ⟨d2, k2⟩ := k.bot; obtain ⟨d3, k3⟩ := k.from_; obtain ⟨d4, k4⟩ := k.upto
  have := k.all _ _ h1; have := k.all _ _ h2; have := k.all _ _ h3; have := k.all _ _ h4
  have := h.all _ _ k1; have := h.all _ _ k2; have := h.all _ _ k3; have := h.all _ _ k4
  omega
theorem BoxSt.box {S : Cs} {hh ww : Nat} {t b f o : Int} (h : BoxSt S hh ww (fun _ _ => True) t b f o) (hS : ∃ r c, S r c = true) : ∃ tn bn fn on : Nat, t = tn ∧ b = bn ∧ f = fn ∧ o = on ∧ IsBox S tn bn fn on := by
  obtain ⟨r, c, hs⟩ := hS
  rcases h.2 with ⟨_, _, _, _, h5⟩ | ⟨r1, c1, r2, c2, r3, c3, r4, c4, s1, rfl, s2, rfl, s3, rfl, s4, rfl⟩
  · rw [h5 r c trivial] at hs; cases hs
  · exact ⟨r1, r2, c3, c4, rfl, rfl, rfl, rfl, fun r c s => by have := h.1 r c trivial s; omega, ⟨_, s1⟩, ⟨_, s2⟩, ⟨_, s3⟩, ⟨_, s4⟩⟩

def cutB (b : Brd) (t bo f o : Nat) : Brd := ((b.drop t).take (bo + 1 - t)).map fun r => (r.drop f).take (o + 1 - f)
theorem cutB_at (b : Brd) (t bo f o r c : Nat) (hr : r < bo + 1 - t) (hc : c < o + 1 - f) : Cgt.at_ (cutB b t bo f o) r c = Cgt.at_ b (r + t) (c + f) := by
  unfold Cgt.at_ cutB
  rw [List.getD_eq_getElem?_getD (l := List.map _ _), List.getElem?_map, List.getElem?_take, if_pos hr, List.getElem?_drop, List.getD_eq_getElem?_getD (l := b), Nat.add_comm t r]
  cases b[r + t]? with
  | none => simp
  | some x =>
    simp only [Option.map_some, Option.getD_some]
    rw [List.getD_eq_getElem?_getD, List.getD_eq_getElem?_getD, List.getElem?_take, if_pos hc, List.getElem?_drop, Nat.add_comm f c]
theorem fr_cutB {b : Brd} {t bo f o : Nat} (hB : IsBox (fr b) t bo f o) (r c : Nat) : fr (cutB b t bo f o) r c = fr b (r + t) (c + f) := by
  by_cases h : r < bo + 1 - t ∧ c < o + 1 - f
  · unfold fr; rw [cutB_at b t bo f o r c h.1 h.2]
  · have e1 : fr b (r + t) (c + f) = false := by
      cases s : fr b (r + t) (c + f) with
      | false => rfl
      | true => have := hB.all _ _ s; omega
    have e2 : fr (cutB b t bo f o) r c = false := by
      cases s : fr (cutB b t bo f o) r c with
      | false => rfl
      | true =>
        exfalso
        unfold fr Cgt.at_ cutB at s
        rw [List.getD_eq_getElem?_getD (l := List.map _ _), List.getElem?_map, List.getElem?_take] at s
        by_cases hr : r < bo + 1 - t
        · rw [if_pos hr] at s
          have hc : ¬ c < o + 1 - f := fun k => h ⟨hr, k⟩
          cases hx : (b.drop t)[r]? with
          | none => rw [hx] at s; simp at s
          | some x =>
            rw [hx] at s
            simp only [Option.map_some, Option.getD_some] at s
            rw [List.getD_eq_getElem?_getD, List.getElem?_take, if_neg hc] at s
            exact absurd s (by decide)
        · rw [if_neg hr] at s; simp at s
    rw [e1, e2]
theorem cutB_gb {b : Brd} {hh ww t bo f o : Nat} (g : GB b hh ww) (hB : IsBox (fr b) t bo f o) : GB (cutB b t bo f o) (bo + 1 - t) (o + 1 - f) ∧ t ≤ bo ∧ bo < hh ∧ f ≤ o ∧ o < ww := by
  obtain ⟨c1, h1⟩ := hB.top; obtain ⟨c2, h2⟩ := hB.bot; obtain ⟨c3, h3⟩ := hB.from_; obtain ⟨c4, h4⟩ := hB.upto
  have := hB.all _ _ h1; have := hB.all _ _ h2; have := hB.all _ _ h3; have := hB.all _ _ h4
  have := g.in_ h2; have := g.in_ h4
  have g1 := g.h1
  have g2 := g.w1
  refine ⟨⟨?_, by omega, by omega, fun r hr => ?_⟩, by omega, by omega, by omega, by omega⟩
  · unfold cutB; rw [List.length_map, List.length_take, List.length_drop, g.hgt]; omega
  · unfold cutB at hr
    obtain ⟨x, hx, rfl⟩ := List.mem_map.1 hr
    have hm := g.row x (List.mem_of_mem_drop (List.mem_of_mem_take hx))
    refine ⟨by rw [List.length_take, List.length_drop, hm.1]; omega, fun c hc => hm.2 c (List.mem_of_mem_drop (List.mem_of_mem_take hc))⟩
theorem bdr_extract (s : ByteArray) (i j : Nat) : bdr (s.extract i j) = ((bdr s).drop i).take (j - i) := by
  unfold bdr
  rw [ByteArray.data_extract, Array.toList_extract]
theorem cutB_take {b : Brd} {t f o k : Nat} (hk : t + k < b.length) : ((b.drop t).take (k + 1)).map (fun r : List UInt8 => (r.drop f).take (o + 1 - f)) = ((b.drop t).take k).map (fun r : List UInt8 => (r.drop f).take (o + 1 - f)) ++ [(b[t + k].drop f).take (o + 1 - f)] := by
  rw [List.take_succ_eq_append_getElem (by rw [List.length_drop]; omega), List.map_append, List.getElem_drop]; rfl
end
section
open Go.RowKit
open Cgt (Brd GB txtB Cs fr Grown sub cup cups none_ PartsOf ShutIn Bd)

theorem made_bools (n : Nat) : (madeCells #[Value.bool false] n).toList = (List.replicate n false).map Value.bool := by
  apply List.ext_getElem?
  intro i
  by_cases h : i < n
  · simp [madeCells, h, Nat.mod_one]
  · simp [madeCells, h]

section
variable {w w1 wr w2 : World} {box cv ov : Value} {sl : Nat → Value} {hh ww : Nat} {cl : Cl} {xs : List Value} {bs : List Brd}
end
end
section
open Cgt (Dag Gm Canon Eqv IsForm topOf Same plus Brd GB Cs Bd fr gB cnt cntB kB mAll mRow can cups cup PartsOf none_ zeroG lay)

theorem mem_moves_cnt {b y : Brd} {h w : Nat} {left : Bool} (g : GB b h w) (hy : y ∈ mAll left b w h) : GB y h w ∧ cntB y + 2 = cntB b := by
  obtain ⟨r, c, k, rfl⟩ := (Cgt.mem_mAll g).1 hy
  have g' := g.plc left r c
  refine ⟨g', ?_⟩
  rw [← Cgt.cnt_fr g', ← Cgt.cnt_fr g, Cgt.fr_plc g k]
  exact Cgt.cnt_lay g.bd k
end
section
open Go.RowKit
open Cgt (Dag Nd vl Same Gm Canon Eqv Ge Brd GB txtB fr gB cntB kB)

theorem lt2 {q : Nat} (h : q < 2) : q = 0 ∨ q = 1 := by omega
section
variable {w wr w1 : World} {px : Nat} {vt0 vf0 : Value} {S0 : Nat → Prop} {L0 : List (ByteArray × Dag)} {X0 : Obj} {bl : Nat → List Brd} {kk : Nat} {bs : Nat} {vt vf : Value} {S : Nat → Prop} {L : List (ByteArray × Dag)} {f : Nat → Value} {Fs : Nat → List Dag}

end
end
section
open Go.RowKit
open Cgt (Brd GB txtB)

theorem take_at0 {xs : List Value} {i : Nat} {v : Value} (h : (xs.drop (i * 1)).take 1 = [v]) : xs[i]? = some v := by
  have k := take_at h (j := 0) (by omega)
  rw [Nat.mul_one] at k; exact k
theorem bd_inj {a b : List ByteArray} (h : bd a = bd b) : a = b := by
  unfold bd at h
  refine (List.map_inj_right (f := bdr) fun x y e => ?_).1 h
  cases x; cases y
  simp only [bdr] at e
  rw [ByteArray.mk.injEq]; exact Array.toList_inj.1 e
theorem Rows.brd {S : Nat → Prop} {w : World} {v : Value} {Ts : List Brd} (h : Rows BrdR 1 S w v Ts) {i : Nat} (hi : i < Ts.length) :
    ∃ b cap a c ss, v = .slice (some ⟨b, 0, none⟩) Ts.length cap ∧ S b ∧ w.cell? ⟨b, i, none⟩ = some (.slice a (List.length ss) c) ∧ bd ss = Ts[i] ∧ Sup S (fun W => Strs W (.slice a (List.length ss) c) ss) w := by
  obtain ⟨xs, a, cap, rfl, h1, h2, h3, h4⟩ := h
  obtain ⟨b, rfl, hb, hc⟩ := h4 (by omega)
  obtain ⟨a, c, ss, e, hN, hbd⟩ := h3.2.out i hi
  refine ⟨b, cap, a, c, ss, rfl, hb, by rw [hc _ (by omega)]; exact take_at0 e, hbd, h3.2.1, fun w2 h2 => ?_⟩
  obtain ⟨a', c', ss', e', hN', hbd'⟩ := h3.2.2 w2 h2 i hi
  rw [e] at e'
  simp only [List.cons.injEq, Value.slice.injEq, and_true] at e'
  obtain ⟨rfl, -, rfl⟩ := e'
  have : ss' = ss := bd_inj (hbd'.trans hbd.symm)
  subst this; exact hN'
end
section
open Go.RowKit
open Cgt (Dag Nd vl Same Gm Canon Eqv Ge Brd GB goodB fr gB cntB kB)

def ResB (b : Brd) (Fr : Dag) (ok : Bool) : Prop := (goodB b = true ∧ cntB b ≤ 9 ∧ ∃ F, FormOf F (gB (fr b)) ∧ ok = fitsN F ∧ Fr = if ok then F else []) ∨ ((goodB b = false ∨ ¬ cntB b ≤ 9) ∧ ok = false ∧ Fr = [])
theorem ResB.unique {b : Brd} {F G : Dag} {x y : Bool} (h : ResB b F x) (k : ResB b G y) : F = G ∧ x = y := by
  rcases h with ⟨h1, h1', F1, h2, h3, h4⟩ | ⟨h1, h2, h3⟩ <;> rcases k with ⟨k1, k1', F2, k2, k3, k4⟩ | ⟨k1, k2, k3⟩
  · have := h2.unique k2
    subst this; subst h3; subst k3; exact ⟨by rw [h4, k4], rfl⟩
  · rcases k1 with k1 | k1
    · rw [h1] at k1; cases k1
    · exact absurd h1' k1
  · rcases h1 with h1 | h1
    · rw [k1] at h1; cases h1
    · exact absurd k1' h1
  · exact ⟨by rw [h3, k3], by rw [h2, k2]⟩
end
section
open Go.RowKit
open Cgt (Brd GB goodB fr cntB)

def SpecNoPost (w : World) (e : Ending) (w' : World) : Prop := ∃ vN a c, vN = .slice a 0 c ∧ e = .returned (.tuple #[.agg #[vN], .bool false]) ∧ Ext w w'
set_option maxHeartbeats 1000000 in
theorem specNo_any (v : Value) (ss : List ByteArray) (w : World) (hv : Strs w v ss) (hl : ss.length ≤ 1048576) (hs : ∀ s, s ∈ ss → s.size ≤ 1048576) (hno : goodB (bd ss) = false ∨ ¬ cntB (bd ss) ≤ 9) : Calls Tryz.prog 8 #[.agg #[v]] w (SpecNoPost w) := by
  obtain ⟨a, cap, rfl, hcap, hml⟩ := hv.open
  have hb1 : ((w.alloc (.cells #[.slice a ss.length cap] 31)).alloc (.cells #[.slice none 0 0] 28)).heap[w.heap.size]? = some (.cells #[.slice a ss.length cap] 31 (0, 0)) := by
    rw [Below.heap_alloc _ _ _ (by simp)]; exact heap_alloc_new _ _
  have hb2 : ((w.alloc (.cells #[.slice a ss.length cap] 31)).alloc (.cells #[.slice none 0 0] 28)).heap[w.heap.size + 1]? = some (.cells #[.slice none 0 0] 28 (0, 0)) := by
    have h := heap_alloc_new (w.alloc (.cells #[.slice a ss.length cap] 31)) (.cells #[.slice none 0 0] 28); rw [World.size_alloc] at h; exact h
  have hx2 : Ext w ((w.alloc (.cells #[.slice a ss.length cap] 31)).alloc (.cells #[.slice none 0 0] 28)) := by go_grown
  have HV := Lib.hid hv
  have HS := Lib.hid (And.intro hl hs)
  clear hl hs hv
  cases hg : goodB (bd ss) with
  | false =>
    go_enter Tryz.func8, Tryz.ntmps8
    go_upto_region 1 with fail
    generalize (w.alloc (.cells #[.slice a ss.length cap] 31)).alloc (.cells #[.slice none 0 0] 28) = W at *
    have c0 := cell_of_row W w.heap.size 0 _ _ _ hb1
    go_upto_region 2 with (go_at_call 30; refine (specGoodBoard_any _ ss _ (HV.out.ext hx2) HS.out.1 HS.out.2).mono ?_; rintro e w1 ⟨he, hx1⟩; rw [hg] at he; subst he)
    have hr1 : w1.heap[w.heap.size + 1]? = some (.cells #[.slice none 0 0] 28 (0, 0)) := (hx1.block _ (blk_lt hb2)).trans hb2
    have d0 := cell_of_row w1 (w.heap.size + 1) 0 _ _ _ hr1
    have f0 := frozen_of_row w1 (w.heap.size + 1) 0 _ _ hr1
    have HE := Lib.hid (ext_trans hx2 hx1)
    clear c0
    go_wp2
    have HH := Lib.hid (heap_setCell_same w1 (w.heap.size + 1) 0 _ _ (.slice none 0 0) hr1)
    (try simp only [Exit.inBlock, Exit.then])
    refine bodyPost_ret (results_row_tmp rfl _ _ (w.heap.size + 1) 28 #[.slice none 0 0] (0, 0) _ rfl HH.out Tryz.underlying28 rfl (by kernel_rfl) rfl) rfl ?_
    exact ⟨_, none, 0, rfl, rfl, HE.out.setCell (p := ⟨w.heap.size + 1, 0, none⟩) (by show w.heap.size ≤ w.heap.size + 1; omega) _⟩
  | true =>
    obtain ⟨hh, ww, g⟩ := Cgt.goodB_iff.1 hg
    have h9 : ¬ cntB (bd ss) ≤ 9 := hno.elim (fun e => by rw [hg] at e; cases e) id
    go_enter Tryz.func8, Tryz.ntmps8
    go_upto_region 1 with fail
    generalize (w.alloc (.cells #[.slice a ss.length cap] 31)).alloc (.cells #[.slice none 0 0] 28) = W at *
    have c0 := cell_of_row W w.heap.size 0 _ _ _ hb1
    have hq9 : ((9 : Int) < ((cntB (bd ss) : Nat) : Int)) := by omega
    clear h9
    go_upto_region 2 with (first
      | (go_at_call 37; refine (l21Free_any _ ss hh ww w1 (HV.out.ext (ext_trans hx2 hx1)) g).mono ?_; rintro e w2 ⟨rfl, hx12⟩)
      | (go_at_call 30; refine (specGoodBoard_any _ ss _ (HV.out.ext hx2) HS.out.1 HS.out.2).mono ?_; rintro e w1 ⟨he, hx1⟩; rw [hg] at he; subst he; have c1 := (hx1.cell (lt_of_cell c0)).trans c0))
    have hr1 : w2.heap[w.heap.size + 1]? = some (.cells #[.slice none 0 0] 28 (0, 0)) := (hx12.block _ (blk_lt ((hx1.block _ (blk_lt hb2)).trans hb2))).trans ((hx1.block _ (blk_lt hb2)).trans hb2)
    have d0 := cell_of_row w2 (w.heap.size + 1) 0 _ _ _ hr1
    have f0 := frozen_of_row w2 (w.heap.size + 1) 0 _ _ hr1
    have HE := Lib.hid (ext_trans (ext_trans hx2 hx1) hx12)
    clear c0 c1
    go_wp2
    have HH := Lib.hid (heap_setCell_same w2 (w.heap.size + 1) 0 _ _ (.slice none 0 0) hr1)
    (try simp only [Exit.inBlock, Exit.then])
    refine bodyPost_ret (results_row_tmp rfl _ _ (w.heap.size + 1) 28 #[.slice none 0 0] (0, 0) _ rfl HH.out Tryz.underlying28 rfl (by kernel_rfl) rfl) rfl ?_
    exact ⟨_, none, 0, rfl, rfl, HE.out.setCell (p := ⟨w.heap.size + 1, 0, none⟩) (by show w.heap.size ≤ w.heap.size + 1; omega) _⟩
end
end Go.Proofs.YteknjeohbcgpdaaGreatDoor
