/-
  Contract of the function literal in the program's TreeForm: the texts of the trees behind the cuts of a player.
  The program's solver: what it holds, and the plain law of one step.
  The solver's own memory: the two lists, the block that holds them.
-/
import Derived.Test.YtjkdanmpihildaaGreatDoorQ29
import Derived.Test.YtjkdanmpihildaaGreatDoorQ33
import Derived.Test.YtjkdanmpihildaaGreatDoorQ48
import Derived.Test.YtjkdanmpihildaaGreatDoorQ49
namespace Go.Proofs.YtjkdanmpihildaaGreatDoor
open Go.RowKit
open Cgt (Dag Nd vl Same)

theorem one_str {s : ByteArray} : ∀ u ∈ ([Value.string s] : List Value), u.oneCell' = true := by
  intro u hu; simp at hu; subst hu; rfl

def tx32 (t : List Int × List UInt8) : List UInt8 := t.2 ++ txt 32 t.1
def KidsPost (us : List Int) (sg : List UInt8) (left : Bool) (w : World) (en : Ending) (w' : World) : Prop :=
  ∃ (v : Value) (ss : List ByteArray), en = .returned v ∧ w'.ownsRow w.heap.size 9 1 v ss.length (ss.map Value.string) ∧ ss.map (·.data.toList) = ((edges sg left us.length).map fun e => tx32 (cutU us sg e, cutS us sg e)) ∧ Ext w w'

theorem kids_texts {us : List Int} {sg : List UInt8} {left : Bool} {k : Nat} {Ts : List (List Int × ByteArray)} (h : CutsOf us sg left k Ts) : Ts.map (fun t => tx32 (t.1, t.2.data.toList)) = (edges sg left k).map fun e => tx32 (cutU us sg e, cutS us sg e) := by
  have := congrArg (fun l => l.map tx32) h
  simpa [List.map_map, Function.comp_def] using this
theorem kids_good {us : List Int} {sg : List UInt8} {left : Bool} {Ts : List (List Int × ByteArray)} (g : GT us sg) (h : CutsOf us sg left us.length Ts) {i : Nat} (hi : i < Ts.length) : GT (Ts[i]).1 (Ts[i]).2.data.toList := by
  obtain ⟨e, h1, h2, h3⟩ := h.at hi
  rw [h2, h3]
  exact (cut_good g (edges_lt (List.mem_of_getElem? h1))).1

set_option maxHeartbeats 2000000 in
set_option maxRecDepth 100000 in
theorem kids_any (s : ByteArray) (us : List Int) (sg : List UInt8) (left : Bool) (g : GT us sg) (hs : s.data.toList = sg ++ txt 32 us) (w : World) (hG : Glb w) :
    Calls Tryz.prog 21 #[.string s, .bool left] w (KidsPost us sg left w) := by
  obtain ⟨i0, hi0, hz0, hz1, hz2⟩ := info_parts info_string
  have hn8 := g.small
  have hx0 : Ext w (w.alloc (.cells #[] 9)) := by go_grown
  have hr0 : (w.alloc (.cells #[] 9)).ownsRow w.heap.size 9 1 (.slice (some ⟨w.heap.size, 0, none⟩) 0 0) 0 [] := World.ownsRow_made w #[] 0 (by omega) (by decide) (by simp)
  have hze : (w.alloc (.cells #[] 9)).heap.size = w.heap.size + 1 := by simp
  go_enter Tryz.func21, Tryz.ntmps21
  go_wp2_with (first
    | (go_at_call 22; refine (treeOf_any s us sg g hs _ (hG.ext hx0)).mono ?_; rintro e w1 ⟨vo, so, rfl, hI, hso, hfr, hx1⟩; have hGs : GT us so.data.toList := by rw [hso]; exact g)
    | (go_at_call 23; refine (cuts_any _ us so left _ hI hGs).mono ?_; rintro e w2 ⟨v, Ts, rfl, hR, hC, hx2⟩; obtain ⟨xsT, aT, cT, rfl, hT1⟩ := id hR))
  generalize w.alloc (.cells #[] 9) = W0 at *
  clear hT1
  rw [hso] at hC
  have hE1 := ext_trans hx0 hx1
  have hE2 := ext_trans hE1 hx2
  have hz1' := hx1.size
  have hr2 := own_keep (own_keep hr0 hx1) hx2
  have hTl : Ts.length ≤ 8 := by have := hC.len; have h2 := edges_len sg us.length; cases left <;> omega
  have HC := Lib.hid hC
  clear hC hr0
  go_loopw [5, 7, 14] (fun ov _ ii wr => ∃ (k : Nat) (ss : List ByteArray), k ≤ Ts.length ∧ ii = .int .i64 ((k : Nat) : Int) ∧ Ext w wr ∧ wr.ownsRow w.heap.size 9 1 ov ss.length (ss.map Value.string) ∧ (∀ b, ov.ownBlock = some b → b < w1.heap.size ∨ w2.heap.size ≤ b) ∧ w2.heap.size ≤ wr.heap.size ∧ Rows TreeR 2 (fun b => w1.heap.size ≤ b ∧ b < w2.heap.size) wr (.slice aT Ts.length cT) Ts ∧ Hid (ss.map (·.data.toList) = (Ts.take k).map (fun t => tx32 (t.1, t.2.data.toList)))) (fun _ _ ii _ => Ts.length - (intOf ii).toNat)
  case atStart => exact ⟨0, [], Nat.zero_le _, rfl, hE2, hr2, fun b hb => by simp [Value.ownBlock] at hb; omega, Nat.le_refl _, hR, by simp [Hid]⟩
  case round =>
    clear hr2 hR hE2
    obtain ⟨k, ss, hk, rfl, hE, hown, hsep, hzr, hR, HS⟩ := hrel
    by_cases hlt : k < Ts.length
    · have h1 : ((k : Nat) : Int) < ((Ts.length : Nat) : Int) := by omega
      obtain ⟨b, cap, aU, cU, e1, hSb, c0, c1, hsup⟩ := hR.tree hlt
      simp only [Value.slice.injEq, true_and] at e1
      obtain ⟨rfl, rfl⟩ := e1
      have hGT := kids_good g HC.out hlt
      have hsl : ss.length ≤ 8 := by have := congrArg List.length HS.out; simp at this; omega
      obtain ⟨ao, co, rfl, hco, _⟩ := own_len hown
      have hgl := hG.ext hE
      have htk : Ts.take (k + 1) = Ts.take k ++ [Ts[k]] := List.take_succ_eq_append_getElem hlt
      have HTK := Lib.hid htk
      clear htk
      generalize Ts[k] = tk at *
      have hIk := hsup.out
      have hx3 : Ext wr (wr.alloc (.cells #[.slice aU tk.1.length cU, .string tk.2] 31)) := by go_grown
      have hIk3 := hIk.ext hx3
      have hgl3 := hgl.1.ext hx3
      go_wp2_with (first
        | (go_at_call 20; refine (text_any _ tk.1 tk.2 _ hIk3 hGT hgl3).mono ?_; rintro e w3 ⟨st, rfl, hst, hx4⟩; have hx34 := ext_trans hx3 hx4; have hown3 := own_keep hown hx34; have hE3 := ext_trans hE hx34; have hz3 := hE3.size)
        | (at_builtin; refine app_list rfl (.tmp 18) (.tmp 21) 41 rfl w.heap.size 9 i0 (.string ⟨#[]⟩) 1 16 Tryz.underlying41 hi0 hz0 hz1 hz2 rfl (by decide) (.slice ao ss.length co) ss.length (ss.map Value.string) rfl (hown3.alloc _) _ 1 _ [.string st] rfl rfl (.inr ⟨_, rfl, one_src (new_cell _ _ _)⟩) one_str (by unfold maxLen; omega) (by omega) (by rw [World.size_alloc]; omega) ?_; intro v5 w5 ho5 hg5 hl5))
      go_roundw
      case rel =>
        have z5 := hg5.size
        rw [World.size_alloc] at z5
        have z34 := hx34.size
        have hE5 : Ext w w5 := ext_grown (ext_alloc hE3 _) hg5 (fun b hb => (hown.lt b hb).1)
        have hsep5 : ∀ b, v5.ownBlock = some b → b < w1.heap.size ∨ w2.heap.size ≤ b := fun b hb => by
          rcases hl5 with h | ⟨q, h, h2⟩
          · exact hsep b (by rw [← h]; exact hb)
          · rw [h] at hb; injection hb with hb; subst hb; rw [World.size_alloc] at h2; omega
        have hR5 := ((hR.ext hx34).ext (ext_alloc (Below.refl _ _) (.cells #[.string st] 9))).keep (G := fun b => (Value.slice ao ss.length co).ownBlock = some b) ⟨hg5.os, hg5.tape, hg5.output, hg5.size, fun k hk hn => hg5.block k hk (fun e => hn e.symm)⟩ (fun b hb e => by have := hsep b e; omega)
        refine ⟨k + 1, ss ++ [st], by omega, by go_num, hE5, by rw [List.length_append, List.map_append]; exact ho5, hsep5, by omega, hR5, ?_⟩
        show _ = _
        rw [HTK.out, List.map_append, List.map_append, HS.out]
        simp [tx32, hst]
      case measure => simp [intOf]; omega
    · have h1 : ¬ (((k : Nat) : Int) < ((Ts.length : Nat) : Int)) := by omega
      have hke : k = Ts.length := by omega
      have HKE := Lib.hid hke
      clear hke
      go_wp2
      go_ret
      exact ⟨_, ss, rfl, hown, by rw [HS.out, HKE.out, List.take_length]; exact kids_texts HC.out, hE⟩

end Go.Proofs.YtjkdanmpihildaaGreatDoor

namespace Go.Proofs.YtjkdanmpihildaaGreatDoor
open Go.RowKit
open Cgt (Dag Nd vl Gm Canon Eqv)

def Told (us : List Int) (sg : List UInt8) (sb : ByteArray) : Prop := GT us sg ∧ sb.data.toList = sg ++ txt 32 us
def KnownOk (D : Dag) (fk : Value → Option Value) : Prop := ∀ key v, fk key = some v → ∃ us sg sb i, key = .string sb ∧ Told us sg sb ∧ v = .int .i64 ((i : Nat) : Int) ∧ i < D.length ∧ Canon (vl D i) ∧ Eqv (vl D i) (tg us sg)

structure KAt (w0 w : World) (pp h kb : Nat) (s : PSt) (m : Nat) : Prop where
  pool : PoolAt w pp h s
  all : ∀ x, x < s.D.length → (s.cn x).isSome
  kn : ∃ fk, MapIs Tryz.prog 9 w kb m fk ∧ KnownOk s.D fk
  kb1 : ¬ POwn pp h s kb
  kb2 : ¬ s.S kb
  kb0 : w0.heap.size ≤ kb
  base : ∀ b, POwn pp h s b → w0.heap.size ≤ b
  ext : Ext w0 w

structure GGo (pp h kb : Nat) (s : PSt) (w : World) (s' : PSt) (w' : World) : Prop where
  keep : Keep (fun b => POwn pp h s b ∨ b = kb) w w'
  own : ∀ b, POwn pp h s' b → POwn pp h s b ∨ w.heap.size ≤ b
  lists : ∀ b, s'.S b → s.S b ∨ w.heap.size ≤ b
  more : ∃ E, s'.D = s.D ++ E

theorem GGo.ext {pp h kb : Nat} {s : PSt} {w w' : World} (hx : Ext w w') : GGo pp h kb s w s w' := ⟨keep_ext hx, fun _ h => .inl h, fun _ h => .inl h, ⟨[], by simp⟩⟩
theorem GGo.trans {pp h kb : Nat} {s1 s2 s3 : PSt} {w1 w2 w3 : World} (k : GGo pp h kb s1 w1 s2 w2) (m : GGo pp h kb s2 w2 s3 w3) (hk : kb < w1.heap.size) : GGo pp h kb s1 w1 s3 w3 := by
  have hz := k.keep.size
  refine ⟨k.keep.trans m.keep (fun x hx hi => ?_), fun x hx => ?_, fun x hx => ?_, ?_⟩
  · rcases hi with h | h
    · rcases k.own x h with h | h
      · exact .inl h
      · omega
    · exact .inr h
  · rcases m.own x hx with h1 | h1
    · exact k.own x h1
    · exact .inr (by omega)
  · rcases m.lists x hx with h1 | h1
    · exact k.lists x h1
    · exact .inr (by omega)
  · obtain ⟨E, e⟩ := k.more
    obtain ⟨F, f⟩ := m.more
    exact ⟨E ++ F, by rw [f, e, List.append_assoc]⟩
theorem GGo.pool {pp h kb : Nat} {s s' : PSt} {w w' : World} (k : PGo pp h s w s' w') : GGo pp h kb s w s' w' :=
  ⟨⟨k.keep.os, k.keep.tape, k.keep.output, k.keep.size, fun b hb hn => k.keep.block b hb (fun h => hn (.inl h))⟩, k.own, k.lists, k.more⟩
theorem GGo.len {pp h kb : Nat} {s s' : PSt} {w w' : World} (k : GGo pp h kb s w s' w') : s.D.length ≤ s'.D.length := by
  obtain ⟨E, e⟩ := k.more; rw [e, List.length_append]; omega

def Aside (pp h kb : Nat) (s : PSt) (w : World) (b : Nat) : Prop := b < w.heap.size ∧ ¬ POwn pp h s b ∧ ¬ s.S b ∧ b ≠ kb
theorem Aside.go {pp h kb : Nat} {s s' : PSt} {w w' : World} {b : Nat} (a : Aside pp h kb s w b) (k : GGo pp h kb s w s' w') : Aside pp h kb s' w' b ∧ w'.heap[b]? = w.heap[b]? := by
  have hz := k.keep.size
  obtain ⟨a1, a2, a3, a4⟩ := a
  refine ⟨⟨by omega, fun h1 => ?_, fun h1 => ?_, a4⟩, k.keep.block b a1 (fun h1 => ?_)⟩
  · rcases k.own b h1 with h | h
    · exact a2 h
    · omega
  · rcases k.lists b h1 with h | h
    · exact a3 h
    · omega
  · rcases h1 with h | h
    · exact a2 h
    · exact a4 h
theorem KAt.aside {w0 w w' : World} {pp h kb : Nat} {s : PSt} {m : Nat} (k : KAt w0 w pp h kb s m) {b : Nat} (h1 : w.heap.size ≤ b) (h2 : b < w'.heap.size) : Aside pp h kb s w' b := by
  obtain ⟨fk, hM, _⟩ := k.kn
  refine ⟨h2, fun h => ?_, fun h => ?_, fun h => ?_⟩
  · have := k.pool.ownLt h; omega
  · have := k.pool.listLt h; omega
  · have := hM.lt; omega
theorem KAt.ext' {w0 w w' : World} {pp h kb : Nat} {s : PSt} {m : Nat} (k : KAt w0 w pp h kb s m) (hx : Ext w w') : KAt w0 w' pp h kb s m := by
  obtain ⟨fk, hM, hO⟩ := k.kn
  exact ⟨k.pool.ext hx, k.all, ⟨fk, hM.keep (hx.block _ hM.lt), hO⟩, k.kb1, k.kb2, k.kb0, k.base, ext_trans k.ext hx⟩

theorem KAt.side {w0 w w' : World} {pp h kb : Nat} {s : PSt} {m : Nat} {G : Nat → Prop} (k : KAt w0 w pp h kb s m) (hk : Keep G w w') (hG : ∀ b, G b → Aside pp h kb s w b) (hb : ∀ b, G b → w0.heap.size ≤ b) : KAt w0 w' pp h kb s m := by
  obtain ⟨fk, hM, hO⟩ := k.kn
  exact ⟨k.pool.keep hk (fun b h1 h2 => (hG b h2).2.1 h1) (fun b h1 h2 => (hG b h2).2.2.1 h1), k.all, ⟨fk, hM.keep (hk.block _ hM.lt (fun h => (hG _ h).2.2.2 rfl)), hO⟩, k.kb1, k.kb2, k.kb0, k.base, ext_keep k.ext hk hb⟩

theorem KnownOk.more {D E : Dag} {fk : Value → Option Value} (h : KnownOk D fk) (g : Cgt.WF D) (g' : Cgt.WF (D ++ E)) : KnownOk (D ++ E) fk := by
  intro key v hv
  obtain ⟨us, sg, sb, i, h1, h2, h3, h4, h5, h6⟩ := h key v hv
  refine ⟨us, sg, sb, i, h1, h2, h3, by rw [List.length_append]; omega, ?_, ?_⟩
  · rw [Cgt.vl_append g g' i h4]; exact h5
  · rw [Cgt.vl_append g g' i h4]; exact h6
theorem KnownOk.add {D : Dag} {fk : Value → Option Value} (h : KnownOk D fk) {us : List Int} {sg : List UInt8} {sb : ByteArray} {i : Nat} (ht : Told us sg sb) (hi : i < D.length) (hc : Canon (vl D i)) (he : Eqv (vl D i) (tg us sg)) : KnownOk D (upd (fun _ _ => Classical.propDecidable _) fk (.string sb) (.int .i64 ((i : Nat) : Int))) := by
  intro key v hv
  rcases upd_old hv with ⟨rfl, rfl⟩ | hv
  · exact ⟨us, sg, sb, i, rfl, ht, rfl, hi, hc, he⟩
  · exact h key v hv
theorem told_eq {us us' : List Int} {sg sg' : List UInt8} {sb : ByteArray} (h : Told us sg sb) (k : Told us' sg' sb) : us = us' ∧ sg = sg' :=
  text_inj (by decide) h.1 k.1 (h.2.symm.trans k.2)

def Kid (D : Dag) (us : List Int) (sg : List UInt8) (left : Bool) (l : List Nat) : Prop := (∀ j (h : j < l.length), ∃ e, (edges sg left us.length)[j]? = some e ∧ l[j] < D.length ∧ Eqv (vl D l[j]) (tg (cutU us sg e) (cutS us sg e)))
theorem Kid.nil (D : Dag) (us : List Int) (sg : List UInt8) (left : Bool) : Kid D us sg left [] := fun j h => absurd h (by simp)
theorem Kid.more {D E : Dag} {us : List Int} {sg : List UInt8} {left : Bool} {l : List Nat} (h : Kid D us sg left l) (g : Cgt.WF D) (g' : Cgt.WF (D ++ E)) : Kid (D ++ E) us sg left l := fun j hj => by
  obtain ⟨e, h1, h2, h3⟩ := h j hj
  exact ⟨e, h1, by rw [List.length_append]; omega, by rw [Cgt.vl_append g g' _ h2]; exact h3⟩
theorem Kid.add {D : Dag} {us : List Int} {sg : List UInt8} {left : Bool} {l : List Nat} (h : Kid D us sg left l) {e i : Nat} (he : (edges sg left us.length)[l.length]? = some e) (hi : i < D.length) (hv : Eqv (vl D i) (tg (cutU us sg e) (cutS us sg e))) : Kid D us sg left (l ++ [i]) := fun j hj => by
  by_cases c : j < l.length
  · rw [List.getElem_append_left c]; exact h j c
  · have hj' : j = l.length := by simp at hj; omega
    subst hj'
    simp only [List.getElem_append_right (Nat.le_refl _), Nat.sub_self, List.getElem_cons_zero]
    exact ⟨e, he, hi, hv⟩
theorem Kid.lt {D : Dag} {us : List Int} {sg : List UInt8} {left : Bool} {l : List Nat} (h : Kid D us sg left l) : ∀ x, x ∈ l → x < D.length := fun x hx => by
  obtain ⟨j, hj, rfl⟩ := List.mem_iff_getElem.1 hx
  obtain ⟨e, _, h2, _⟩ := h j hj; exact h2
theorem kid_node {D D' : Dag} {us : List Int} {sg : List UInt8} {l r : List Nat} {i : Nat} (g : GT us sg) (hw : Cgt.WF D) (hw' : Cgt.WF D') (hl : Kid D us sg true l) (hr : Kid D us sg false r) (nl : l.length = (edges sg true us.length).length) (nr : r.length = (edges sg false us.length).length) (p : PutRel D l r D' i) : Eqv (vl D' i) (tg us sg) := by
  obtain ⟨p1, p2⟩ := p
  have hE : ∃ E, D' = D ++ E := by
    rcases p2 with e | e
    · exact ⟨[], by rw [e]; simp⟩
    · exact ⟨_, e⟩
  obtain ⟨E, rfl⟩ := hE
  have hl := hl.more hw hw'
  have hr := hr.more hw hw'
  rw [Cgt.vl_mk hw' p1, tg_eq g]
  have side : ∀ {left : Bool} {q : List Nat}, Kid (D ++ E) us sg left q → q.length = (edges sg left us.length).length →
      (∀ x, x ∈ (sortN q).map (vl (D ++ E)) → ∃ y, y ∈ (edges sg left us.length).map (fun e => tg (cutU us sg e) (cutS us sg e)) ∧ Eqv x y) ∧ (∀ y, y ∈ (edges sg left us.length).map (fun e => tg (cutU us sg e) (cutS us sg e)) → ∃ x, x ∈ (sortN q).map (vl (D ++ E)) ∧ Eqv x y) := by
    intro left q hq hn
    refine ⟨fun x hx => ?_, fun y hy => ?_⟩
    · obtain ⟨a, ha, rfl⟩ := List.mem_map.1 hx
      obtain ⟨j, hj, rfl⟩ := List.mem_iff_getElem.1 (sortN_mem.1 ha)
      obtain ⟨e, h1, h2, h3⟩ := hq j hj
      exact ⟨_, List.mem_map.2 ⟨e, List.mem_of_getElem? h1, rfl⟩, h3⟩
    · obtain ⟨e, he, rfl⟩ := List.mem_map.1 hy
      obtain ⟨j, hj, rfl⟩ := List.mem_iff_getElem.1 he
      obtain ⟨e', h1, h2, h3⟩ := hq j (by omega)
      rw [List.getElem?_eq_getElem hj] at h1
      injection h1 with h1
      rw [← h1] at h3
      exact ⟨_, List.mem_map.2 ⟨_, sortN_mem.2 (List.getElem_mem (by omega)), rfl⟩, h3⟩
  exact mk_eqv (side hl nl).1 (side hl nl).2 (side hr nr).1 (side hr nr).2

theorem miss_one {N f : Nat} {cn : Nat → Option Nat} (h : ∀ x, x < N → x ≠ f → (cn x).isSome) : miss N cn ≤ 1 := by
  unfold miss
  have key : ∀ l : List Nat, l.Nodup → (∀ x, x ∈ l → x < N) → (l.filter fun x => (cn x).isNone).length ≤ 1 := by
    intro l hn hl
    have hs : ∀ x, x ∈ l.filter (fun x => (cn x).isNone) → x = f := fun x hx => by
      obtain ⟨h1, h2⟩ := List.mem_filter.1 hx
      by_cases c : x = f
      · exact c
      · have := h x (hl x h1) c
        cases e : cn x with
        | none => rw [e] at this; cases this
        | some j => simp [e] at h2
    have hd : (l.filter fun x => (cn x).isNone).Nodup := hn.sublist List.filter_sublist
    match hq : l.filter (fun x => (cn x).isNone) with
    | [] => simp
    | [a] => simp
    | a :: b :: t =>
      rw [hq] at hs hd
      have h1 := hs a (by simp)
      have h2 := hs b (by simp)
      rw [h1, h2] at hd
      simp at hd
  exact key _ List.nodup_range (fun x hx => List.mem_range.1 hx)

theorem step_done {w0 w w1 w2 : World} {pp h kb m : Nat} {s s1 s2 : PSt} {l r : List Nat} {f j : Nat} (K : KAt w0 w pp h kb s m) (k1 : PGo pp h s w s1 w1) (p : PutRel s.D l r s1.D f) (hc : s1.cn = s.cn) (k2 : PGo pp h s1 w1 s2 w2) (hj : s2.cn f = some j) (G : Grow s1 f s2) :
    KAt w0 w2 pp h kb s2 m ∧ GGo pp h kb s w s2 w2 ∧ s2.D.length ≤ s.D.length + 2 ∧ j < s2.D.length ∧ Canon (vl s2.D j) ∧ Eqv (vl s2.D j) (vl s1.D f) := by
  have k := k1.trans k2
  have hl1 : s1.D.length ≤ s.D.length + 1 := by
    rcases p.2 with e | e
    · rw [e]; omega
    · rw [e]; simp
  have hf : f < s1.D.length := by
    rcases Nat.lt_or_ge f s1.D.length with h | h
    · exact h
    · have := p.1; rw [List.getElem?_eq_none h] at this; cases this
  have hk1 : ∀ x, x < s1.D.length → x ≠ f → (s1.cn x).isSome := by
    intro x hx hxf
    rw [hc]
    by_cases c : x < s.D.length
    · exact K.all x c
    · exfalso
      rcases p.2 with e | e
      · rw [e] at hx; omega
      · have hxe : x = s.D.length := by rw [e] at hx; simp at hx; omega
        have h1 : s1.D[x]? = some (sortN l, sortN r) := by rw [e, hxe, List.getElem?_append_right (Nat.le_refl _)]; simp
        exact hxf ((List.getElem?_inj hx k1.pool.good.nodup).1 (h1.trans p.1.symm))
  have hm := miss_one hk1
  have hg := G.1 s1.D.length hf (Nat.le_refl _)
  obtain ⟨c1, c2, -⟩ := k2.pool.cnok.ok f j hj
  have hjl := (k2.pool.cnok.lt f j hj).2
  obtain ⟨fk, hM, hO⟩ := K.kn
  have hkl := hM.lt
  obtain ⟨E, hE⟩ := k.more
  have hw2 := k.pool.good.wf
  have hO2 : KnownOk s2.D fk := by rw [hE] at hw2 ⊢; exact hO.more K.pool.good.wf hw2
  refine ⟨⟨k.pool, fun x hx => ?_, ⟨fk, hM.keep (k.keep.block _ hkl K.kb1), hO2⟩, fun h1 => ?_, fun h1 => ?_, K.kb0, fun b hb => ?_, ext_keep K.ext k.keep K.base⟩, GGo.pool k, by omega, hjl, c1, ?_⟩
  · by_cases c : x < s1.D.length
    · by_cases e : x = f
      · rw [e, hj]; rfl
      · have := hk1 x c e
        cases e2 : s1.cn x with
        | none => rw [e2] at this; cases this
        | some y => rw [k2.known x y e2]; rfl
    · exact G.2.2 x (by omega) hx
  · rcases k.own kb h1 with h | h
    · exact K.kb1 h
    · omega
  · rcases k.lists kb h1 with h | h
    · exact K.kb2 h
    · omega
  · rcases k.own b hb with h | h
    · exact K.base b h
    · have := K.ext.size; omega
  · rw [k2.vl k1.pool.good.wf hf] at c2; exact c2

end Go.Proofs.YtjkdanmpihildaaGreatDoor

namespace Go.Proofs.YtjkdanmpihildaaGreatDoor
open Go.RowKit
open Cgt (Dag Nd vl Gm Canon Eqv)

theorem GGo.side {pp h kb : Nat} {s s1 : PSt} {w w1 w3 : World} {G : Nat → Prop} (k : GGo pp h kb s w s1 w1) (hk : Keep G w1 w3) (hG : ∀ b, G b → w.heap.size ≤ b) : GGo pp h kb s w s1 w3 :=
  ⟨k.keep.trans (G := G) (F := fun b => POwn pp h s b ∨ b = kb) hk (fun x hx hg => by have := hG x hg; omega), k.own, k.lists, k.more⟩
theorem GGo.base {w0 w w' : World} {pp h kb m m' : Nat} {s s' : PSt} (k : KAt w0 w' pp h kb s' m') : Ext w0 w' := k.ext

structure GM (w wr : World) (pp h kb : Nat) (s : PSt) (ab : Nat) (v0 v1 : Value) (l0 l1 : List Nat) (X : Nat → Prop) : Prop where
  arr : wr.heap[ab]? = some (.cells #[v0, v1] 101 (0, 0))
  r0 : wr.ownsRow w.heap.size 3 1 v0 l0.length ((toZ l0).map (Value.int .i64))
  r1 : wr.ownsRow w.heap.size 3 1 v1 l1.length ((toZ l1).map (Value.int .i64))
  a0 : ∀ b, v0.ownBlock = some b → Aside pp h kb s wr b ∧ b ≠ ab
  a1 : ∀ b, v1.ownBlock = some b → Aside pp h kb s wr b ∧ b ≠ ab
  a01 : ∀ b, v0.ownBlock = some b → v1.ownBlock ≠ some b
  aab : Aside pp h kb s wr ab
  abw : w.heap.size ≤ ab
  prot : ∀ b, X b → Aside pp h kb s wr b ∧ v0.ownBlock ≠ some b ∧ v1.ownBlock ≠ some b ∧ b ≠ ab

section
variable {w0 w wr w2 w3 wa : World} {pp h kb m ab : Nat} {s s' : PSt} {v0 v1 v' : Value} {l0 l1 : List Nat} {X Y : Nat → Prop}
theorem GM.go (g : GM w wr pp h kb s ab v0 v1 l0 l1 X) (k : GGo pp h kb s wr s' w2) : GM w w2 pp h kb s' ab v0 v1 l0 l1 X ∧ (∀ b, X b → w2.heap[b]? = wr.heap[b]?) := by
  have hG : ∀ b, Aside pp h kb s wr b → ¬ (POwn pp h s b ∨ b = kb) := fun b a h1 => by
    rcases h1 with h1 | h1
    · exact a.2.1 h1
    · exact a.2.2.2 h1
  refine ⟨⟨((g.aab.go k).2).trans g.arr, own_keepG g.r0 k.keep (fun b hb => hG b (g.a0 b hb).1), own_keepG g.r1 k.keep (fun b hb => hG b (g.a1 b hb).1), fun b hb => ⟨((g.a0 b hb).1.go k).1, (g.a0 b hb).2⟩, fun b hb => ⟨((g.a1 b hb).1.go k).1, (g.a1 b hb).2⟩, g.a01, (g.aab.go k).1, g.abw, fun b hb => ⟨((g.prot b hb).1.go k).1, (g.prot b hb).2⟩⟩, fun b hb => ((g.prot b hb).1.go k).2⟩
theorem GM.mono (g : GM w wr pp h kb s ab v0 v1 l0 l1 X) (hX : ∀ b, Y b → X b) : GM w wr pp h kb s ab v0 v1 l0 l1 Y :=
  ⟨g.arr, g.r0, g.r1, g.a0, g.a1, g.a01, g.aab, g.abw, fun b hb => g.prot b (hX b hb)⟩

theorem GM.addX (g : GM w wr pp h kb s ab v0 v1 l0 l1 X) (K : KAt w0 wr pp h kb s m) (hx : Ext wr w2) (hY : ∀ b, Y b → X b ∨ (wr.heap.size ≤ b ∧ b < w2.heap.size)) : GM w w2 pp h kb s ab v0 v1 l0 l1 Y := by
  obtain ⟨g2, -⟩ := g.go (GGo.ext hx)
  refine ⟨g2.arr, g2.r0, g2.r1, g2.a0, g2.a1, g2.a01, g2.aab, g2.abw, fun b hb => ?_⟩
  rcases hY b hb with h1 | ⟨h1, h2⟩
  · exact g2.prot b h1
  · refine ⟨K.aside h1 h2, fun e => ?_, fun e => ?_, fun e => ?_⟩
    · have := (g.a0 b e).1.1; omega
    · have := (g.a1 b e).1.1; omega
    · have := g.aab.1; omega

theorem GM.put0 (g : GM w wr pp h kb s ab v0 v1 l0 l1 X) (hx : Ext wr wa) (hz : wr.heap.size ≤ wa.heap.size) (K : KAt w0 wr pp h kb s m) (hg : wa.grownBy w2 v0.ownBlock) {i n : Nat} {ys : List Value} (ho : w2.ownsRow w.heap.size 3 1 v' n ys) (hn : n = (l0 ++ [i]).length) (hy : ys = (toZ (l0 ++ [i])).map (Value.int .i64)) (hl : Lies wa v0 v') :
    GM w (w2.setCell ⟨ab, 0, none⟩ v') pp h kb s ab v' v1 (l0 ++ [i]) l1 X ∧ Keep (fun b => v0.ownBlock = some b ∨ b = ab) wr (w2.setCell ⟨ab, 0, none⟩ v') ∧ (∀ b, X b → (w2.setCell ⟨ab, 0, none⟩ v').heap[b]? = wr.heap[b]?) ∧ w2.cell? ⟨ab, 0, none⟩ = some v0 ∧ w2.frozen? ⟨ab, 0, none⟩ = false := by
  have hkg := keep_grownO hg
  have hk1 : Keep (fun b => v0.ownBlock = some b ∨ b = ab) wr w2 := (keep_ext hx).trans hkg (fun x _ h => .inl h)
  have hks : Keep (fun b => v0.ownBlock = some b ∨ b = ab) w2 (w2.setCell ⟨ab, 0, none⟩ v') := by
    have := keep_set (w := w2) (p := ⟨ab, 0, none⟩) (v := v')
    exact ⟨this.os, this.tape, this.output, this.size, fun b hb hn => this.block b hb (fun h => hn (.inr h))⟩
  have hk := hk1.trans hks (fun x _ h => h)
  have hxz := hkg.size
  have hab := g.aab.1
  have harr : w2.heap[ab]? = some (.cells #[v0, v1] 101 (0, 0)) := (hkg.block ab (by omega) (fun e => (g.a0 ab e).2 rfl)).trans ((hx.block ab hab).trans g.arr)
  have hL : ∀ b, v'.ownBlock = some b → v0.ownBlock = some b ∨ wr.heap.size ≤ b := fun b hb => by
    rcases hl with e | ⟨c, e, k⟩
    · exact .inl (e ▸ hb)
    · rw [e] at hb; injection hb with hb; exact .inr (by omega)
  have hup : ∀ b, Aside pp h kb s wr b → Aside pp h kb s (w2.setCell ⟨ab, 0, none⟩ v') b := fun b a => ⟨Nat.lt_of_lt_of_le a.1 hk.size, a.2⟩
  have hv' : ∀ b, v'.ownBlock = some b → Aside pp h kb s (w2.setCell ⟨ab, 0, none⟩ v') b ∧ b ≠ ab := fun b hb => by
    rcases hL b hb with e | e
    · exact ⟨hup b (g.a0 b e).1, (g.a0 b e).2⟩
    · exact ⟨K.aside e (Nat.lt_of_lt_of_le (ho.lt b hb).2 hks.size), by omega⟩
  subst hn hy
  have hNoab : ∀ b, v'.ownBlock = some b → ¬ b = ab := fun b hb => (hv' b hb).2
  refine ⟨⟨?_, own_keepG ho (keep_set (p := ⟨ab, 0, none⟩)) hNoab, own_keepG g.r1 hk (fun b hb e => ?_), hv', fun b hb => ⟨hup b (g.a1 b hb).1, (g.a1 b hb).2⟩, fun b hb e => ?_, hup ab g.aab, g.abw, fun b hb => ⟨hup b (g.prot b hb).1, fun e => ?_, (g.prot b hb).2.2⟩⟩, hk, fun b hb => hk.block b (g.prot b hb).1.1 (fun e => ?_), cell_of_row w2 ab 0 _ _ _ harr, frozen_of_row w2 ab 0 _ _ harr⟩
  · have := heap_setCell_same w2 ab 0 _ _ v' harr; exact this
  · rcases e with e | e
    · exact g.a01 b e hb
    · exact (g.a1 b hb).2 e
  · rcases hL b hb with h1 | h1
    · exact g.a01 b h1 e
    · have := (g.a1 b e).1.1; omega
  · rcases hL b e with h1 | h1
    · exact (g.prot b hb).2.1 h1
    · have := (g.prot b hb).1.1; omega
  · rcases e with e | e
    · exact (g.prot b hb).2.1 e
    · exact (g.prot b hb).2.2.2 e
theorem GM.put1 (g : GM w wr pp h kb s ab v0 v1 l0 l1 X) (hx : Ext wr wa) (hz : wr.heap.size ≤ wa.heap.size) (K : KAt w0 wr pp h kb s m) (hg : wa.grownBy w2 v1.ownBlock) {i n : Nat} {ys : List Value} (ho : w2.ownsRow w.heap.size 3 1 v' n ys) (hn : n = (l1 ++ [i]).length) (hy : ys = (toZ (l1 ++ [i])).map (Value.int .i64)) (hl : Lies wa v1 v') :
    GM w (w2.setCell ⟨ab, 1, none⟩ v') pp h kb s ab v0 v' l0 (l1 ++ [i]) X ∧ Keep (fun b => v1.ownBlock = some b ∨ b = ab) wr (w2.setCell ⟨ab, 1, none⟩ v') ∧ (∀ b, X b → (w2.setCell ⟨ab, 1, none⟩ v').heap[b]? = wr.heap[b]?) ∧ w2.cell? ⟨ab, 1, none⟩ = some v1 ∧ w2.frozen? ⟨ab, 1, none⟩ = false := by
  have hkg := keep_grownO hg
  have hk1 : Keep (fun b => v1.ownBlock = some b ∨ b = ab) wr w2 := (keep_ext hx).trans hkg (fun x _ h => .inl h)
  have hks : Keep (fun b => v1.ownBlock = some b ∨ b = ab) w2 (w2.setCell ⟨ab, 1, none⟩ v') := by
    have := keep_set (w := w2) (p := ⟨ab, 1, none⟩) (v := v')
    exact ⟨this.os, this.tape, this.output, this.size, fun b hb hn => this.block b hb (fun h => hn (.inr h))⟩
  have hk := hk1.trans hks (fun x _ h => h)
  have hxz := hkg.size
  have hab := g.aab.1
  have harr : w2.heap[ab]? = some (.cells #[v0, v1] 101 (0, 0)) := (hkg.block ab (by omega) (fun e => (g.a1 ab e).2 rfl)).trans ((hx.block ab hab).trans g.arr)
  have hL : ∀ b, v'.ownBlock = some b → v1.ownBlock = some b ∨ wr.heap.size ≤ b := fun b hb => by
    rcases hl with e | ⟨c, e, k⟩
    · exact .inl (e ▸ hb)
    · rw [e] at hb; injection hb with hb; exact .inr (by omega)
  have hup : ∀ b, Aside pp h kb s wr b → Aside pp h kb s (w2.setCell ⟨ab, 1, none⟩ v') b := fun b a => ⟨Nat.lt_of_lt_of_le a.1 hk.size, a.2⟩
  have hv' : ∀ b, v'.ownBlock = some b → Aside pp h kb s (w2.setCell ⟨ab, 1, none⟩ v') b ∧ b ≠ ab := fun b hb => by
    rcases hL b hb with e | e
    · exact ⟨hup b (g.a1 b e).1, (g.a1 b e).2⟩
    · exact ⟨K.aside e (Nat.lt_of_lt_of_le (ho.lt b hb).2 hks.size), by omega⟩
  subst hn hy
  have hNoab : ∀ b, v'.ownBlock = some b → ¬ b = ab := fun b hb => (hv' b hb).2
  refine ⟨⟨?_, own_keepG g.r0 hk (fun b hb e => ?_), own_keepG ho (keep_set (p := ⟨ab, 1, none⟩)) hNoab, fun b hb => ⟨hup b (g.a0 b hb).1, (g.a0 b hb).2⟩, hv', fun b hb e => ?_, hup ab g.aab, g.abw, fun b hb => ⟨hup b (g.prot b hb).1, (g.prot b hb).2.1, fun e => ?_, (g.prot b hb).2.2.2⟩⟩, hk, fun b hb => hk.block b (g.prot b hb).1.1 (fun e => ?_), cell_of_row w2 ab 1 _ _ _ harr, frozen_of_row w2 ab 1 _ _ harr⟩
  · have := heap_setCell_same w2 ab 1 _ _ v' harr; exact this
  · rcases e with e | e
    · exact g.a01 b hb e
    · exact (g.a0 b hb).2 e
  · rcases hL b e with h1 | h1
    · exact g.a01 b hb h1
    · have := (g.a0 b hb).1.1; omega
  · rcases hL b e with h1 | h1
    · exact (g.prot b hb).2.2.1 h1
    · have := (g.prot b hb).1.1; omega
  · rcases e with e | e
    · exact (g.prot b hb).2.2.1 e
    · exact (g.prot b hb).2.2.2 e
end

end Go.Proofs.YtjkdanmpihildaaGreatDoor
