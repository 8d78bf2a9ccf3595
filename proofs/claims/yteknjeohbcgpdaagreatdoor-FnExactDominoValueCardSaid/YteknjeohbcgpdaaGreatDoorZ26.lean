/-
  Memory: a row of boards, board by board. (4 texts.)
-/
import Derived.Test.YteknjeohbcgpdaaGreatDoorZ13
import Derived.Test.YteknjeohbcgpdaaGreatDoorZ17
import Derived.Test.YteknjeohbcgpdaaGreatDoorZ25
set_option maxRecDepth 100000
namespace Go.Proofs.YteknjeohbcgpdaaGreatDoor
open Tryz
section
open Go.RowKit
open Cgt (Dag Nd vl Same)
def Sup (S:Nat→Prop) (A:World→Prop) (w:World):Prop:=(∀ b,S b→b<w.heap.size)∧∀ w',(∀ b,S b→w'.heap[b]?=w.heap[b]?)→A w'
theorem Sup.out {S:Nat→Prop} {A:World→Prop} {w:World} (h:Sup S A w):A w:=h.2 w fun _ _=>rfl
theorem Sup.keep {S G:Nat→Prop} {A:World→Prop} {w w':World} (h:Sup S A w) (hk:bg G w w') (hd:∀ b,S b→¬ G b):Sup S A w' :=
 ⟨fun b hb=>Nat.lt_of_lt_of_le (h.1 b hb) hk.size,fun w2 h2=>h.2 w2 fun b hb=>(h2 b hb).trans (hk.block b (h.1 b hb) (hd b hb))⟩
theorem Sup.ext {S:Nat→Prop} {A:World→Prop} {w w':World} (h:Sup S A w) (hk:Ext w w'):Sup S A w':=h.keep (bZ (F:=fun _=>False) hk) fun _ _=>id
theorem Sup.mono {S T:Nat→Prop} {A B:World→Prop} {w:World} (h:Sup S A w) (hS:∀ b,S b→T b) (hT:∀ b,T b→b<w.heap.size) (hA:∀ W,A W→B W):Sup T B w :=
 ⟨hT,fun w2 h2=>hA _ (h.2 w2 fun b hb=>h2 b (hS b hb))⟩
theorem Ints.sup {w:World} {v:Value} {l:List Int} (h:Ints w v l) {S:Nat→Prop} (hS:∀ b,S b→b<w.heap.size) (hv:∀ b,v.ownBlock=some b→S b):Sup S (fun W=>Ints W v l) w :=
 ⟨hS,fun _ h2=>h.keep fun b _ hb=>h2 b (hv b hb)⟩
theorem bP.sup {w:World} {base:Nat} {v:Value} {F:Dag} (h:bP w base v F) {S:Nat→Prop} (hS:∀ b,S b→b<w.heap.size) (hv:∀ b,base≤b→b<w.heap.size→S b):Sup S (fun W=>bP W 0 v F) w:=by
 refine⟨hS,fun w2 h2=>?_⟩
 obtain⟨a,cap,rfl,h1,h3,h4⟩:=h
 refine⟨a,cap,rfl,h1,h3,fun h0=>?_⟩
 obtain⟨b,rfl,hb,hc⟩:=h4 h0
 refine⟨b,rfl,Nat.zero_le _,fun i hi=>?_⟩
 obtain⟨L,R,c1,c2,c3,c4,c5,c6⟩:=hc i hi
 have e:=h2 b (hv b hb (lt_of_cell c1))
 have key:∀ {v:Value} {l:List Int},Ints w v l→(∀ b,v.ownBlock=some b→base≤b∧b<w.heap.size)→Ints w2 v l∧∀ b,v.ownBlock=some b→l≠[]→b<w2.heap.size:=fun hI hb=>by
  have k:=hI.keep (w':=w2) fun b _ he=>h2 b (hv b (hb b he).1 (hb b he).2)
  exact⟨k,fun b he hl=>k.blk hl he⟩
 have hlt:∀ b,base≤b∧b<w.heap.size→b<w2.heap.size:=fun b hb=>by
  have:=h2 b (hv b hb.1 hb.2)
  rw[Array.getElem?_eq_getElem hb.2] at this
  exact(Array.getElem?_eq_some_iff.1 this).1
 exact⟨L,R,by rw[World.cell?_of_block (w:=w) e];exact c1,by rw[World.cell?_of_block (w:=w) e];exact c2,(key c3 c5).1,(key c4 c6).1,fun b hb=>⟨Nat.zero_le _,hlt b (c5 b hb)⟩,fun b hb=>⟨Nat.zero_le _,hlt b (c6 b hb)⟩⟩
def Items {α:Type} (R:World→List Value→α→Prop) (S:Nat→Prop) (size:Nat) (xs:List Value) (Ts:List α) (w:World):Prop :=
 xs.length=Ts.length*size∧Sup S (fun W=>∀ i (h:i<Ts.length),R W ((xs.drop (i*size)).take size) Ts[i]) w
theorem Items.nil {α:Type} {R:World→List Value→α→Prop} {S:Nat→Prop} {size:Nat} {w:World} (hS:∀ b,S b→b<w.heap.size):Items R S size [] [] w :=
 ⟨by simp,hS,fun _ _ i h=>absurd h (by simp)⟩
theorem Items.keep {α:Type} {R:World→List Value→α→Prop} {S G:Nat→Prop} {size:Nat} {xs:List Value} {Ts:List α} {w w':World} (h:Items R S size xs Ts w) (hk:bg G w w') (hd:∀ b,S b→¬ G b):Items R S size xs Ts w':=⟨h.1,h.2.keep hk hd⟩
theorem Items.ext {α:Type} {R:World→List Value→α→Prop} {S:Nat→Prop} {size:Nat} {xs:List Value} {Ts:List α} {w w':World} (h:Items R S size xs Ts w) (hk:Ext w w'):Items R S size xs Ts w':=⟨h.1,h.2.ext hk⟩
theorem Items.mono {α:Type} {R:World→List Value→α→Prop} {S T:Nat→Prop} {size:Nat} {xs:List Value} {Ts:List α} {w:World} (h:Items R S size xs Ts w) (hS:∀ b,S b→T b) (hT:∀ b,T b→b<w.heap.size):Items R T size xs Ts w :=
 ⟨h.1,h.2.mono hS hT fun _ h=>h⟩
theorem Items.snoc {α:Type} {R:World→List Value→α→Prop} {S:Nat→Prop} {size:Nat} {xs ys:List Value} {Ts:List α} {t:α} {w:World} (h:Items R S size xs Ts w) (hy:ys.length=size) (k:Sup S (fun W=>R W ys t) w):Items R S size (xs++ys) (Ts++[t]) w:=by
 refine⟨by simp[h.1,hy,Nat.add_mul],h.2.1,fun w2 h2 i hi=>?_⟩
 by_cases c:i<Ts.length
 · rw[List.getElem_append_left c]
   have hm:i*size+size≤Ts.length*size:=by rw[← Nat.succ_mul];exact Nat.mul_le_mul_right _ c
   rw[List.drop_append_of_le_length (by rw[h.1];omega),List.take_append_of_le_length (by rw[List.length_drop,h.1];omega)]
   exact h.2.2 w2 h2 i c
 · have e:i=Ts.length:=by simp at hi;omega
   subst e
   rw[List.getElem_append_right (Nat.le_refl _),← h.1,List.drop_left,List.take_of_length_le (by omega)]
   simpa using k.2 w2 h2
def KS (w wr:World) (v:Value) (b:Nat):Prop:=w.heap.size≤b∧b<wr.heap.size∧v.ownBlock≠some b
theorem Items.push {α:Type} {R:World→List Value→α→Prop} {w wr w1 w5:World} {v v5:Value} {size base e n:Nat} {xs ys zs:List Value} {Ts:List α} {t:α} {X:Obj} (hit:Items R (KS w wr v) size xs Ts wr) (hE:Ext w wr) (hx:Ext wr w1) (ho:wr.ownsRow base e size v n zs) (hy:ys.length=size)
 (hn:Sup (fun b=>wr.heap.size≤b∧b<w1.heap.size) (fun W=>R W ys t) w1) (hg:(w1.alloc X).grownBy w5 v.ownBlock) (hl:eU (w1.alloc X) v v5):Items R (KS w w5 v5) size (xs++ys) (Ts++[t]) w5:=by
 have z0:=hE.size
 have z1:=hx.size
 have z5:=hg.size
 rw[sA_] at z5
 have key:∀ b,KS w w1 v b→KS w w5 v5 b:=fun b hb=>⟨hb.1,by have:=hb.2.1;omega,fun e=>by
  rcases hl with h | ⟨q,h,h2⟩
  · exact hb.2.2 (by rw[← h];exact e)
  · rw[h] at e;injection e with e;rw[sA_] at h2;have:=hb.2.1;omega⟩
 have h1:Items R (KS w w1 v) size (xs++ys) (Ts++[t]) w1 :=
  Items.snoc ((hit.ext hx).mono (fun b hb=>⟨hb.1,by have:=hb.2.1;omega,hb.2.2⟩) (fun b hb=>hb.2.1)) hy (hn.mono (fun b hb=>⟨by omega,hb.2,fun e=>by have:=(ho.lt b e).2;omega⟩) (fun b hb=>hb.2.1) (fun _ h=>h))
 exact((h1.ext (aM (Below.refl _ _) X)).keep (G:=fun b=>v.ownBlock=some b) ⟨hg.os,hg.tape,hg.output,hg.size,fun k hk hn=>hg.block k hk (fun e=>hn e.symm)⟩ (fun b hb=>hb.2.2)).mono key (fun b hb=>hb.2.1)
def Rows {α:Type} (R:World→List Value→α→Prop) (size:Nat) (S:Nat→Prop) (w:World) (v:Value) (Ts:List α):Prop :=
 ∃ xs a cap,v=.slice a Ts.length cap∧Ts.length≤cap∧cap≤maxLen∧Items R S size xs Ts w∧(0<Ts.length→∃ b,a=some ⟨b,0,none⟩∧S b∧∀ j,j<Ts.length*size→w.cell? ⟨b,j,none⟩=xs[j]?)
theorem Rows.keep {α:Type} {R:World→List Value→α→Prop} {S G:Nat→Prop} {size:Nat} {v:Value} {Ts:List α} {w w':World} (h:Rows R size S w v Ts) (hk:bg G w w') (hd:∀ b,S b→¬ G b):Rows R size S w' v Ts:=by
 obtain⟨xs,a,cap,rfl,h1,h2,h3,h4⟩:=h
 refine⟨xs,a,cap,rfl,h1,h2,h3.keep hk hd,fun h0=>?_⟩
 obtain⟨b,rfl,hb,hc⟩:=h4 h0
 exact⟨b,rfl,hb,fun j hj=>by rw[World.cell?_of_block (w:=w) (hk.block b (h3.2.1 b hb) (hd b hb))];exact hc j hj⟩
theorem Rows.ext {α:Type} {R:World→List Value→α→Prop} {S:Nat→Prop} {size:Nat} {v:Value} {Ts:List α} {w w':World} (h:Rows R size S w v Ts) (hk:Ext w w'):Rows R size S w' v Ts:=h.keep (bZ (F:=fun _=>False) hk) fun _ _=>id
theorem Rows.bG {α:Type} {R:World→List Value→α→Prop} {S T:Nat→Prop} {size base e n:Nat} {v:Value} {xs:List Value} {Ts:List α} {w:World} (h:w.ownsRow base e size v n xs) (hn:n=Ts.length) (hi:Items R S size xs Ts w) (hS:∀ b,S b→T b) (hv:∀ b,v.ownBlock=some b→T b) (hT:∀ b,T b→b<w.heap.size):Rows R size T w v Ts:=by
 subst hn
 obtain⟨a,cap,rfl,h1,h2⟩:=az h
 refine⟨xs,a,cap,rfl,h1,h2,hi.mono hS hT,fun h0=>?_⟩
 obtain⟨g,cap',he,_,_,hc⟩:=dC h h0
 simp only[Value.slice.injEq] at he
 obtain⟨rfl,-,rfl⟩:=he
 exact⟨g,rfl,hv g rfl,hc⟩
def Rz (W:World) (ys:List Value) (t:List Int × ByteArray):Prop:=∃ aU cU,ys=[.slice aU t.1.length cU,.string t.2]∧Ints W (.slice aU t.1.length cU) t.1
def lg (W:World) (ys:List Value) (F:Dag):Prop:=∃ aN cN,ys=[.slice aN F.length cN]∧bP W 0 (.slice aN F.length cN) F
theorem take_at {xs ys:List Value} {i m j:Nat} (h:(xs.drop i).take m=ys) (hj:j<m):xs[i+j]?=ys[j]?:=by rw[← h,List.getElem?_take,if_pos hj,List.getElem?_drop]
theorem Rows.forms {S:Nat→Prop} {w:World} {v:Value} {Fs:List Dag} (h:Rows lg 1 S w v Fs):Forms w v Fs:=by
 obtain⟨xs,a,cap,rfl,h1,h2,h3,h4⟩:=h
 refine⟨a,cap,rfl,h1,by omega,fun h0=>?_⟩
 obtain⟨b,rfl,hb,hc⟩:=h4 h0
 refine⟨b,rfl,fun i hi=>?_⟩
 obtain⟨aN,cN,e,hN⟩:=h3.2.out i hi
 refine⟨aN,cN,?_,hN⟩
 have k:=take_at e (j:=0) (by omega)
 rw[Nat.mul_one] at k
 rw[hc i (by omega)];exact k
theorem Rows.tree {S:Nat→Prop} {w:World} {v:Value} {Ts:List (List Int × ByteArray)} (h:Rows Rz 2 S w v Ts) {i:Nat} (hi:i<Ts.length) :
 ∃ b cap aU cU,v=.slice (some ⟨b,0,none⟩) Ts.length cap∧S b∧w.cell? ⟨b,i*2,none⟩=some (.slice aU (Ts[i]).1.length cU)∧w.cell? ⟨b,i*2+1,none⟩=some (.string (Ts[i]).2)∧Sup S (fun W=>Ints W (.slice aU (Ts[i]).1.length cU) (Ts[i]).1) w:=by
 obtain⟨xs,a,cap,rfl,h1,h2,h3,h4⟩:=h
 obtain⟨b,rfl,hb,hc⟩:=h4 (by omega)
 obtain⟨aU,cU,e,hN⟩:=h3.2.out i hi
 have k0:=take_at e (j:=0) (by omega)
 have k1:=take_at e (j:=1) (by omega)
 refine⟨b,cap,aU,cU,rfl,hb,by rw[hc _ (by omega)];exact k0,by rw[hc _ (by omega)];exact k1,h3.2.1,fun w2 h2=>?_⟩
 obtain⟨aU',cU',e',hN'⟩:=h3.2.2 w2 h2 i hi
 rw[e] at e'
 simp only[List.cons.injEq,Value.slice.injEq,true_and,and_true] at e'
 obtain⟨rfl,rfl⟩:=e'
 exact hN'
end
section
open Go.RowKit
open Cgt (Brd GB bD Cs gQ bV plc nxr nxc can fr)
def ow (W:World) (ys:List Value) (b:Brd):Prop:=∃ a c ss,ys=[.slice a (List.length ss) c]∧Strs W (.slice a (List.length ss) c) ss∧bd ss=b
theorem KG (r:List Bool) (c:Nat):jC (r.set c false)=(jC r).set c 35:=by unfold jC;rw[List.map_set];rfl
theorem Eo (cl:Cl) (r:Nat):(eH cl).getD r []=jC (cl.getD r []):=by
 unfold eH
 rw[List.getD_eq_getElem?_getD,List.getD_eq_getElem?_getD,List.getElem?_map]
 cases cl[r]? <;> rfl
theorem wV (cl:Cl) (r c:Nat):eH (iM cl r c false)=Cgt.fI (eH cl) r c:=by
 unfold Cgt.fI
 rw[Eo,← KG]
 unfold eH iM
 rw[List.map_set]
theorem Dr {ss:List ByteArray} {hh ww:Nat} (g:GB (bd ss) hh ww):eH (cK ss)=bd ss:=by
 unfold eH cK bd
 rw[List.map_map]
 apply List.map_congr_left
 intro s hs
 simp only[Function.comp_def,kM,jC,List.map_map]
 have:=(g.row (bdr s) (List.mem_map.2 ⟨s,hs,rfl⟩)).2
 conv=>rhs;rw[← List.map_id (bdr s)]
 apply List.map_congr_left
 intro c hc
 rcases this c hc with e | e <;> rw[e] <;> rfl
theorem I4 {ss:List ByteArray} {hh ww:Nat} (g:GB (bd ss) hh ww) (left:Bool) (i k:Nat):eH (iM (iM (cK ss) i k false) (nxr left i) (nxc left k) false)=plc left (bd ss) i k:=by
 rw[wV,wV,Dr g];rfl
theorem JX (ss:List ByteArray) {hh ww:Nat} (s:Sz (cK ss) hh ww) (left:Bool) (i k:Nat):can left (fr (bd ss)) i k=(gat (cK ss) i k && isC (cK ss) hh ww (nxr left i:Nat) (nxc left k:Nat)):=by
 rw[← yL,Bool.eq_iff_iff,Cgt.gz,Bool.and_eq_true]
 unfold isC
 simp only[Bool.and_eq_true,decide_eq_true_eq,Int.toNat_natCast]
 constructor
 · rintro⟨h1,h2⟩
   have:=mE s h2
   exact⟨h1,⟨by omega,by omega⟩,h2⟩
 · rintro⟨h1,_,h2⟩
   exact⟨h1,h2⟩
theorem oV {left:Bool} {b:Brd} {r k:Nat} (h:can left (fr b) r k=false):gQ left b r (k+1)=gQ left b r k:=by rw[Cgt.Aq,h];simp
theorem xm {left:Bool} {b:Brd} {r k:Nat} (h:can left (fr b) r k=true):gQ left b r (k+1)=gQ left b r k++[plc left b r k]:=by rw[Cgt.Aq,h];simp
theorem sM:(prog.info? 31).map (fun i=>(i.zero,i.size,i.bytes))=some (some (.agg #[.slice none 0 0]),1,24):=by kernel_rfl
def yZ (left:Bool) (b:Brd) (hh ww:Nat) (w:World) (e:Ending) (w':World):Prop :=
 ∃ v,e=.returned v∧Rows ow 1 (fun b=>w.heap.size≤b∧b<w'.heap.size) w' v (bV left b ww hh)∧Ext w w'
theorem Gr.mark {w:World} {B:Nat} {v:Value} {sl:Nat→Value} {cl:Cl} {hh ww:Nat} (h:Gr w B v sl cl) (s:Sz cl hh ww) {i k g c:Nat} (hi:i<hh) (hk:k<ww) (e:sl i=.slice (some ⟨g,0,none⟩) ww c) (x:Bool) :
 Gr (w.setCell ⟨g,k,none⟩ (.bool x)) B v sl (iM cl i k x)∧Sz (iM cl i k x) hh ww∧B≤g:=by
 have hi':i<cl.length:=by have:=s.hgt;omega
 have hw:=s.at hi'
 exact⟨h.set hi' (by rw[hw];exact hk) (by rw[e,hw]) x,s.set i k x,(h.lt (.inr ⟨i,hi',by rw[e];rfl⟩)).1⟩
theorem Gr.at2 {w:World} {B:Nat} {v:Value} {sl:Nat→Value} {cl:Cl} {hh ww:Nat} (h:Gr w B v sl cl) (s:Sz cl hh ww) {i k:Nat} (hi:i<hh) (hk:k<ww) :
 ∃ gt ct g c,v=.slice (some ⟨gt,0,none⟩) hh ct∧sl i=.slice (some ⟨g,0,none⟩) ww c∧w.cell? ⟨gt,i,none⟩=some (.slice (some ⟨g,0,none⟩) ww c)∧w.cell? ⟨g,k,none⟩=some (.bool (gat cl i k))∧w.frozen? ⟨g,k,none⟩=false:=by
 have hi':i<cl.length:=by have:=s.hgt;omega
 have hw:=s.at hi'
 obtain⟨gt,ct,et,htop⟩:=h.top hi'
 obtain⟨g,c,eg,hb,hf⟩:=h.cell hi' (show k<cl[i].length by omega)
 rw[s.hgt] at et
 rw[hw] at eg
 rw[eg] at htop
 exact⟨gt,ct,g,c,et,eg,htop,by rw[hb,Da hi' (by omega)],hf⟩
theorem Gr.rowAt {w:World} {B:Nat} {v:Value} {sl:Nat→Value} {cl:Cl} {hh ww:Nat} (h:Gr w B v sl cl) (s:Sz cl hh ww) {i:Nat} (hi:i<hh) :
 ∃ gt ct a c,v=.slice (some ⟨gt,0,none⟩) hh ct∧sl i=.slice a ww c∧w.cell? ⟨gt,i,none⟩=some (.slice a ww c):=by
 have hi':i<cl.length:=by have:=s.hgt;omega
 have hw:=s.at hi'
 obtain⟨gt,ct,et,htop⟩:=h.top hi'
 obtain⟨a,c,er,-⟩:=h.FJ hi'
 rw[s.hgt] at et
 rw[hw] at er
 rw[er] at htop
 exact⟨gt,ct,a,c,et,er,htop⟩
structure MvM (w w1 wr:World) (ov:Value) (xs:List Value) (bs:List Brd):Prop where
 keep:bg (fun b=>b=w.heap.size+1) w1 wr
 own:wr.ownsRow (w.heap.size+1) 31 1 ov bs.length xs
 sep:∀ b,ov.ownBlock=some b→b=w.heap.size+1∨w1.heap.size≤b
 it:Items ow (KS w wr ov) 1 xs bs wr
theorem MvM.ext {w w1 wr:World} {ov:Value} {xs:List Value} {bs:List Brd} (m:MvM w w1 wr ov xs bs) (hx:Ext w w1):Ext w wr:=iD hx m.keep fun x h=>by omega
theorem MvM.grid {w w1 wr:World} {ov:Value} {xs:List Value} {bs:List Brd} (m:MvM w w1 wr ov xs bs) {B:Nat} {v:Value} {sl:Nat→Value} {cl:Cl} (h:Gr w1 B v sl cl) (hB:w.heap.size+2≤B):Gr wr B v sl cl :=
 h.keep m.keep fun b hb e=>by have:=(h.lt hb).1;omega
theorem MvM.push {w w1 wr w4 w5:World} {ov v' v5:Value} {xs:List Value} {bs:List Brd} {ss':List ByteArray} {y:Brd} {X:Obj} (m:MvM w w1 wr ov xs bs) (hx1:Ext w w1) (hx:Ext wr w4)
 (hr:w4.ownsRow wr.heap.size 9 1 v' ss'.length (ss'.map Value.string)) (hy:bd ss'=y) (h8:ss'.length≤8)
 (ho:w5.ownsRow (w.heap.size+1) 31 1 v5 (bs.length+1) (xs++[v'])) (hg:(w4.alloc X).grownBy w5 ov.ownBlock) (hl:eU (w4.alloc X) ov v5):MvM w w1 w5 v5 (xs++[v']) (bs++[y]):=by
 have hz:(w4.alloc X).heap.size=w4.heap.size+1:=sA_ _ _
 have z1:=m.keep.size
 have z4:=hx.size
 obtain⟨a,c,rfl,-,-⟩:=az hr
 refine⟨?_,by rw[List.length_append];exact ho,fun b hb=>?_,Items.push m.it (m.ext hx1) hx m.own rfl ⟨fun b hb=>hb.2,fun W hW=>⟨a,c,ss',rfl,?_,hy⟩⟩ hg hl⟩
 · have hk:bg (fun b=>ov.ownBlock=some b) wr w5:=⟨hg.os.trans hx.os,hg.tape.trans hx.tape,hg.output.trans hx.output,by have:=hg.size;omega,fun b hb hn=>by
    rw[hg.block b (by omega) (fun e=>hn e.symm),Below.heap_alloc _ _ _ (by omega),hx.block b hb]⟩
   exact m.keep.trans hk fun b hb e=>by rcases m.sep b e with k | k;exact k;omega
 · rcases hl with e | ⟨q,e,k⟩
   · exact m.sep b (by rw[← e];exact hb)
   · rw[e] at hb;injection hb with hb;exact .inr (by omega)
 · have:Strs w4 (.slice a ss'.length c) ss':=Strs.bG hr (by omega)
   exact gH.keep this fun b _ hb=>hW b ⟨(hr.lt b hb).1,(hr.lt b hb).2⟩
theorem MvM.drewN {w w1 wr:World} {ov:Value} {xs:List Value} {bs:List Brd} (m:MvM w w1 wr ov xs bs) (n:Nat):MvM w w1 (wr.drewN n) ov xs bs :=
 ⟨⟨m.keep.os,m.keep.tape,m.keep.output,m.keep.size,m.keep.block⟩,own_drewN m.own n,m.sep,(m.it.ext (bN (Below.refl _ _) n)).mono (fun _ h=>h) fun _ h=>h.2.1⟩
end
section
open Go.RowKit
open Cgt (Brd GB bD Cs gQ bV plc nxr nxc can fr)
set_option maxHeartbeats 4000000 in
theorem Cm (v:Value) (ss:List ByteArray) (hh ww:Nat) (left:Bool) (w:World) (h:Strs w v ss) (g:GB (bd ss) hh ww) :
 Calls prog 129 #[.agg #[v],.bool left] w (yZ left (bd ss) hh ww w):=by
 obtain⟨a,cap,rfl,hcap,hml⟩:=h.open
 obtain⟨i0,hi0,hz0',hz1',hz2'⟩:=info_parts sM
 have h8:=g.h1
 have w8:=g.w1
 have hbb:((w.alloc (.cells #[.slice a ss.length cap] 31)).alloc (.cells #[] 31)).heap[w.heap.size]?=some (.cells #[.slice a ss.length cap] 31 (0,0)):=by
  rw[Below.heap_alloc _ _ _ (by simp)];exact heap_alloc_new _ _
 have hr0:=World.ownsRow_made (w.alloc (.cells #[.slice a ss.length cap] 31)) (base:=w.heap.size+1) (e:=31) (size:=1) #[] 0 (by rw[sA_];omega) (by decide) (by simp)
 have hx0:Ext w ((w.alloc (.cells #[.slice a ss.length cap] 31)).alloc (.cells #[] 31)):=by go_grown
 rw[sA_] at hr0
 have hzb:((w.alloc (.cells #[.slice a ss.length cap] 31)).alloc (.cells #[] 31)).heap.size=w.heap.size+2:=by rw[sA_,sA_]
 have HZB:=Hd_ hzb
 have hcell:∀ W,Ext w W→Calls prog 75 #[.agg #[.slice a ss.length cap]] W fun e w'=>∃ v' sl,e=.returned v'∧Gr w' W.heap.size v' sl (cK ss)∧Ext W w':=fun W hW=>l7 _ ss hh ww W (h.ext hW) g
 have HG:=Hd_ g
 have HSZ:=Hd_ (jA g)
 have Rb:=Hd_ (JX ss (jA g) left)
 have QZ:=Hd_ (I4 g left)
 have hnn:=(jA g).hgt
 clear g hzb
 go_enter Tryz.func129,Tryz.ntmps129
 cases left with
 | true =>
   go_upto_region 6 with (go_at_call 75;refine(hcell _ hx0).mono ?_;rintro e w1 ⟨vc,sl,rfl,hG,hx1⟩;obtain⟨gc,cc,rfl,-,-⟩:=hG.len)
   have Mh:∀ (i k:Nat) (W:World),Gr W (w.heap.size+2) (.slice gc hh cc) sl (cK ss)→Calls prog 172 #[.slice gc hh cc,.int .i64 ((i:Int)+1),.int .i64 (k:Int)] W fun e w'=>e=.returned (.bool (isC (cK ss) hh ww (nxr true i:Nat) (nxc true k:Nat)))∧RD W w':=fun i k W hW=>uB _ sl _ hh ww _ _ _ W hW HSZ.out h8 w8
   have HZ1:Hid (w.heap.size+2≤w1.heap.size):=Hd_ (by have:=hx1.size;have:=HZB.out;omega)
   have hE1:=Hd_ (aa hx0 hx1)
   have hzz:w.heap.size+2=((w.alloc (.cells #[.slice a ss.length cap] 31)).alloc (.cells #[] 31)).heap.size:=by rw[sA_,sA_]
   have CW:=(hx1.block _ (ah hbb)).trans hbb
   rw[← hzz] at hG
   rw[hnn] at hG
   have hM0:MvM w w1 w1 (.slice (some ⟨w.heap.size+1,0,none⟩) 0 0) [] [] :=
    ⟨bZ (Below.refl _ _),aJ hr0 hx1,fun b hb=>by simp[Value.ownBlock] at hb;exact .inl hb.symm,Items.nil fun b hb=>hb.2.1⟩
   have HB1:=Hd_ CW
   have HGR:=Hd_ hG
   clear hG CW hzz hbb hr0 hx0 hx1 hcap hml hnn
   go_wp2
   go_loopw [5,9,10,11] (fun ov ii _ _ wr=>∃ (i:Nat) (xs:List Value) (bs:List Brd),ii=.int .i64 ((i:Nat):Int)∧i≤hh∧MvM w w1 wr ov xs bs∧Hid (bs=bV true (bd ss) ww i)) (fun _ ii _ _ _=>hh-(intOf ii).toNat)
   case atStart=>exact⟨0,[],[],rfl,Nat.zero_le _,hM0,Hd_ rfl⟩
   case round =>
    clear hM0
    obtain⟨i,xs,bs,rfl,hi,hM,HBS⟩:=hrel
    by_cases hlt:i<hh
    · have hil:((i:Nat):Int)<((hh:Nat):Int):=by omega
      have HLT:=Hd_ hlt
      obtain⟨gt,ct,ar,cr,et,er,hct⟩:=(hM.grid HGR.out (Nat.le_refl _)).rowAt HSZ.out hlt
      simp only[Value.slice.injEq,true_and] at et
      obtain⟨rfl,rfl⟩:=et
      clear er hlt
      go_wp2
      go_loopw [5,10,11] (fun ov kk _ wr=>∃ (k:Nat) (xs:List Value) (bs:List Brd),kk=.int .i64 ((k:Nat):Int)∧k≤ww∧MvM w w1 wr ov xs bs∧Hid (bs=bV true (bd ss) ww i++gQ true (bd ss) i k)) (fun _ kk _ _=>ww-(intOf kk).toNat)
      case atStart=>exact⟨0,xs,bs,rfl,Nat.zero_le _,hM,Hd_ (by rw[HBS.out];simp[gQ])⟩
      case round =>
       clear hM HBS hct
       obtain⟨k,xs,bs,rfl,hk,hM,HBS⟩:=hrel
       have hGr:=hM.grid HGR.out (Nat.le_refl _)
       obtain⟨gt',ct',ar',cr',et,er,hct⟩:=hGr.rowAt HSZ.out HLT.out
       simp only[Value.slice.injEq,true_and,Option.some.injEq,Addr.mk.injEq,and_true] at et
       obtain⟨rfl,rfl⟩:=et
       by_cases hkl:k<ww
       · have hkl':((k:Nat):Int)<((ww:Nat):Int):=by omega
         have HKL:=Hd_ hkl
         obtain⟨gt2,ct2,g2,c2,et2,eg2,htop,hbit,hfz⟩:=hGr.at2 HSZ.out HLT.out hkl
         rw[eg2] at er
         simp only[Value.slice.injEq,true_and] at er
         obtain⟨rfl,rfl⟩:=er
         simp only[Value.slice.injEq,true_and,Option.some.injEq,Addr.mk.injEq,and_true] at et2
         obtain⟨rfl,rfl⟩:=et2
         have HIC:=Rb.out i k
         have mV:=Mh i k wr hGr
         have hEr:=hM.ext hE1.out
         have HM:=Hd_ hM
         have HER:=Hd_ hEr
         have HGr:=Hd_ hGr
         clear hM hGr hEr htop eg2 hkl hfz
         cases hg0:gat (cK ss) i k with
         | false =>
           rw[hg0] at hbit HIC
           have HN:=Hd_ (oV HIC)
           clear hg0 HIC mV
           go_wp2
           go_roundw
           case rel=>exact⟨k+1,xs,bs,by go_num,HKL.out,HM.out,Hd_ (by rw[HBS.out,HN.out])⟩
           case measure=>have:=HKL.out;simp[intOf];omega
         | true =>
           rw[hg0] at hbit HIC
           rw[Bool.true_and] at HIC
           cases hic:isC (cK ss) hh ww (nxr true i:Nat) (nxc true k:Nat) with
           | false =>
             rw[hic] at HIC mV
             have HN:=Hd_ (oV HIC)
             clear hg0 HIC hic
             go_wp2_with (go_at_call 172;refine mV.mono ?_;rintro e w2 ⟨rfl,m,rfl⟩)
             go_roundw
             case rel=>exact⟨k+1,xs,bs,by go_num,HKL.out,HM.out.drewN m,Hd_ (by rw[HBS.out,HN.out])⟩
             case measure=>have:=HKL.out;simp[intOf];omega
           | true =>
             rw[hic] at HIC mV
             have HN:=Hd_ (xm HIC)
             have hab:nxr true i<hh∧nxc true k<ww:=by
              unfold isC at hic
              simp only[Bool.and_eq_true,decide_eq_true_eq] at hic
              omega
             have HAB:=Hd_ hab
             have hbr:=HB1.out
             clear hg0 HIC hic hab
             go_upto_region 13 with (go_at_call 172;refine mV.mono ?_;rintro e w2 ⟨rfl,m,rfl⟩)
             have hMd:=HM.out.drewN m
             have hbd:(wr.drewN m).heap[w.heap.size]?=some (.cells #[.slice a ss.length cap] 31 (0,0)):=(hMd.keep.block _ (ah hbr) (by omega)).trans hbr
             have hEd:=hMd.ext hE1.out
             obtain⟨ao,co,rfl,-,-⟩:=az hMd.own
             have hbl:bs.length≤100:=by
              rw[HBS.out,List.length_append]
              have l1:=Cgt.pG true (bd ss) ww i
              have l2:=Cgt.sF true (bd ss) i k
              have l3:=Nat.mul_le_mul (show i≤8 by omega) w8.2
              omega
             clear hbr HER HGr HM mV hbit
             generalize wr.drewN m=wd at *
             have c0d:=cell_of_row wd w.heap.size 0 _ _ _ hbd
             simp only[gE] at c0d
             go_upto_region 14 with (go_at_call 75;refine(hcell _ hEd).mono ?_;rintro e w2 ⟨vn,sn,rfl,hGn,hx2⟩)
             obtain⟨gn,cn,gi,ci,rfl,en,hn1,hn2,hn3⟩:=hGn.at2 HSZ.out HLT.out HKL.out
             obtain⟨hG3,hS3,hgi⟩:=hGn.mark HSZ.out HLT.out HKL.out en false
             have hx3:=hx2.setCell (p:=⟨gi,k,none⟩) hgi (.bool false)
             go_upto_region 15 with fail
             have HEd:=Hd_ hEd
             have HMd:=Hd_ hMd
             clear hGn hx2 en hn1 hn2 hn3 hbd c0d hEd hMd hgi
             generalize w2.setCell ⟨gi,k,none⟩ (.bool false)=w3 at *
             obtain⟨gn',cn',g5,c5,e1,e5,m1,m2,m3⟩:=hG3.at2 hS3 HAB.out.1 HAB.out.2
             simp only[Value.slice.injEq,true_and,Option.some.injEq,Addr.mk.injEq,and_true] at e1
             obtain⟨rfl,rfl⟩:=e1
             obtain⟨hG4,hS4,hg5⟩:=hG3.mark hS3 HAB.out.1 HAB.out.2 e5 false
             have hx4:=hx3.setCell (p:=⟨g5,nxc true k,none⟩) hg5 (.bool false)
             have hPL:=QZ.out i k
             have HG4:=Hd_ hG4
             have HX4:=Hd_ hx4
             have HS4:=Hd_ hS4
             have HPL:=Hd_ hPL
             have hiA:((i:Nat):Int)+1<((hh:Nat):Int):=by have:=HAB.out.1;simp only[nxr,if_true] at this;omega
             have hiB:((k:Nat):Int)<((ww:Nat):Int):=hkl'
             clear hG3 hS3 hx3 e5 hG4 hS4 hx4 hPL hg5
             simp only[nxr,nxc,if_true] at m1 m2 m3
             go_upto_region 16 with fail
             have hBd:=pJ _ sn _ hh ww _ _ HG4.out HS4.out h8 w8
             have HBD:=Hd_ hBd
             have hx4:=HX4.out
             simp only[nxc,if_true] at hx4 HBD
             clear m1 m2 m3 hBd HX4
             generalize w3.setCell ⟨g5,k,none⟩ (.bool false)=w4 at *
             have hoM:=aJ HMd.out.own hx4
             have HX4:=Hd_ hx4
             have hze:=hx4.size
             have hz0:=HMd.out.keep.size
             have hz1:=HZ1.out
             clear hx4
             go_wp2_with (first
              | (go_at_call 127;refine HBD.out.mono ?_;rintro e w5 ⟨vb,sb,rfl,hob,hbe,hx5⟩;obtain⟨ab,cb,rfl,-,-⟩:=az hob;have LB:=aJ hoM hx5;have hz5:=hx5.size)
              | (at_builtin;refine aW rfl (.tmp 68) (.tmp 71) 57 rfl (w.heap.size+1) 31 i0 (.agg #[.slice none 0 0]) 1 24 underlying57 hi0 hz0' hz1' hz2' rfl (by decide) (.slice ao bs.length co) bs.length xs rfl (LB.alloc _) _ 1 _ [.slice ab sb.length cb] rfl rfl (.inr ⟨_,rfl,bq (aO _ _ _)⟩) lT (by unfold maxLen;omega) (by omega) (by rw[sA_];omega) ?_;intro v6 w6 ho6 hg6 hl6))
             go_roundw
             case rel =>
              have hs8:sb.length≤8:=by
               have h2:=congrArg List.length hbe
               have h3:=HS4.out.hgt
               simp only[nxc,if_true] at h3
               rw[dS,eH,List.length_map,h3] at h2;omega
              exact⟨k+1,_,bs++[plc true (bd ss) i k],by go_num,HKL.out,HMd.out.push hE1.out (aa HX4.out hx5) (ic hob hze) (by rw[hbe];exact HPL.out) hs8 ho6 hg6 hl6,Hd_ (by rw[HBS.out,HN.out,List.append_assoc])⟩
             case measure=>have:=HKL.out;simp[intOf];omega
       · have hkl':¬ (((k:Nat):Int)<((ww:Nat):Int)):=by omega
         have hke:k=ww:=by omega
         have HKE:=Hd_ hke
         have HM:=Hd_ hM
         clear hke hkl hM hGr er
         go_wp2
         go_roundw
         case rel=>exact⟨i+1,xs,bs,by go_num,HLT.out,HM.out,Hd_ (by rw[HBS.out,HKE.out,Cgt.nU])⟩
         case measure=>have:=HLT.out;simp[intOf];omega
    · have hil:¬ (((i:Nat):Int)<((hh:Nat):Int)):=by omega
      have hie:i=hh:=by omega
      have HIE:=Hd_ hie
      have HM:=Hd_ hM
      obtain⟨ao,co,rfl,-,-⟩:=az hM.own
      clear hie hlt hM
      go_wp2
      go_ret
      have hM:=HM.out
      refine⟨_,rfl,?_,hM.ext hE1.out⟩
      rw[← HIE.out,← HBS.out]
      exact Rows.bG hM.own rfl hM.it (fun b hb=>⟨hb.1,hb.2.1⟩) (fun b hb=>⟨by have:=(hM.own.lt b hb).1;omega,(hM.own.lt b hb).2⟩) (fun b hb=>hb.2)
 | false =>
   go_upto_region 6 with (go_at_call 75;refine(hcell _ hx0).mono ?_;rintro e w1 ⟨vc,sl,rfl,hG,hx1⟩;obtain⟨gc,cc,rfl,-,-⟩:=hG.len)
   have Mh:∀ (i k:Nat) (W:World),Gr W (w.heap.size+2) (.slice gc hh cc) sl (cK ss)→Calls prog 172 #[.slice gc hh cc,.int .i64 (i:Int),.int .i64 ((k:Int)+1)] W fun e w'=>e=.returned (.bool (isC (cK ss) hh ww (nxr false i:Nat) (nxc false k:Nat)))∧RD W w':=fun i k W hW=>uB _ sl _ hh ww _ _ _ W hW HSZ.out h8 w8
   have HZ1:Hid (w.heap.size+2≤w1.heap.size):=Hd_ (by have:=hx1.size;have:=HZB.out;omega)
   have hE1:=Hd_ (aa hx0 hx1)
   have hzz:w.heap.size+2=((w.alloc (.cells #[.slice a ss.length cap] 31)).alloc (.cells #[] 31)).heap.size:=by rw[sA_,sA_]
   have CW:=(hx1.block _ (ah hbb)).trans hbb
   rw[← hzz] at hG
   rw[hnn] at hG
   have hM0:MvM w w1 w1 (.slice (some ⟨w.heap.size+1,0,none⟩) 0 0) [] [] :=
    ⟨bZ (Below.refl _ _),aJ hr0 hx1,fun b hb=>by simp[Value.ownBlock] at hb;exact .inl hb.symm,Items.nil fun b hb=>hb.2.1⟩
   have HB1:=Hd_ CW
   have HGR:=Hd_ hG
   clear hG CW hzz hbb hr0 hx0 hx1 hcap hml hnn
   go_wp2
   go_loopw [5,9,10,11] (fun ov ii _ _ wr=>∃ (i:Nat) (xs:List Value) (bs:List Brd),ii=.int .i64 ((i:Nat):Int)∧i≤hh∧MvM w w1 wr ov xs bs∧Hid (bs=bV false (bd ss) ww i)) (fun _ ii _ _ _=>hh-(intOf ii).toNat)
   case atStart=>exact⟨0,[],[],rfl,Nat.zero_le _,hM0,Hd_ rfl⟩
   case round =>
    clear hM0
    obtain⟨i,xs,bs,rfl,hi,hM,HBS⟩:=hrel
    by_cases hlt:i<hh
    · have hil:((i:Nat):Int)<((hh:Nat):Int):=by omega
      have HLT:=Hd_ hlt
      obtain⟨gt,ct,ar,cr,et,er,hct⟩:=(hM.grid HGR.out (Nat.le_refl _)).rowAt HSZ.out hlt
      simp only[Value.slice.injEq,true_and] at et
      obtain⟨rfl,rfl⟩:=et
      clear er hlt
      go_wp2
      go_loopw [5,10,11] (fun ov kk _ wr=>∃ (k:Nat) (xs:List Value) (bs:List Brd),kk=.int .i64 ((k:Nat):Int)∧k≤ww∧MvM w w1 wr ov xs bs∧Hid (bs=bV false (bd ss) ww i++gQ false (bd ss) i k)) (fun _ kk _ _=>ww-(intOf kk).toNat)
      case atStart=>exact⟨0,xs,bs,rfl,Nat.zero_le _,hM,Hd_ (by rw[HBS.out];simp[gQ])⟩
      case round =>
       clear hM HBS hct
       obtain⟨k,xs,bs,rfl,hk,hM,HBS⟩:=hrel
       have hGr:=hM.grid HGR.out (Nat.le_refl _)
       obtain⟨gt',ct',ar',cr',et,er,hct⟩:=hGr.rowAt HSZ.out HLT.out
       simp only[Value.slice.injEq,true_and,Option.some.injEq,Addr.mk.injEq,and_true] at et
       obtain⟨rfl,rfl⟩:=et
       by_cases hkl:k<ww
       · have hkl':((k:Nat):Int)<((ww:Nat):Int):=by omega
         have HKL:=Hd_ hkl
         obtain⟨gt2,ct2,g2,c2,et2,eg2,htop,hbit,hfz⟩:=hGr.at2 HSZ.out HLT.out hkl
         rw[eg2] at er
         simp only[Value.slice.injEq,true_and] at er
         obtain⟨rfl,rfl⟩:=er
         simp only[Value.slice.injEq,true_and,Option.some.injEq,Addr.mk.injEq,and_true] at et2
         obtain⟨rfl,rfl⟩:=et2
         have HIC:=Rb.out i k
         have mV:=Mh i k wr hGr
         have hEr:=hM.ext hE1.out
         have HM:=Hd_ hM
         have HER:=Hd_ hEr
         have HGr:=Hd_ hGr
         clear hM hGr hEr htop eg2 hkl hfz
         cases hg0:gat (cK ss) i k with
         | false =>
           rw[hg0] at hbit HIC
           have HN:=Hd_ (oV HIC)
           clear hg0 HIC mV
           go_wp2
           go_roundw
           case rel=>exact⟨k+1,xs,bs,by go_num,HKL.out,HM.out,Hd_ (by rw[HBS.out,HN.out])⟩
           case measure=>have:=HKL.out;simp[intOf];omega
         | true =>
           rw[hg0] at hbit HIC
           rw[Bool.true_and] at HIC
           cases hic:isC (cK ss) hh ww (nxr false i:Nat) (nxc false k:Nat) with
           | false =>
             rw[hic] at HIC mV
             have HN:=Hd_ (oV HIC)
             clear hg0 HIC hic
             go_wp2_with (go_at_call 172;refine mV.mono ?_;rintro e w2 ⟨rfl,m,rfl⟩)
             go_roundw
             case rel=>exact⟨k+1,xs,bs,by go_num,HKL.out,HM.out.drewN m,Hd_ (by rw[HBS.out,HN.out])⟩
             case measure=>have:=HKL.out;simp[intOf];omega
           | true =>
             rw[hic] at HIC mV
             have HN:=Hd_ (xm HIC)
             have hab:nxr false i<hh∧nxc false k<ww:=by
              unfold isC at hic
              simp only[Bool.and_eq_true,decide_eq_true_eq] at hic
              omega
             have HAB:=Hd_ hab
             have hbr:=HB1.out
             clear hg0 HIC hic hab
             go_upto_region 13 with (go_at_call 172;refine mV.mono ?_;rintro e w2 ⟨rfl,m,rfl⟩)
             have hMd:=HM.out.drewN m
             have hbd:(wr.drewN m).heap[w.heap.size]?=some (.cells #[.slice a ss.length cap] 31 (0,0)):=(hMd.keep.block _ (ah hbr) (by omega)).trans hbr
             have hEd:=hMd.ext hE1.out
             obtain⟨ao,co,rfl,-,-⟩:=az hMd.own
             have hbl:bs.length≤100:=by
              rw[HBS.out,List.length_append]
              have l1:=Cgt.pG false (bd ss) ww i
              have l2:=Cgt.sF false (bd ss) i k
              have l3:=Nat.mul_le_mul (show i≤8 by omega) w8.2
              omega
             clear hbr HER HGr HM mV hbit
             generalize wr.drewN m=wd at *
             have c0d:=cell_of_row wd w.heap.size 0 _ _ _ hbd
             simp only[gE] at c0d
             go_upto_region 14 with (go_at_call 75;refine(hcell _ hEd).mono ?_;rintro e w2 ⟨vn,sn,rfl,hGn,hx2⟩)
             obtain⟨gn,cn,gi,ci,rfl,en,hn1,hn2,hn3⟩:=hGn.at2 HSZ.out HLT.out HKL.out
             obtain⟨hG3,hS3,hgi⟩:=hGn.mark HSZ.out HLT.out HKL.out en false
             have hx3:=hx2.setCell (p:=⟨gi,k,none⟩) hgi (.bool false)
             go_upto_region 15 with fail
             have HEd:=Hd_ hEd
             have HMd:=Hd_ hMd
             clear hGn hx2 en hn1 hn2 hn3 hbd c0d hEd hMd hgi
             generalize w2.setCell ⟨gi,k,none⟩ (.bool false)=w3 at *
             obtain⟨gn',cn',g5,c5,e1,e5,m1,m2,m3⟩:=hG3.at2 hS3 HAB.out.1 HAB.out.2
             simp only[Value.slice.injEq,true_and,Option.some.injEq,Addr.mk.injEq,and_true] at e1
             obtain⟨rfl,rfl⟩:=e1
             obtain⟨hG4,hS4,hg5⟩:=hG3.mark hS3 HAB.out.1 HAB.out.2 e5 false
             have hx4:=hx3.setCell (p:=⟨g5,nxc false k,none⟩) hg5 (.bool false)
             have hPL:=QZ.out i k
             have HG4:=Hd_ hG4
             have HX4:=Hd_ hx4
             have HS4:=Hd_ hS4
             have HPL:=Hd_ hPL
             have hiA:((i:Nat):Int)<((hh:Nat):Int):=hil
             have hiB:((k:Nat):Int)+1<((ww:Nat):Int):=by have:=HAB.out.2;simp only[nxc,Bool.false_eq_true,if_false] at this;omega
             clear hG3 hS3 hx3 e5 hG4 hS4 hx4 hPL hg5
             simp only[nxr,nxc,Bool.false_eq_true,if_false] at m1 m2 m3
             go_upto_region 16 with fail
             have hBd:=pJ _ sn _ hh ww _ _ HG4.out HS4.out h8 w8
             have HBD:=Hd_ hBd
             have hx4:=HX4.out
             simp only[nxc,Bool.false_eq_true,if_false] at hx4 HBD
             clear m1 m2 m3 hBd HX4
             generalize w3.setCell ⟨g5,k+1,none⟩ (.bool false)=w4 at *
             have hoM:=aJ HMd.out.own hx4
             have HX4:=Hd_ hx4
             have hze:=hx4.size
             have hz0:=HMd.out.keep.size
             have hz1:=HZ1.out
             clear hx4
             go_wp2_with (first
              | (go_at_call 127;refine HBD.out.mono ?_;rintro e w5 ⟨vb,sb,rfl,hob,hbe,hx5⟩;obtain⟨ab,cb,rfl,-,-⟩:=az hob;have LB:=aJ hoM hx5;have hz5:=hx5.size)
              | (at_builtin;refine aW rfl (.tmp 68) (.tmp 71) 57 rfl (w.heap.size+1) 31 i0 (.agg #[.slice none 0 0]) 1 24 underlying57 hi0 hz0' hz1' hz2' rfl (by decide) (.slice ao bs.length co) bs.length xs rfl (LB.alloc _) _ 1 _ [.slice ab sb.length cb] rfl rfl (.inr ⟨_,rfl,bq (aO _ _ _)⟩) lT (by unfold maxLen;omega) (by omega) (by rw[sA_];omega) ?_;intro v6 w6 ho6 hg6 hl6))
             go_roundw
             case rel =>
              have hs8:sb.length≤8:=by
               have h2:=congrArg List.length hbe
               have h3:=HS4.out.hgt
               simp only[nxc,Bool.false_eq_true,if_false] at h3
               rw[dS,eH,List.length_map,h3] at h2;omega
              exact⟨k+1,_,bs++[plc false (bd ss) i k],by go_num,HKL.out,HMd.out.push hE1.out (aa HX4.out hx5) (ic hob hze) (by rw[hbe];exact HPL.out) hs8 ho6 hg6 hl6,Hd_ (by rw[HBS.out,HN.out,List.append_assoc])⟩
             case measure=>have:=HKL.out;simp[intOf];omega
       · have hkl':¬ (((k:Nat):Int)<((ww:Nat):Int)):=by omega
         have hke:k=ww:=by omega
         have HKE:=Hd_ hke
         have HM:=Hd_ hM
         clear hke hkl hM hGr er
         go_wp2
         go_roundw
         case rel=>exact⟨i+1,xs,bs,by go_num,HLT.out,HM.out,Hd_ (by rw[HBS.out,HKE.out,Cgt.nU])⟩
         case measure=>have:=HLT.out;simp[intOf];omega
    · have hil:¬ (((i:Nat):Int)<((hh:Nat):Int)):=by omega
      have hie:i=hh:=by omega
      have HIE:=Hd_ hie
      have HM:=Hd_ hM
      obtain⟨ao,co,rfl,-,-⟩:=az hM.own
      clear hie hlt hM
      go_wp2
      go_ret
      have hM:=HM.out
      refine⟨_,rfl,?_,hM.ext hE1.out⟩
      rw[← HIE.out,← HBS.out]
      exact Rows.bG hM.own rfl hM.it (fun b hb=>⟨hb.1,hb.2.1⟩) (fun b hb=>⟨by have:=(hM.own.lt b hb).1;omega,(hM.own.lt b hb).2⟩) (fun b hb=>hb.2)
end
section
open Go.RowKit
open Cgt (Brd GB bD)
theorem BB {xs:List Value} {i:Nat} {v:Value} (h:(xs.drop (i*1)).take 1=[v]):xs[i]?=some v:=by
 have k:=take_at h (j:=0) (by omega)
 rw[Nat.mul_one] at k;exact k
theorem QU {a b:List ByteArray} (h:bd a=bd b):a=b:=by
 unfold bd at h
 refine(List.map_inj_right (f:=bdr) fun x y e=>?_).1 h
 cases x;cases y
 simp only[bdr] at e
 rw[ByteArray.mk.injEq];exact Array.toList_inj.1 e
theorem Rows.brd {S:Nat→Prop} {w:World} {v:Value} {Ts:List Brd} (h:Rows ow 1 S w v Ts) {i:Nat} (hi:i<Ts.length) :
 ∃ b cap a c ss,v=.slice (some ⟨b,0,none⟩) Ts.length cap∧S b∧w.cell? ⟨b,i,none⟩=some (.slice a (List.length ss) c)∧bd ss=Ts[i]∧Sup S (fun W=>Strs W (.slice a (List.length ss) c) ss) w:=by
 obtain⟨xs,a,cap,rfl,h1,h2,h3,h4⟩:=h
 obtain⟨b,rfl,hb,hc⟩:=h4 (by omega)
 obtain⟨a,c,ss,e,hN,hbd⟩:=h3.2.out i hi
 refine⟨b,cap,a,c,ss,rfl,hb,by rw[hc _ (by omega)];exact BB e,hbd,h3.2.1,fun w2 h2=>?_⟩
 obtain⟨a',c',ss',e',hN',zG⟩:=h3.2.2 w2 h2 i hi
 rw[e] at e'
 simp only[List.cons.injEq,Value.slice.injEq,and_true] at e'
 obtain⟨rfl,-,rfl⟩:=e'
 have:ss'=ss:=QU (zG.trans hbd.symm)
 subst this;exact hN'
end
end Go.Proofs.YteknjeohbcgpdaaGreatDoor