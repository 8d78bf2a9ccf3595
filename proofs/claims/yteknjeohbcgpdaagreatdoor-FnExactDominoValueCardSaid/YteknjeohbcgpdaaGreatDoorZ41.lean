/-
  Memory of the reference's book of boards.
-/
import Derived.Test.YteknjeohbcgpdaaGreatDoorZ39
import Derived.Test.YteknjeohbcgpdaaGreatDoorZ40
set_option maxRecDepth 100000
namespace Go.Proofs.YteknjeohbcgpdaaGreatDoor
open Go.RowKit
open Cgt (Dag Nd vl Same Gm Canon Eqv Ge Brd GB bD fr gB bS kB)
def Ii (w:World) (px:Nat) (vt vf:Value) (b:Nat):Prop:=b<w.heap.size∧¬ InS px vt vf b
def BkL (x:ByteArray × Dag):Prop:=∃ b h w,GB b h w∧bdr x.1=bD b∧bS b≤9∧dU x.2 (gB (fr b))∧x.2.length≤kB (bS b)
structure TB (w:World) (px:Nat) (vt vf:Value) (S:Nat→Prop) (L:List (ByteArray × Dag)):Prop where
 cells:w.heap[px]?=some (.cells #[vt,vf] 64 (0,0))
 texts:w.ownsRow 0 9 1 vt L.length (L.map fun x=>.string x.1)
 forms:∃ xs,w.ownsRow 0 28 1 vf L.length xs∧Items lg S 1 xs (L.map (·.2)) w
 sep:∀ b,S b→¬ InS px vt vf b
 fM:vt.ownBlock≠some px
 gX:vf.ownBlock≠some px
 gV:∀ b,vt.ownBlock=some b→vf.ownBlock≠some b
 law:∀ x,x∈L→BkL x
structure TG (w w':World) (px:Nat) (vt vf:Value) (S:Nat→Prop) (vt' vf':Value) (S':Nat→Prop):Prop where
 keep:bg (InS px vt vf) w w'
 ins:∀ b,InS px vt' vf' b→InS px vt vf b∨w.heap.size≤b
 s1:∀ b,S b→S' b
 s2:∀ b,S' b→S b∨w.heap.size≤b
theorem TG.ext {w w':World} {px:Nat} {vt vf:Value} {S:Nat→Prop} (h:Ext w w'):TG w w' px vt vf S vt vf S:=⟨bZ h,fun _ h=>.inl h,fun _ h=>h,fun _ h=>.inl h⟩
theorem TG.trans {a b c:World} {px:Nat} {t1 f1 t2 f2 t3 f3:Value} {S1 S2 S3:Nat→Prop} (h:TG a b px t1 f1 S1 t2 f2 S2) (k:TG b c px t2 f2 S2 t3 f3 S3):TG a c px t1 f1 S1 t3 f3 S3:=by
 have hz:=h.keep.size
 refine⟨h.keep.trans k.keep (fun x hx hi=>by rcases h.ins x hi with h | h;exact h;omega),fun x hx=>?_,fun x hx=>k.s1 x (h.s1 x hx),fun x hx=>?_⟩
 · rcases k.ins x hx with h1 | h1
   · exact h.ins x h1
   · exact .inr (by omega)
 · rcases k.s2 x hx with h1 | h1
   · exact h.s2 x h1
   · exact .inr (by omega)
theorem TG.set {w w':World} {px:Nat} {vt vf vt' vf':Value} {S S':Nat→Prop} (h:TG w w' px vt vf S vt' vf' S') {p:Addr} (hp:w.heap.size≤p.block) (u:Value):TG w (w'.setCell p u) px vt vf S vt' vf' S' :=
 ⟨⟨h.keep.os,h.keep.tape,h.keep.output,by rw[World.size_setCell];exact h.keep.size,fun k hk hn=>by rw[heap_setCell_other _ _ _ _ (by omega)];exact h.keep.block k hk hn⟩,h.ins,h.s1,h.s2⟩
theorem TG.sup {w w':World} {px:Nat} {vt vf vt' vf':Value} {S S' T:Nat→Prop} {A:World→Prop} (h:TG w w' px vt vf S vt' vf' S') (k:Sup T A w) (hd:∀ b,T b→¬ InS px vt vf b):Sup T A w':=k.keep h.keep hd
theorem TG.block {w w':World} {px:Nat} {vt vf vt' vf':Value} {S S':Nat→Prop} (h:TG w w' px vt vf S vt' vf' S') {b:Nat} (h1:b<w.heap.size) (h2:¬ InS px vt vf b):w'.heap[b]?=w.heap[b]?:=h.keep.block b h1 h2
theorem TG.BQ {w w':World} {px:Nat} {vt vf vt' vf':Value} {S S':Nat→Prop} (h:TG w w' px vt vf S vt' vf' S') {b:Nat} (h1:b<w.heap.size) (h2:¬ InS px vt vf b) (h3:¬ S b):¬ InS px vt' vf' b∧¬ S' b :=
 ⟨fun k=>by rcases h.ins b k with k | k;exact h2 k;omega,fun k=>by rcases h.s2 b k with k | k;exact h3 k;omega⟩
theorem TB.ma {w:World} {px:Nat} {vt vf:Value} {S:Nat→Prop} {L:List (ByteArray × Dag)} (h:TB w px vt vf S L) {b:Nat} (hb:InS px vt vf b):b<w.heap.size:=by
 obtain⟨xs,ho,_⟩:=h.forms
 rcases hb with rfl | hb | hb
 · exact ah h.cells
 · exact(h.texts.lt b hb).2
 · exact(ho.lt b hb).2
theorem TB.sLt {w:World} {px:Nat} {vt vf:Value} {S:Nat→Prop} {L:List (ByteArray × Dag)} (h:TB w px vt vf S L) {b:Nat} (hb:S b):b<w.heap.size:=by
 obtain⟨xs,_,hi⟩:=h.forms
 exact hi.2.1 b hb
theorem TB.keep {w w':World} {px:Nat} {vt vf:Value} {S:Nat→Prop} {L:List (ByteArray × Dag)} {G:Nat→Prop} (h:TB w px vt vf S L) (hk:bg G w w') (hd:∀ b,InS px vt vf b→¬ G b) (hs:∀ b,S b→¬ G b):TB w' px vt vf S L:=by
 obtain⟨xs,ho,hx⟩:=h.forms
 refine⟨?_,aI h.texts hk (fun b hb=>hd b (.inr (.inl hb))),⟨xs,aI ho hk (fun b hb=>hd b (.inr (.inr hb))),hx.keep hk hs⟩,h.sep,h.fM,h.gX,h.gV,h.law⟩
 rw[hk.block px (ah h.cells) (hd px (.inl rfl))];exact h.cells
theorem TB.ext {w w':World} {px:Nat} {vt vf:Value} {S:Nat→Prop} {L:List (ByteArray × Dag)} (h:TB w px vt vf S L) (hx:Ext w w'):TB w' px vt vf S L :=
 h.keep (bZ (F:=fun _=>False) hx) (fun _ _=>id) (fun _ _=>id)
structure TX (w:World) (px:Nat) (vt vf:Value) (S:Nat→Prop) (Lt:List ByteArray) (Lf:List Dag):Prop where
 cells:w.heap[px]?=some (.cells #[vt,vf] 64 (0,0))
 texts:w.ownsRow 0 9 1 vt Lt.length (Lt.map Value.string)
 forms:∃ xs,w.ownsRow 0 28 1 vf Lf.length xs∧Items lg S 1 xs Lf w
 sep:∀ b,S b→¬ InS px vt vf b
 fM:vt.ownBlock≠some px
 gX:vf.ownBlock≠some px
 gV:∀ b,vt.ownBlock=some b→vf.ownBlock≠some b
theorem TB.tx {w:World} {px:Nat} {vt vf:Value} {S:Nat→Prop} {L:List (ByteArray × Dag)} (h:TB w px vt vf S L):TX w px vt vf S (L.map (·.1)) (L.map (·.2)) :=
 ⟨h.cells,by have:=h.texts;simpa [Function.comp_def] using this,by have:=h.forms;simpa using this,h.sep,h.fM,h.gX,h.gV⟩
theorem TX.tb {w:World} {px:Nat} {vt vf:Value} {S:Nat→Prop} {L:List (ByteArray × Dag)} (h:TX w px vt vf S (L.map (·.1)) (L.map (·.2))) (hl:∀ x,x∈L→BkL x):TB w px vt vf S L :=
 ⟨h.cells,by have:=h.texts;simpa [Function.comp_def] using this,by have:=h.forms;simpa using this,h.sep,h.fM,h.gX,h.gV,hl⟩
theorem TX.ma {w:World} {px:Nat} {vt vf:Value} {S:Nat→Prop} {Lt:List ByteArray} {Lf:List Dag} (h:TX w px vt vf S Lt Lf) {b:Nat} (hb:InS px vt vf b):b<w.heap.size:=by
 obtain⟨xs,ho,_⟩:=h.forms
 rcases hb with rfl | hb | hb
 · exact ah h.cells
 · exact(h.texts.lt b hb).2
 · exact(ho.lt b hb).2
theorem TX.sLt {w:World} {px:Nat} {vt vf:Value} {S:Nat→Prop} {Lt:List ByteArray} {Lf:List Dag} (h:TX w px vt vf S Lt Lf) {b:Nat} (hb:S b):b<w.heap.size:=by
 obtain⟨xs,_,hi⟩:=h.forms
 exact hi.2.1 b hb
theorem TX.ext {w w':World} {px:Nat} {vt vf:Value} {S:Nat→Prop} {Lt:List ByteArray} {Lf:List Dag} (h:TX w px vt vf S Lt Lf) (hx:Ext w w'):TX w' px vt vf S Lt Lf:=by
 obtain⟨xs,ho,hi⟩:=h.forms
 exact⟨by rw[hx.block _ (ah h.cells)];exact h.cells,aJ h.texts hx,⟨xs,aJ ho hx,hi.ext hx⟩,h.sep,h.fM,h.gX,h.gV⟩
theorem EK {w:World} {v v':Value} {b:Nat} (hl:eU w v v') (hb:b<w.heap.size) (hn:v.ownBlock≠some b):v'.ownBlock≠some b:=fun e=>by
 rcases hl with k | ⟨g,k,k2⟩
 · exact hn (by rw[← k];exact e)
 · rw[k] at e;injection e with e;omega
theorem vU {w:World} {v v':Value} {b:Nat} (hl:eU w v v') (h:v'.ownBlock=some b):v.ownBlock=some b∨w.heap.size≤b:=by
 rcases hl with k | ⟨g,k,k2⟩
 · exact .inl (by rw[← k];exact h)
 · rw[k] at h;injection h with h;exact .inr (by omega)
theorem TX.text {wr w5:World} {px:Nat} {vt vf v5:Value} {S:Nat→Prop} {Lt:List ByteArray} {Lf:List Dag} {X:Obj} {tb:ByteArray} (h:TX wr px vt vf S Lt Lf) (ho:w5.ownsRow 0 9 1 v5 (Lt.length+1) (Lt.map Value.string++[.string tb])) (hg:(wr.alloc X).grownBy w5 vt.ownBlock) (hl:eU (wr.alloc X) vt v5) :
 TX (w5.setCell ⟨px,0,none⟩ v5) px v5 vf S (Lt++[tb]) Lf∧TG wr (w5.setCell ⟨px,0,none⟩ v5) px vt vf S v5 vf S∧w5.cell? ⟨px,0,none⟩=some vt∧w5.frozen? ⟨px,0,none⟩=false:=by
 have zx:(wr.alloc X).heap.size=wr.heap.size+1:=sA_ _ _
 have z1:=hg.size
 have hpx:=ah h.cells
 obtain⟨xs,hf,hi⟩:=h.forms
 have hins:∀ b,InS px v5 vf b→InS px vt vf b∨wr.heap.size≤b:=fun b hb=>by
  rcases hb with hb | hb | hb
  · exact .inl (.inl hb)
  · rcases vU hl hb with k | k
    · exact .inl (.inr (.inl k))
    · exact .inr (by omega)
  · exact .inl (.inr (.inr hb))
 have hk:bg (InS px vt vf) wr (w5.setCell ⟨px,0,none⟩ v5):=⟨hg.os,hg.tape,hg.output,by rw[World.size_setCell];omega,fun k hk hn=>by
  rw[heap_setCell_other _ _ _ _ (fun e=>hn (.inl e)),hg.block k (by omega) (fun e=>hn (.inr (.inl e.symm))),Below.heap_alloc _ _ _ hk]⟩
 have hc5:w5.heap[px]?=some (.cells #[vt,vf] 64 (0,0)):=by rw[hg.block px (by omega) (fun e=>h.fM e.symm),Below.heap_alloc _ _ _ hpx];exact h.cells
 have a1:=EK hl (b:=px) (by omega) h.fM
 refine⟨⟨heap_setCell_same _ _ _ _ _ _ hc5,?_,⟨xs,?_,?_⟩,fun b hb k=>?_,a1,h.gX,fun b hb e=>?_⟩,⟨hk,hins,fun _ h=>h,fun _ h=>.inl h⟩,cell_of_row w5 px 0 _ _ _ hc5,frozen_of_row w5 px 0 _ _ hc5⟩
 · rw[List.map_append,List.length_append]
   exact aI ho (bJ (p:=⟨px,0,none⟩)) (fun b hb e=>a1 (by rw[hb];simpa using e))
 · refine aI (aI (aJ hf (aM (Below.refl _ _) X)) (w':=w5) (G:=fun b=>vt.ownBlock=some b) ⟨hg.os,hg.tape,hg.output,hg.size,fun k hk hn=>hg.block k hk (fun e=>hn e.symm)⟩ (fun b hb e=>h.gV b e hb)) (bJ (p:=⟨px,0,none⟩)) (fun b hb e=>h.gX (by rw[hb];simpa using e))
 · exact hi.keep hk h.sep
 · rcases hins b k with k | k
   · exact h.sep b hb k
   · have:=h.sLt hb;omega
 · rcases vU hl hb with k | k
   · exact h.gV b k e
   · have:=(hf.lt b e).2;omega
theorem TX.form {wr w5:World} {px:Nat} {vt vf v5 v:Value} {S T:Nat→Prop} {Lt:List ByteArray} {Lf:List Dag} {X:Obj} {F:Dag} (h:TX wr px vt vf S Lt Lf) {xs:List Value} (hi:Items lg S 1 xs Lf wr) (ho:w5.ownsRow 0 28 1 v5 (Lf.length+1) (xs++[v])) (hg:(wr.alloc X).grownBy w5 vf.ownBlock) (hl:eU (wr.alloc X) vf v5)
 (hF:Sup T (fun W=>lg W [v] F) wr) (hT:∀ b,T b→¬ InS px vt vf b) :
 TX (w5.setCell ⟨px,1,none⟩ v5) px vt v5 (fun b=>S b∨T b) Lt (Lf++[F])∧bg (InS px vt vf) wr (w5.setCell ⟨px,1,none⟩ v5)∧(∀ b,InS px vt v5 b→InS px vt vf b∨wr.heap.size≤b)∧w5.cell? ⟨px,1,none⟩=some vf∧w5.frozen? ⟨px,1,none⟩=false:=by
 have zx:(wr.alloc X).heap.size=wr.heap.size+1:=sA_ _ _
 have z1:=hg.size
 have hpx:=ah h.cells
 have hins:∀ b,InS px vt v5 b→InS px vt vf b∨wr.heap.size≤b:=fun b hb=>by
  rcases hb with hb | hb | hb
  · exact .inl (.inl hb)
  · exact .inl (.inr (.inl hb))
  · rcases vU hl hb with k | k
    · exact .inl (.inr (.inr k))
    · exact .inr (by omega)
 have hk:bg (InS px vt vf) wr (w5.setCell ⟨px,1,none⟩ v5):=⟨hg.os,hg.tape,hg.output,by rw[World.size_setCell];omega,fun k hk hn=>by
  rw[heap_setCell_other _ _ _ _ (fun e=>hn (.inl e)),hg.block k (by omega) (fun e=>hn (.inr (.inr e.symm))),Below.heap_alloc _ _ _ hk]⟩
 have hc5:w5.heap[px]?=some (.cells #[vt,vf] 64 (0,0)):=by rw[hg.block px (by omega) (fun e=>h.gX e.symm),Below.heap_alloc _ _ _ hpx];exact h.cells
 have a1:=EK hl (b:=px) (by omega) h.gX
 have hlt:∀ b,S b∨T b→b<wr.heap.size:=fun b hb=>hb.elim (fun h'=>h.sLt h') (fun h'=>hF.1 b h')
 have hsep:∀ b,S b∨T b→¬ InS px vt vf b:=fun b hb=>hb.elim (h.sep b) (hT b)
 refine⟨⟨heap_setCell_same _ _ _ _ _ _ hc5,?_,⟨xs++[v],?_,?_⟩,fun b hb k=>?_,h.fM,a1,fun b hb e=>?_⟩,hk,hins,cell_of_row w5 px 1 _ _ _ hc5,frozen_of_row w5 px 1 _ _ hc5⟩
 · refine aI (aI (aJ h.texts (aM (Below.refl _ _) X)) (w':=w5) (G:=fun b=>vf.ownBlock=some b) ⟨hg.os,hg.tape,hg.output,hg.size,fun k hk hn=>hg.block k hk (fun e=>hn e.symm)⟩ (fun b hb e=>h.gV b hb e)) (bJ (p:=⟨px,1,none⟩)) (fun b hb e=>h.fM (by rw[hb];simpa using e))
 · rw[List.length_append]
   exact aI ho (bJ (p:=⟨px,1,none⟩)) (fun b hb e=>a1 (by rw[hb];simpa using e))
 · exact((hi.mono (fun b hb=>.inl hb) hlt).snoc rfl (hF.mono (fun b hb=>.inr hb) hlt (fun _ h=>h))).keep hk hsep
 · rcases hins b k with k | k
   · exact hsep b hb k
   · have:=hlt b hb;omega
 · rcases vU hl e with k | k
   · exact h.gV b hb k
   · have:=(h.texts.lt b hb).2;omega
def SS (bs:Nat) (f:Nat→Value) (b:Nat):Prop:=b=bs∨(f 0).ownBlock=some b∨(f 1).ownBlock=some b
structure VM (w wr:World) (px:Nat) (vt0 vf0:Value) (S0:Nat→Prop) (L0:List (ByteArray × Dag)) (X0:Obj) (bl:Nat→List Brd) (kk:Nat) (bs:Nat) (vt vf:Value) (S:Nat→Prop) (L:List (ByteArray × Dag)) (f:Nat→Value) (Fs:Nat→List Dag):Prop where
 tb:TB wr px vt vf S L
 tg:TG w wr px vt0 vf0 S0 vt vf S
 box:wr.heap[w.heap.size]?=some X0
 res:wr.heap[w.heap.size+1]?=some (.cells #[.slice none 0 0] 28 (0,0))
 blk:wr.heap[bs]?=some (.cells #[f 0,f 1] 47 (0,0))
 row:∀ q,q<2→∃ xs,wr.ownsRow w.heap.size 28 1 (f q) (Fs q).length xs∧Items lg S 1 xs (Fs q) wr
 ap:∀ q,q<2→(f q).ownBlock≠some bs
 ap2:∀ b,(f 0).ownBlock=some b→(f 1).ownBlock≠some b
 p0:¬ InS px vt vf w.heap.size∧¬ S w.heap.size
 p1:¬ InS px vt vf (w.heap.size+1)∧¬ S (w.heap.size+1)
 ps:∀ b,SS bs f b→¬ InS px vt vf b∧¬ S b
 gt:∀ b,SS bs f b→w.heap.size+1<b∧b<wr.heap.size
 fs:∀ q,q<2→jO (bl q) kk (Fs q)
theorem lt2 {q:Nat} (h:q<2):q=0∨q=1:=by omega
theorem SS.of {bs:Nat} {f:Nat→Value} {q b:Nat} (hq:q<2) (h:(f q).ownBlock=some b):SS bs f b:=by
 rcases lt2 hq with rfl | rfl
 · exact .inr (.inl h)
 · exact .inr (.inr h)
section
variable {w wr w1:World} {px:Nat} {vt0 vf0:Value} {S0:Nat→Prop} {L0:List (ByteArray × Dag)} {X0:Obj} {bl:Nat→List Brd} {kk:Nat} {bs:Nat} {vt vf:Value} {S:Nat→Prop} {L:List (ByteArray × Dag)} {f:Nat→Value} {Fs:Nat→List Dag}
theorem VM.go (h:VM w wr px vt0 vf0 S0 L0 X0 bl kk bs vt vf S L f Fs) {vt' vf':Value} {S':Nat→Prop} {L':List (ByteArray × Dag)} (hb:TB w1 px vt' vf' S' L') (hg:TG wr w1 px vt vf S vt' vf' S') :
 VM w w1 px vt0 vf0 S0 L0 X0 bl kk bs vt' vf' S' L' f Fs:=by
 have z:=hg.keep.size
 refine⟨hb,h.tg.trans hg,?_,?_,?_,fun q hq=>?_,h.ap,h.ap2,hg.BQ (ah h.box) h.p0.1 h.p0.2,hg.BQ (ah h.res) h.p1.1 h.p1.2,fun b hb=>hg.BQ (h.gt b hb).2 (h.ps b hb).1 (h.ps b hb).2,fun b hb=>⟨(h.gt b hb).1,by have:=(h.gt b hb).2;omega⟩,h.fs⟩
 · rw[hg.block (ah h.box) h.p0.1];exact h.box
 · rw[hg.block (ah h.res) h.p1.1];exact h.res
 · rw[hg.block (ah h.blk) (h.ps bs (.inl rfl)).1];exact h.blk
 · obtain⟨xs,h1,h2⟩:=h.row q hq
   exact⟨xs,aI h1 hg.keep (fun b hb=>(h.ps b (SS.of hq hb)).1),(h2.keep hg.keep h.tb.sep).mono hg.s1 fun _=>hb.sLt⟩
theorem VM.ext (h:VM w wr px vt0 vf0 S0 L0 X0 bl kk bs vt vf S L f Fs) (hx:Ext wr w1):VM w w1 px vt0 vf0 S0 L0 X0 bl kk bs vt vf S L f Fs :=
 h.go (h.tb.ext hx) (TG.ext hx)
theorem VM.Re (h:VM w wr px vt0 vf0 S0 L0 X0 bl kk bs vt vf S L f Fs) {vt' vf':Value} {S':Nat→Prop} {L':List (ByteArray × Dag)} (hb:TB w1 px vt' vf' S' L') (hg:TG wr w1 px vt vf S vt' vf' S') {q:Nat} (hq:q<2) {xs:List Value} (h1:wr.ownsRow w.heap.size 28 1 (f q) (Fs q).length xs) (h2:Items lg S 1 xs (Fs q) wr) :
 w1.ownsRow w.heap.size 28 1 (f q) (Fs q).length xs∧Items lg S' 1 xs (Fs q) w1:=⟨aI h1 hg.keep (fun b hb=>(h.ps b (SS.of hq hb)).1),(h2.keep hg.keep h.tb.sep).mono hg.s1 fun _=>hb.sLt⟩
theorem VM.push (h:VM w wr px vt0 vf0 S0 L0 X0 bl kk bs vt vf S L f Fs) {w5:World} {X:Obj} {q:Nat} (hq:q<2) {v5 v:Value} {xs:List Value} {F:Dag} {e:Brd} (hi:Items lg S 1 xs (Fs q) wr) (hF:Sup S (fun W=>lg W [v] F) wr)
 (ho:w5.ownsRow w.heap.size 28 1 v5 ((Fs q).length+1) (xs++[v])) (hg:(wr.alloc X).grownBy w5 (f q).ownBlock) (hl:eU (wr.alloc X) (f q) v5)
 (he:(bl q)[(Fs q).length]?=some e) (hV:dU F (gB (fr e))) (hk:F.length≤kk) :
 VM w (w5.setCell ⟨bs,q,none⟩ v5) px vt0 vf0 S0 L0 X0 bl kk bs vt vf S L (fun p=>if p=q then v5 else f p) (fun p=>if p=q then Fs q++[F] else Fs p):=by
 have z1:=hg.size
 rw[sA_] at z1
 have hkp:bg (SS bs f) wr (w5.setCell ⟨bs,q,none⟩ v5):=by
  refine⟨hg.os,hg.tape,hg.output,by simp;omega,fun k hk hn=>?_⟩
  rw[heap_setCell_other _ _ _ _ (fun e=>hn (.inl e)),hg.block k (by rw[sA_];omega) (fun e=>hn (SS.of hq e.symm)),Below.heap_alloc _ _ _ hk]
 have hss:∀ b,SS bs (fun p=>if p=q then v5 else f p) b→SS bs f b∨wr.heap.size≤b:=by
  intro b hb
  have key:∀ p,p<2→((fun p=>if p=q then v5 else f p) p).ownBlock=some b→SS bs f b∨wr.heap.size≤b:=fun p hp hb=>by
   by_cases c:p=q
   · subst c
     simp only[if_true] at hb
     rcases hl with k | ⟨g,k,k2⟩
     · exact .inl (SS.of hq (by rw[← k];exact hb))
     · rw[k] at hb;injection hb with hb;rw[sA_] at k2;exact .inr (by omega)
   · simp only[c,if_false] at hb
     exact .inl (SS.of hp hb)
  rcases hb with hb | hb | hb
  · exact .inl (.inl hb)
  · exact key 0 (by omega) hb
  · exact key 1 (by omega) hb
 have Tz:∀ b,S b→b<wr.heap.size:=fun b=>h.tb.sLt
 have TI:∀ b,InS px vt vf b→b<wr.heap.size:=fun b=>h.tb.ma
 have hbs:=ah h.blk
 have Qf:(f q).ownBlock≠some bs:=h.ap q hq
 have hv5:v5.ownBlock≠some bs:=fun e=>by
  rcases hl with k | ⟨g,k,k2⟩
  · exact Qf (by rw[← k];exact e)
  · rw[k] at e;injection e with e;rw[sA_] at k2;omega
 have hz:∀ b,SS bs (fun p=>if p=q then v5 else f p) b→¬ InS px vt vf b∧¬ S b:=fun b hb=>by
  rcases hss b hb with k | k
  · exact h.ps b k
  · exact⟨fun i=>by have:=TI b i;omega,fun i=>by have:=Tz b i;omega⟩
 have hx1:=ah h.box
 have hx2:=ah h.res
 have zr:=h.tg.keep.size
 refine⟨h.tb.keep hkp (fun b hb k=>(h.ps b k).1 hb) (fun b hb k=>(h.ps b k).2 hb),⟨h.tg.keep.trans hkp (fun b hb k=>by have:=(h.gt b k).1;omega),h.tg.ins,h.tg.s1,h.tg.s2⟩,?_,?_,?_,fun p hp=>?_,fun p hp=>?_,fun b hb=>?_,h.p0,h.p1,hz,fun b hb=>?_,fun p hp=>?_⟩
 · rw[hkp.block _ hx1 (fun k=>by have:=(h.gt _ k).1;omega)];exact h.box
 · rw[hkp.block _ hx2 (fun k=>by have:=(h.gt _ k).1;omega)];exact h.res
 · have hb5:w5.heap[bs]?=some (.cells #[f 0,f 1] 47 (0,0)):=by
    rw[hg.block bs (by rw[sA_];omega) (fun e=>Qf e.symm),Below.heap_alloc _ _ _ hbs];exact h.blk
   have hs:=heap_setCell_same w5 bs q _ _ v5 hb5
   rcases lt2 hq with rfl | rfl
   · simpa using hs
   · simpa using hs
 · by_cases c:p=q
   · subst c
     refine⟨xs++[v],?_,?_⟩
     · simp only[if_true]
       rw[List.length_append]
       exact aI ho (bJ (p:=⟨bs,p,none⟩)) (fun b hb e=>hv5 (by rw[hb];simpa using e))
     · simp only[if_true]
       exact(hi.snoc rfl hF).keep hkp (fun b hb k=>(h.ps b k).2 hb)
   · obtain⟨ys,h1,h2⟩:=h.row p hp
     refine⟨ys,?_,?_⟩
     · simp only[c,if_false]
       have hne:∀ b,(f p).ownBlock=some b→(f q).ownBlock≠some b:=fun b hb e=>by
        rcases lt2 hp with rfl | rfl <;> rcases lt2 hq with rfl | rfl
        · exact c rfl
        · exact h.ap2 b hb e
        · exact h.ap2 b e hb
        · exact c rfl
       refine aI (aI (aJ h1 (aM (Below.refl _ _) X)) (w':=w5) (G:=fun b=>(f q).ownBlock=some b) ⟨hg.os,hg.tape,hg.output,hg.size,fun k hk hn=>hg.block k hk (fun e=>hn e.symm)⟩ hne) (bJ (p:=⟨bs,q,none⟩)) (fun b hb e=>h.ap p hp (by rw[hb];simpa using e))
     · simp only[c,if_false]
       exact h2.keep hkp (fun b hb k=>(h.ps b k).2 hb)
 · by_cases c:p=q
   · simp only[c,if_true];exact hv5
   · simp only[c,if_false];exact h.ap p hp
 · have hlow:∀ p,p<2→∀ b,(f p).ownBlock=some b→b<wr.heap.size:=fun p hp b hb=>(h.gt b (SS.of hp hb)).2
   rcases lt2 hq with rfl | rfl
   · simp only[if_true] at hb
     simp only[Nat.one_ne_zero,if_false]
     intro e
     rcases hl with k | ⟨g,k,k2⟩
     · exact h.ap2 b (by rw[← k];exact hb) e
     · rw[k] at hb;injection hb with hb;rw[sA_] at k2;have:=hlow 1 (by omega) b e;omega
   · simp only[Nat.zero_ne_one,if_false] at hb
     simp only[if_true]
     intro e
     rcases hl with k | ⟨g,k,k2⟩
     · exact h.ap2 b hb (by rw[← k];exact e)
     · rw[k] at e;injection e with e;rw[sA_] at k2;have:=hlow 0 (by omega) b hb;omega
 · have hsz:(w5.setCell ⟨bs,q,none⟩ v5).heap.size=w5.heap.size:=by simp
   rw[hsz]
   have hown:∀ p,p<2→((fun p=>if p=q then v5 else f p) p).ownBlock=some b→b<w5.heap.size:=fun p hp hb=>by
    by_cases c:p=q
    · simp only[c,if_true] at hb;exact(ho.lt b hb).2
    · simp only[c,if_false] at hb;have:=(h.gt b (SS.of hp hb)).2;omega
   rcases hss b hb with k | k
   · exact⟨(h.gt b k).1,by have:=(h.gt b k).2;omega⟩
   · refine⟨by omega,?_⟩
     rcases hb with hb | hb | hb
     · omega
     · exact hown 0 (by omega) hb
     · exact hown 1 (by omega) hb
 · by_cases c:p=q
   · simp only[c,if_true];exact(h.fs q hq).snoc he hV hk
   · simp only[c,if_false];exact h.fs p hp
theorem SS.push {bs q:Nat} {f:Nat→Value} {wr:World} {v5:Value} (hq:q<2) (hl:eU wr (f q) v5):∀ b,SS bs (fun p=>if p=q then v5 else f p) b→SS bs f b∨wr.heap.size≤b:=by
 intro b hb
 have key:∀ p,p<2→((fun p=>if p=q then v5 else f p) p).ownBlock=some b→SS bs f b∨wr.heap.size≤b:=fun p hp hb=>by
  by_cases c:p=q
  · subst c
    simp only[if_true] at hb
    rcases hl with k | ⟨g,k,k2⟩
    · exact .inl (SS.of hq (by rw[← k];exact hb))
    · rw[k] at hb;injection hb with hb;exact .inr (by omega)
  · simp only[c,if_false] at hb
    exact .inl (SS.of hp hb)
 rcases hb with hb | hb | hb
 · exact .inl (.inl hb)
 · exact key 0 (by omega) hb
 · exact key 1 (by omega) hb
end
end Go.Proofs.YteknjeohbcgpdaaGreatDoor