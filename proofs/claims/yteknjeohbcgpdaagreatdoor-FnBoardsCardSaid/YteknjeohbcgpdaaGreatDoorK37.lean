/-
  Memory of the reference's book of boards.
-/
import Derived.Test.YteknjeohbcgpdaaGreatDoorK36
set_option maxRecDepth 100000
namespace Go.Proofs.YteknjeohbcgpdaaGreatDoor
open Go.RowKit
open bO (dH Nd vl Same Gm Canon iO Ge fw GB fD fr gB gX kB)
variable {w w' wr w5:World} {px b q:Nat} {vt vf Cn Co v v' v5:Value} {S S' T:Nat->Prop} {L:List (ByteArray × dH)} {Lt:List ByteArray} {Lf:List dH} {X:Obj}
def aai(w:World)(px:Nat)(vt vf:Value)(b:Nat):Prop:=b<w.heap.size/\¬kD px vt vf b
def BkL(x:ByteArray × dH):Prop:=∃b h w,GB b h w/\ll x.1=fD b/\gX b<=9/\fO x.2 (gB (fr b))/\x.2.length<=kB (gX b)
structure TB(w:World)(px:Nat)(vt vf:Value)(S:Nat->Prop)(L:List (ByteArray × dH)):Prop where
 cells:w.heap[px]?=some (.cells #[vt,vf] 64 (0,0))
 texts:w.ownsRow 0 9 1 vt L.length (L.map λx=>.string x.1)
 forms:∃xs,w.ownsRow 0 28 1 vf L.length xs/\Items pU S 1 xs (L.map (·.2)) w
 sep:∀b,S b->¬kD px vt vf b
 kP:vt.ownBlock≠some px
 mK:vf.ownBlock≠some px
 mJ:∀b,vt.ownBlock=some b->vf.ownBlock≠some b
 law:∀x,x∈L->BkL x
structure TG(w w':World)(px:Nat)(vt vf:Value)(S:Nat->Prop)(Cn Co:Value)(S':Nat->Prop):Prop where
 keep:dX (kD px vt vf) w w'
 ins:∀b,kD px Cn Co b->kD px vt vf b\/w.heap.size<=b
 s1:∀b,S b->S' b
 s2:∀b,S' b->S b\/w.heap.size<=b
theorem TG.ext(h:Ext w w'):TG w w' px vt vf S vt vf S:=⟨fq h,λ_ h=>.inl h,λ_ h=>h,λ_ h=>.inl h⟩
theorem TG.trans{a b c:World}{px:Nat}{t1 f1 t2 f2 t3 f3:Value}{S1 S2 S3:Nat->Prop}(h:TG a b px t1 f1 S1 t2 f2 S2)(k:TG b c px t2 f2 S2 t3 f3 S3):TG a c px t1 f1 S1 t3 f3 S3:=by
 have hz:=h.keep.size;refine⟨h.keep.trans k.keep (λx hx hi=>by rcases h.ins x hi with h|h;exact h;omega),λx hx=>?_,λx hx=>k.s1 x (h.s1 x hx),λx hx=>?_⟩
 .rcases k.ins x hx with h1|h1
  .exact h.ins x h1
  .exact .inr (by omega)
 .rcases k.s2 x hx with h1|h1
  .exact h.s2 x h1
  .exact .inr (by omega)
theorem TG.set(h:TG w w' px vt vf S Cn Co S'){p:Addr}(hp:w.heap.size<=p.block)(u:Value):TG w (w'.setCell p u) px vt vf S Cn Co S':=
 ⟨⟨h.keep.os,h.keep.tape,h.keep.output,by rw[World.size_setCell];exact h.keep.size,λk hk hn=>by rw[heap_setCell_other _ _ _ _ (by omega)];exact h.keep.block k hk hn⟩,h.ins,h.s1,h.s2⟩
theorem TG.sup{A:World->Prop}(h:TG w w' px vt vf S Cn Co S')(k:nN T A w)(hd:∀b,T b->¬kD px vt vf b):nN T A w':=k.keep h.keep hd
theorem TG.block{w w':World}{px:Nat}{vt vf Cn Co:Value}{S S':Nat->Prop}(h:TG w w' px vt vf S Cn Co S'){b:Nat}(h1:b<w.heap.size)(h2:¬kD px vt vf b):w'.heap[b]?=w.heap[b]?:=h.keep.block b h1 h2
theorem TG.TI(h:TG w w' px vt vf S Cn Co S')(h1:b<w.heap.size)(h2:¬kD px vt vf b)(h3:¬S b):¬kD px Cn Co b/\¬S' b:=
 ⟨λk=>by rcases h.ins b k with k|k;exact h2 k;omega,λk=>by rcases h.s2 b k with k|k;exact h3 k;omega⟩
theorem TB.vJ(h:TB w px vt vf S L)(hb:kD px vt vf b):b<w.heap.size:=by
 obtain⟨xs,ho,_⟩:=h.forms;rcases hb with rfl|hb|hb
 .exact bu h.cells
 .exact(h.texts.lt b hb).2
 .exact(ho.lt b hb).2
theorem TB.Tf(h:TB w px vt vf S L)(hb:S b):b<w.heap.size:=by
 obtain⟨xs,_,hi⟩:=h.forms;exact hi.2.1 b hb
theorem TB.keep{w w':World}{px:Nat}{vt vf:Value}{S:Nat->Prop}{L:List (ByteArray × dH)}{G:Nat->Prop}(h:TB w px vt vf S L)(hk:dX G w w')(hd:∀b,kD px vt vf b->¬G b)(hs:∀b,S b->¬G b):TB w' px vt vf S L:=by
 obtain⟨xs,ho,hx⟩:=h.forms;refine⟨?_,bI h.texts hk (λb hb=>hd b (.inr (.inl hb))),⟨xs,bI ho hk (λb hb=>hd b (.inr (.inr hb))),hx.keep hk hs⟩,h.sep,h.kP,h.mK,h.mJ,h.law⟩;rw[hk.block px (bu h.cells) (hd px (.inl rfl))];exact h.cells
theorem TB.ext(h:TB w px vt vf S L)(hx:Ext w w'):TB w' px vt vf S L:=
 h.keep (fq (F:=λ_=>False) hx) (λ_ _=>id) (λ_ _=>id)
structure TX(w:World)(px:Nat)(vt vf:Value)(S:Nat->Prop)(Lt:List ByteArray)(Lf:List dH):Prop where
 cells:w.heap[px]?=some (.cells #[vt,vf] 64 (0,0))
 texts:w.ownsRow 0 9 1 vt Lt.length (Lt.map Value.string)
 forms:∃xs,w.ownsRow 0 28 1 vf Lf.length xs/\Items pU S 1 xs Lf w
 sep:∀b,S b->¬kD px vt vf b
 kP:vt.ownBlock≠some px
 mK:vf.ownBlock≠some px
 mJ:∀b,vt.ownBlock=some b->vf.ownBlock≠some b
theorem TB.tx(h:TB w px vt vf S L):TX w px vt vf S (L.map (·.1)) (L.map (·.2)):=
 ⟨h.cells,by have:=h.texts;simpa [Function.comp_def]using this,by have:=h.forms;simpa using this,h.sep,h.kP,h.mK,h.mJ⟩
theorem TX.tb(h:TX w px vt vf S (L.map (·.1)) (L.map (·.2)))(hl:∀x,x∈L->BkL x):TB w px vt vf S L:=
 ⟨h.cells,by have:=h.texts;simpa [Function.comp_def]using this,by have:=h.forms;simpa using this,h.sep,h.kP,h.mK,h.mJ,hl⟩
theorem TX.vJ(h:TX w px vt vf S Lt Lf)(hb:kD px vt vf b):b<w.heap.size:=by
 obtain⟨xs,ho,_⟩:=h.forms;rcases hb with rfl|hb|hb
 .exact bu h.cells
 .exact(h.texts.lt b hb).2
 .exact(ho.lt b hb).2
theorem TX.Tf(h:TX w px vt vf S Lt Lf)(hb:S b):b<w.heap.size:=by
 obtain⟨xs,_,hi⟩:=h.forms;exact hi.2.1 b hb
theorem TX.ext{w w':World}{px:Nat}{vt vf:Value}{S:Nat->Prop}{Lt:List ByteArray}{Lf:List dH}(h:TX w px vt vf S Lt Lf)(hx:Ext w w'):TX w' px vt vf S Lt Lf:=by
 obtain⟨xs,ho,hi⟩:=h.forms;exact⟨by rw[hx.block _ (bu h.cells)];exact h.cells,bY h.texts hx,⟨xs,bY ho hx,hi.ext hx⟩,h.sep,h.kP,h.mK,h.mJ⟩
theorem OD(hl:kR w v v')(hb:b<w.heap.size)(hn:v.ownBlock≠some b):v'.ownBlock≠some b:=λe=>by
 rcases hl with k|⟨g,k,k2⟩
 .exact hn (by rw[<-k];exact e)
 .rw[k]at e;injection e with e;omega
theorem Cx(hl:kR w v v')(h:v'.ownBlock=some b):v.ownBlock=some b\/w.heap.size<=b:=by
 rcases hl with k|⟨g,k,k2⟩
 .exact .inl (by rw[<-k];exact h)
 .rw[k]at h;injection h with h;exact .inr (by omega)
theorem TX.text{tb:ByteArray}(h:TX wr px vt vf S Lt Lf)(ho:w5.ownsRow 0 9 1 v5 (Lt.length+1) (Lt.map Value.string++[.string tb]))(hg:(wr.alloc X).grownBy w5 vt.ownBlock)(hl:kR (wr.alloc X) vt v5):
 TX (w5.setCell ⟨px,0,none⟩ v5) px v5 vf S (Lt++[tb]) Lf/\TG wr (w5.setCell ⟨px,0,none⟩ v5) px vt vf S v5 vf S/\w5.cell? ⟨px,0,none⟩=some vt/\w5.frozen? ⟨px,0,none⟩=false:=by
 have zx:(wr.alloc X).heap.size=wr.heap.size+1:=eQ _ _;have z1:=hg.size;have hpx:=bu h.cells;obtain⟨xs,hf,hi⟩:=h.forms;have hins:∀b,kD px v5 vf b->kD px vt vf b\/wr.heap.size<=b:=λb hb=>by
  rcases hb with hb|hb|hb
  .exact .inl (.inl hb)
  .rcases Cx hl hb with k|k
   .exact .inl (.inr (.inl k))
   .exact .inr (by omega)
  .exact .inl (.inr (.inr hb))
 have hk:dX (kD px vt vf) wr (w5.setCell ⟨px,0,none⟩ v5):=⟨hg.os,hg.tape,hg.output,by rw[World.size_setCell];omega,λk hk hn=>by
  rw[heap_setCell_other _ _ _ _ (λe=>hn (.inl e)),hg.block k (by omega) (λe=>hn (.inr (.inl e.symm))),Below.heap_alloc _ _ _ hk]⟩
 have RV:w5.heap[px]?=some (.cells #[vt,vf] 64 (0,0)):=by rw[hg.block px (by omega) (λe=>h.kP e.symm),Below.heap_alloc _ _ _ hpx];exact h.cells
 have a1:=OD hl (b:=px) (by omega) h.kP;refine⟨⟨heap_setCell_same _ _ _ _ _ _ RV,?_,⟨xs,?_,?_⟩,λb hb k=>?_,a1,h.mK,λb hb e=>?_⟩,⟨hk,hins,λ_ h=>h,λ_ h=>.inl h⟩,cell_of_row w5 px 0 _ _ _ RV,frozen_of_row w5 px 0 _ _ RV⟩
 .rw[bG,aK]
  exact bI ho (dV (p:=⟨px,0,none⟩)) (λb hb e=>a1 (by rw[hb];simpa using e))
 .refine bI (bI (bY hf (bS (Below.refl _ _) X)) (w':=w5) (G:=λb=>vt.ownBlock=some b) ⟨hg.os,hg.tape,hg.output,hg.size,λk hk hn=>hg.block k hk (λe=>hn e.symm)⟩ (λb hb e=>h.mJ b e hb)) (dV (p:=⟨px,0,none⟩)) (λb hb e=>h.mK (by rw[hb];simpa using e))
 .exact hi.keep hk h.sep
 .rcases hins b k with k|k
  .exact h.sep b hb k
  .have:=h.Tf hb;omega
 .rcases Cx hl hb with k|k
  .exact h.mJ b k e
  .have:=(hf.lt b e).2;omega
theorem TX.form{F:dH}(h:TX wr px vt vf S Lt Lf){xs:List Value}(hi:Items pU S 1 xs Lf wr)(ho:w5.ownsRow 0 28 1 v5 (Lf.length+1) (xs++[v]))(hg:(wr.alloc X).grownBy w5 vf.ownBlock)(hl:kR (wr.alloc X) vf v5)
 (hF:nN T (λW=>pU W [v] F) wr) (hT:∀b,T b->¬kD px vt vf b):
 TX (w5.setCell ⟨px,1,none⟩ v5) px vt v5 (λb=>S b\/T b) Lt (Lf++[F])/\dX (kD px vt vf) wr (w5.setCell ⟨px,1,none⟩ v5)/\(∀b,kD px vt v5 b->kD px vt vf b\/wr.heap.size<=b)/\w5.cell? ⟨px,1,none⟩=some vf/\w5.frozen? ⟨px,1,none⟩=false:=by
 have zx:(wr.alloc X).heap.size=wr.heap.size+1:=eQ _ _;have z1:=hg.size;have hpx:=bu h.cells;have hins:∀b,kD px vt v5 b->kD px vt vf b\/wr.heap.size<=b:=λb hb=>by
  rcases hb with hb|hb|hb
  .exact .inl (.inl hb)
  .exact .inl (.inr (.inl hb))
  .rcases Cx hl hb with k|k
   .exact .inl (.inr (.inr k))
   .exact .inr (by omega)
 have hk:dX (kD px vt vf) wr (w5.setCell ⟨px,1,none⟩ v5):=⟨hg.os,hg.tape,hg.output,by rw[World.size_setCell];omega,λk hk hn=>by
  rw[heap_setCell_other _ _ _ _ (λe=>hn (.inl e)),hg.block k (by omega) (λe=>hn (.inr (.inr e.symm))),Below.heap_alloc _ _ _ hk]⟩
 have RV:w5.heap[px]?=some (.cells #[vt,vf] 64 (0,0)):=by rw[hg.block px (by omega) (λe=>h.mK e.symm),Below.heap_alloc _ _ _ hpx];exact h.cells
 have a1:=OD hl (b:=px) (by omega) h.mK;have hlt:∀b,S b\/T b->b<wr.heap.size:=λb hb=>hb.elim (λh'=>h.Tf h') (λh'=>hF.1 b h')
 have hsep:∀b,S b\/T b->¬kD px vt vf b:=λb hb=>hb.elim (h.sep b) (hT b)
 refine⟨⟨heap_setCell_same _ _ _ _ _ _ RV,?_,⟨xs++[v],?_,?_⟩,λb hb k=>?_,h.kP,a1,λb hb e=>?_⟩,hk,hins,cell_of_row w5 px 1 _ _ _ RV,frozen_of_row w5 px 1 _ _ RV⟩
 .refine bI (bI (bY h.texts (bS (Below.refl _ _) X)) (w':=w5) (G:=λb=>vf.ownBlock=some b) ⟨hg.os,hg.tape,hg.output,hg.size,λk hk hn=>hg.block k hk (λe=>hn e.symm)⟩ (λb hb e=>h.mJ b hb e)) (dV (p:=⟨px,1,none⟩)) (λb hb e=>h.kP (by rw[hb];simpa using e))
 .rw[aK]
  exact bI ho (dV (p:=⟨px,1,none⟩)) (λb hb e=>a1 (by rw[hb];simpa using e))
 .exact((hi.mono (λb hb=>.inl hb) hlt).snoc rfl (hF.mono (λb hb=>.inr hb) hlt (λ_ h=>h))).keep hk hsep
 .rcases hins b k with k|k
  .exact hsep b hb k
  .have:=hlt b hb;omega
 .rcases Cx hl e with k|k
  .exact h.mJ b hb k
  .have:=(h.texts.lt b hb).2;omega
def SS(bs:Nat)(f:Nat->Value)(b:Nat):Prop:=b=bs\/(f 0).ownBlock=some b\/(f 1).ownBlock=some b
structure VM(w wr:World)(px:Nat)(IJ IK:Value)(S0:Nat->Prop)(L0:List (ByteArray × dH))(X0:Obj)(bl:Nat->List fw)(kk:Nat)(bs:Nat)(vt vf:Value)(S:Nat->Prop)(L:List (ByteArray × dH))(f:Nat->Value)(Fs:Nat->List dH):Prop where
 tb:TB wr px vt vf S L
 tg:TG w wr px IJ IK S0 vt vf S
 box:wr.heap[w.heap.size]?=some X0
 res:wr.heap[w.heap.size+1]?=some (.cells #[.slice none 0 0] 28 (0,0))
 blk:wr.heap[bs]?=some (.cells #[f 0,f 1] 47 (0,0))
 row:∀q,q<2->∃xs,wr.ownsRow w.heap.size 28 1 (f q) (Fs q).length xs/\Items pU S 1 xs (Fs q) wr
 ap:∀q,q<2->(f q).ownBlock≠some bs
 Eg:∀b,(f 0).ownBlock=some b->(f 1).ownBlock≠some b
 p0:¬kD px vt vf w.heap.size/\¬S w.heap.size
 p1:¬kD px vt vf (w.heap.size+1)/\¬S (w.heap.size+1)
 ps:∀b,SS bs f b->¬kD px vt vf b/\¬S b
 gt:∀b,SS bs f b->w.heap.size+1<b/\b<wr.heap.size
 fs:∀q,q<2->uC (bl q) kk (Fs q)
theorem ME(h:q<2):q=0\/q=1:=by omega
theorem SS.of{bs:Nat}{f:Nat->Value}(hq:q<2)(h:(f q).ownBlock=some b):SS bs f b:=by
 rcases ME hq with rfl|rfl
 .exact .inr (.inl h)
 .exact .inr (.inr h)
section
variable {w wr w1:World} {px:Nat} {IJ IK:Value} {S0:Nat->Prop} {L0:List (ByteArray × dH)} {X0:Obj} {bl:Nat->List fw} {kk:Nat} {bs:Nat} {vt vf:Value} {S:Nat->Prop} {L:List (ByteArray × dH)} {f:Nat->Value} {Fs:Nat->List dH}
variable {Cn Co v5:Value} {S':Nat->Prop} {L':List (ByteArray × dH)} {q:Nat} {xs:List Value}
theorem VM.go(h:VM w wr px IJ IK S0 L0 X0 bl kk bs vt vf S L f Fs)(hb:TB w1 px Cn Co S' L')(hg:TG wr w1 px vt vf S Cn Co S'):
 VM w w1 px IJ IK S0 L0 X0 bl kk bs Cn Co S' L' f Fs:=by
 have z:=hg.keep.size;refine⟨hb,h.tg.trans hg,?_,?_,?_,λq hq=>?_,h.ap,h.Eg,hg.TI (bu h.box) h.p0.1 h.p0.2,hg.TI (bu h.res) h.p1.1 h.p1.2,λb hb=>hg.TI (h.gt b hb).2 (h.ps b hb).1 (h.ps b hb).2,λb hb=>⟨(h.gt b hb).1,by have:=(h.gt b hb).2;omega⟩,h.fs⟩
 .rw[hg.block (bu h.box) h.p0.1];exact h.box
 .rw[hg.block (bu h.res) h.p1.1];exact h.res
 .rw[hg.block (bu h.blk) (h.ps bs (.inl rfl)).1];exact h.blk
 .obtain⟨xs,h1,h2⟩:=h.row q hq
  exact⟨xs,bI h1 hg.keep (λb hb=>(h.ps b (SS.of hq hb)).1),(h2.keep hg.keep h.tb.sep).mono hg.s1 λ_=>hb.Tf⟩
theorem VM.ext(h:VM w wr px IJ IK S0 L0 X0 bl kk bs vt vf S L f Fs)(hx:Ext wr w1):VM w w1 px IJ IK S0 L0 X0 bl kk bs vt vf S L f Fs:=
 h.go (h.tb.ext hx) (TG.ext hx)
theorem VM.aet(h:VM w wr px IJ IK S0 L0 X0 bl kk bs vt vf S L f Fs)(hb:TB w1 px Cn Co S' L')(hg:TG wr w1 px vt vf S Cn Co S')(hq:q<2)(h1:wr.ownsRow w.heap.size 28 1 (f q) (Fs q).length xs)(h2:Items pU S 1 xs (Fs q) wr):
 w1.ownsRow w.heap.size 28 1 (f q) (Fs q).length xs/\Items pU S' 1 xs (Fs q) w1:=⟨bI h1 hg.keep (λb hb=>(h.ps b (SS.of hq hb)).1),(h2.keep hg.keep h.tb.sep).mono hg.s1 λ_=>hb.Tf⟩
theorem VM.push(h:VM w wr px IJ IK S0 L0 X0 bl kk bs vt vf S L f Fs){w5:World}{X:Obj}(hq:q<2){v:Value}{F:dH}{e:fw}(hi:Items pU S 1 xs (Fs q) wr)(hF:nN S (λW=>pU W [v] F) wr)
 (ho:w5.ownsRow w.heap.size 28 1 v5 ((Fs q).length+1) (xs++[v])) (hg:(wr.alloc X).grownBy w5 (f q).ownBlock) (hl:kR (wr.alloc X) (f q) v5)
 (he:(bl q)[(Fs q).length]?=some e) (hV:fO F (gB (fr e))) (hk:F.length<=kk):
 VM w (w5.setCell ⟨bs,q,none⟩ v5) px IJ IK S0 L0 X0 bl kk bs vt vf S L (λp=>if p=q then v5 else f p) (λp=>if p=q then Fs q++[F]else Fs p):=by
 have z1:=hg.size;rw[eQ]at z1;have hkp:dX (SS bs f) wr (w5.setCell ⟨bs,q,none⟩ v5):=by
  refine⟨hg.os,hg.tape,hg.output,by simp;omega,λk hk hn=>?_⟩;rw[heap_setCell_other _ _ _ _ (λe=>hn (.inl e)),hg.block k (by rw[eQ];omega) (λe=>hn (SS.of hq e.symm)),Below.heap_alloc _ _ _ hk]
 have hss:∀b,SS bs (λp=>if p=q then v5 else f p) b->SS bs f b\/wr.heap.size<=b:=by
  intro b hb;have key:∀p,p<2->((λp=>if p=q then v5 else f p) p).ownBlock=some b->SS bs f b\/wr.heap.size<=b:=λp hp hb=>by
   by_cases c:p=q
   .subst c
    simp only[if_true]at hb;rcases hl with k|⟨g,k,k2⟩
    .exact .inl (SS.of hq (by rw[<-k];exact hb))
    .rw[k]at hb;injection hb with hb;rw[eQ]at k2;exact .inr (by omega)
   .simp only[c,if_false]at hb
    exact .inl (SS.of hp hb)
  rcases hb with hb|hb|hb
  .exact .inl (.inl hb)
  .exact key 0 (by omega) hb
  .exact key 1 (by omega) hb
 have akt:∀b,S b->b<wr.heap.size:=λb=>h.tb.Tf
 have akK:∀b,kD px vt vf b->b<wr.heap.size:=λb=>h.tb.vJ
 have hbs:=bu h.blk;have afM:(f q).ownBlock≠some bs:=h.ap q hq;have hv5:v5.ownBlock≠some bs:=λe=>by
  rcases hl with k|⟨g,k,k2⟩
  .exact afM (by rw[<-k];exact e)
  .rw[k]at e;injection e with e;rw[eQ]at k2;omega
 have hz:∀b,SS bs (λp=>if p=q then v5 else f p) b->¬kD px vt vf b/\¬S b:=λb hb=>by
  rcases hss b hb with k|k
  .exact h.ps b k
  .exact⟨λi=>by have:=akK b i;omega,λi=>by have:=akt b i;omega⟩
 have hx1:=bu h.box;have hx2:=bu h.res;have zr:=h.tg.keep.size;refine⟨h.tb.keep hkp (λb hb k=>(h.ps b k).1 hb) (λb hb k=>(h.ps b k).2 hb),⟨h.tg.keep.trans hkp (λb hb k=>by have:=(h.gt b k).1;omega),h.tg.ins,h.tg.s1,h.tg.s2⟩,?_,?_,?_,λp hp=>?_,λp hp=>?_,λb hb=>?_,h.p0,h.p1,hz,λb hb=>?_,λp hp=>?_⟩
 .rw[hkp.block _ hx1 (λk=>by have:=(h.gt _ k).1;omega)];exact h.box
 .rw[hkp.block _ hx2 (λk=>by have:=(h.gt _ k).1;omega)];exact h.res
 .have hb5:w5.heap[bs]?=some (.cells #[f 0,f 1] 47 (0,0)):=by
   rw[hg.block bs (by rw[eQ];omega) (λe=>afM e.symm),Below.heap_alloc _ _ _ hbs];exact h.blk
  have hs:=heap_setCell_same w5 bs q _ _ v5 hb5;rcases ME hq with rfl|rfl
  .simpa using hs
  .simpa using hs
 .by_cases c:p=q
  .subst c
   refine⟨xs++[v],?_,?_⟩
   .simp only[if_true]
    rw[aK];exact bI ho (dV (p:=⟨bs,p,none⟩)) (λb hb e=>hv5 (by rw[hb];simpa using e))
   .simp only[if_true]
    exact(hi.snoc rfl hF).keep hkp (λb hb k=>(h.ps b k).2 hb)
  .obtain⟨ys,h1,h2⟩:=h.row p hp
   refine⟨ys,?_,?_⟩
   .simp only[c,if_false]
    have hne:∀b,(f p).ownBlock=some b->(f q).ownBlock≠some b:=λb hb e=>by
     rcases ME hp with rfl|rfl <;> rcases ME hq with rfl|rfl
     .exact c rfl
     .exact h.Eg b hb e
     .exact h.Eg b e hb
     .exact c rfl
    refine bI (bI (bY h1 (bS (Below.refl _ _) X)) (w':=w5) (G:=λb=>(f q).ownBlock=some b) ⟨hg.os,hg.tape,hg.output,hg.size,λk hk hn=>hg.block k hk (λe=>hn e.symm)⟩ hne) (dV (p:=⟨bs,q,none⟩)) (λb hb e=>h.ap p hp (by rw[hb];simpa using e))
   .simp only[c,if_false]
    exact h2.keep hkp (λb hb k=>(h.ps b k).2 hb)
 .by_cases c:p=q
  .simp only[c,if_true];exact hv5
  .simp only[c,if_false];exact h.ap p hp
 .have hlow:∀p,p<2->∀b,(f p).ownBlock=some b->b<wr.heap.size:=λp hp b hb=>(h.gt b (SS.of hp hb)).2
  rcases ME hq with rfl|rfl
  .simp only[if_true]at hb
   simp only[Nat.one_ne_zero,if_false];intro e;rcases hl with k|⟨g,k,k2⟩
   .exact h.Eg b (by rw[<-k];exact hb) e
   .rw[k]at hb;injection hb with hb;rw[eQ]at k2;have:=hlow 1 (by omega) b e;omega
  .simp only[Nat.zero_ne_one,if_false]at hb
   simp only[if_true];intro e;rcases hl with k|⟨g,k,k2⟩
   .exact h.Eg b hb (by rw[<-k];exact e)
   .rw[k]at e;injection e with e;rw[eQ]at k2;have:=hlow 0 (by omega) b hb;omega
 .have hsz:(w5.setCell ⟨bs,q,none⟩ v5).heap.size=w5.heap.size:=by simp
  rw[hsz];have hown:∀p,p<2->((λp=>if p=q then v5 else f p) p).ownBlock=some b->b<w5.heap.size:=λp hp hb=>by
   by_cases c:p=q
   .simp only[c,if_true]at hb;exact(ho.lt b hb).2
   .simp only[c,if_false]at hb;have:=(h.gt b (SS.of hp hb)).2;omega
  rcases hss b hb with k|k
  .exact⟨(h.gt b k).1,by have:=(h.gt b k).2;omega⟩
  .refine⟨by omega,?_⟩
   rcases hb with hb|hb|hb
   .omega
   .exact hown 0 (by omega) hb
   .exact hown 1 (by omega) hb
 .by_cases c:p=q
  .simp only[c,if_true];exact(h.fs q hq).snoc he hV hk
  .simp only[c,if_false];exact h.fs p hp
theorem SS.push{bs:Nat}{f:Nat->Value}{wr:World}(hq:q<2)(hl:kR wr (f q) v5):∀b,SS bs (λp=>if p=q then v5 else f p) b->SS bs f b\/wr.heap.size<=b:=by
 intro b hb;have key:∀p,p<2->((λp=>if p=q then v5 else f p) p).ownBlock=some b->SS bs f b\/wr.heap.size<=b:=λp hp hb=>by
  by_cases c:p=q
  .subst c
   simp only[if_true]at hb;rcases hl with k|⟨g,k,k2⟩
   .exact .inl (SS.of hq (by rw[<-k];exact hb))
   .rw[k]at hb;injection hb with hb;exact .inr (by omega)
  .simp only[c,if_false]at hb
   exact .inl (SS.of hp hb)
 rcases hb with hb|hb|hb
 .exact .inl (.inl hb)
 .exact key 0 (by omega) hb
 .exact key 1 (by omega) hb
end
end Go.Proofs.YteknjeohbcgpdaaGreatDoor