/-
  The reference's book of strips: its plain law and its memory.
-/
import Derived.Test.YteknjeohbcgpdaaGreatDoorK32
import Derived.Test.YteknjeohbcgpdaaGreatDoorK43
set_option maxRecDepth 100000
namespace Go.Proofs.YteknjeohbcgpdaaGreatDoor
open Go.RowKit
open bz (dC Nd vl Same Gm Canon iK Ge fq eu plus Stp gS jN eQ mU live mS sM nM)
variable {gs:List Gm} {k kd i:Nat} {Fs:List dC} {F:dC} {g:Gm} {s:Stp} {PL:List Stp}
def J4(gs:List Gm)(k:Nat)(Fs:List dC):Prop:=∀i (h:i<Fs.length),∃g,gs[i]?=some g/\fu Fs[i] g/\(Fs[i]).length<=k
theorem J4.nil(gs:List Gm)(k:Nat):J4 gs k []:=λi h=>absurd h (by simp)
theorem J4.snoc(h:J4 gs k Fs)(he:gs[Fs.length]?=some g)(hF:fu F g)(hl:F.length<=k):J4 gs k (Fs++[F]):=by
 intro i hi;by_cases c:i<Fs.length
 .rw[dM c];exact h i c
 .have e:i=Fs.length:=by simp at hi;omega
  subst e;rw[eB (ai _)];simpa using⟨_,he,hF,hl⟩
theorem J4.good{gs:List Gm}{k:Nat}{Fs:List dC}(h:J4 gs k Fs):∀F,F∈Fs->bz.Good F/\0<F.length:=by
 intro F hF;obtain⟨i,hi,rfl⟩:=aO.1 hF;obtain⟨e,_,h2,_⟩:=h i hi;exact⟨h2.1.good,iY.2 h2.1.ne⟩
theorem J4.lens(h:J4 gs k Fs):∀F,F∈Fs->F.length<=k:=by
 intro F hF;obtain⟨i,hi,rfl⟩:=aO.1 hF;obtain⟨e,_,_,h2⟩:=h i hi;exact h2
theorem J4.eqv{gs:List Gm}{k:Nat}{Fs:List dC}(h:J4 gs k Fs)(hl:Fs.length=gs.length):
 (∀x,x∈Fs.map eu->∃y,y∈gs/\iK x y)/\(∀y,y∈gs->∃x,x∈Fs.map eu/\iK x y):=by
 refine⟨λx hx=>?_,λy hy=>?_⟩
 .obtain⟨F,hF,rfl⟩:=aI.1 hx
  obtain⟨i,hi,rfl⟩:=aO.1 hF;obtain⟨e,he,h1,_⟩:=h i hi;exact⟨_,dU he,h1.eqv⟩
 .obtain⟨i,hi,rfl⟩:=aO.1 hy
  obtain⟨e,he,h1,_⟩:=h i (by omega);rw[aa hi]at he;injection he with he;subst he;exact⟨_,aW (ah (by omega)),h1.eqv⟩
theorem Oo{Ls Rs:List dC}(hL:J4 ((jN kd true s).map (gS kd)) k Ls)(hR:J4 ((jN kd false s).map (gS kd)) k Rs)(lL:Ls.length=((jN kd true s).map (gS kd)).length)(lR:Rs.length=((jN kd false s).map (gS kd)).length){F1 F2:dC}{x:Gm}
 (s1:Same (eu F1) (.mk (Ls.map eu) (Rs.map eu))) (i2:fq F2) (s2:Same (eu F2) x) (c2:Canon x) (e2:iK x (eu F1)):fu F2 (gS kd s):=by
 refine⟨i2,x,s2,c2,e2.trans (s1.eqv.trans ?_)⟩;rw[bz.TR];exact ZP (hL.eqv lL).1 (hL.eqv lL).2 (hR.eqv lR).1 (hR.eqv lR).2
theorem Nj(hk:2<=k)(s:Stp):mS k s=live k s:=by
 have key:∀(s:Stp) (n j:Nat),bz.sm (bz.wt k n) j s=live k s:=λs=>by
  induction s with
  |nil=>intro n j;rfl
  |cons c s ih=>
   intro n j;have h0:¬k=0:=(by omega);have h1:¬k=1:=(by omega);have h2:¬k<=1:=(by omega);rw[bz.sm,ih];by_cases e:c=46 <;> simp[bz.wt,live,bz.tY,e,h0,h1,h2] <;> omega
 exact key s _ 0
theorem BI:∀{s t:Stp},t∈bz.dots s->mS 1 t<=mS 1 s
 |[],t,h=>by
  obtain rfl:t=[]:=by simpa [bz.dots]using h
  exact ai _
 |c :: s,t,h=>by
  unfold bz.dots at h;split at h
  .rename_i hc
   rcases dD.1 h with rfl|h
   .exact az _
   .have:=BI h
    rw[bz.sV];omega
  .rename_i hc
   cases hd:bz.dots s with
   |nil=>exact absurd hd (bz.tF s)
   |cons u l=>
    rw[hd]at h;simp only at h;have hm:∀t,t∈u :: l->t∈bz.dots s:=λt ht=>by rw[hd];exact ht
    rw[bz.sV];rcases dD.1 h with rfl|h
    .have:=BI (hm u (by simp))
     rw[bz.sV];omega
    .have:=BI (hm t (by simp[h]));omega
theorem Jb{k:Nat}:∀{l:List Stp} {t:Stp},t∈l->live k t<=bz.mg k l
 |x :: l,t,h=>by
  rcases dD.1 h with rfl|h
  .simp[bz.mg]
  .have:=Jb (k:=k) h
   simp only[bz.mg,eZ,jS]at *;omega
theorem VE{t:Stp}(h:t∈eQ k s):mS k t<=mS k s:=by
 by_cases hk:2<=k
 .rw[Nj hk,Nj hk]
  exact bU (Jb h) bz.oz.1
 .have hr:=(eU.1 h).1
  unfold bz.jW at hr;by_cases h0:k=0
  .rw[if_pos h0]at hr
   rw[eH.1 hr];exact ai _
  .obtain rfl:k=1:=by omega
   rw[if_neg h0,if_pos rfl]at hr;exact BI hr
def jF(kd:Nat)(PL:List Stp)(i:Nat)(F:dC):Prop:=fu F (sM kd nM (PL.take i))/\F.length<=3 ^ bz.mg kd (PL.take i)
theorem jF.zero(kd:Nat)(PL:List Stp):jF kd PL 0 [([],[])]:=⟨Fb,by show 1<=3 ^ 0;decide⟩
theorem zO(hi:i<PL.length):bz.mg kd (PL.take (i+1))=bz.mg kd (PL.take i)+live kd PL[i]:=by
 rw[bg hi];unfold bz.mg;rw[aU,List.sum_append];simp only[eZ,lU,jS,List.sum_nil,kS]
theorem zA(hi:i<PL.length)(g:Gm):sM kd g (PL.take (i+1))=plus (sM kd g (PL.take i)) (gS kd PL[i]):=by
 rw[bg hi];unfold sM;rw[List.foldl_append];rfl
theorem jF.first(hi:0<PL.length)(hF:fu F (gS kd PL[0]))(hl:F.length<=3 ^ live kd PL[0]):jF kd PL 1 F:=by
 have e:=zO (kd:=kd) hi;have e2:=zA (kd:=kd) hi nM;rw[gK]at e e2;refine⟨?_,by rw[e];simpa [bz.mg]using hl⟩;rw[e2];exact hF.to ((bz.jI _ _).eqv.trans (bz.lY _).eqv).symm
theorem jF.next(hi:i<PL.length){G H F':dC}(hF:jF kd PL i F)(hG:fu G (gS kd PL[i]))(hl:G.length<=3 ^ live kd PL[i])
 (hH:Same (eu H) (plus (eu F) (eu G))) (hHl:H.length<=F.length*G.length) (i':fq F') (s:Same (eu F') g) (c:Canon g) (e:iK g (eu H)) (hl':F'.length<=H.length):jF kd PL (i+1) F':=by
 refine⟨?_,?_⟩
 .rw[zA hi];exact hF.1.sum hG hH i' s c e
 .rw[zO hi,Nat.pow_add]
  exact bU hl' (bU hHl (jR hF.2 hl))
theorem jF.last(hF:jF kd (eQ kd s) (eQ kd s).length F):fu F (gS kd s)/\F.length<=3 ^ live kd s:=by
 unfold jF at hF;rw[cO (ai _)]at hF;exact⟨hF.1.to (bz.xK kd s),bU hF.2 (nY (by omega) bz.oz.1)⟩
theorem Nl(l:List Stp)(i:Nat):bz.mg kd (l.take i)<=bz.mg kd l:=by
 have e:bz.mg kd (l.take i++l.drop i)=bz.mg kd (l.take i)+bz.mg kd (l.drop i):=by unfold bz.mg;rw[aU,List.sum_append]
 rw[iZ]at e;omega
theorem Nf(s:ByteArray):(⟨(bH s).toArray⟩:ByteArray)=s:=by unfold bH;cases s;simp
def SkL(kd:Nat)(x:ByteArray × dC):Prop:=mU kd (bH x.1)/\x.1.size<=7/\fu x.2 (gS kd (bH x.1))/\x.2.length<=3 ^ live kd (bH x.1)
section
variable {kd:Nat}
variable {w wr w5:World} {px b:Nat} {vt vf v5:Value} {S:Nat->Prop} {L:List (ByteArray × dC)} {Lt:List ByteArray} {Lf:List dC} {X:Obj}
structure SB(kd:Nat)(w:World)(px:Nat)(vt vf:Value)(S:Nat->Prop)(L:List (ByteArray × dC)):Prop where
 cells:w.heap[px]?=some (.cells #[.int .i64 ((kd:Nat):Int),vt,vf] 84 (0,0))
 texts:w.ownsRow 0 9 1 vt L.length (L.map λx=>.string x.1)
 forms:∃xs,w.ownsRow 0 28 1 vf L.length xs/\Items pK S 1 xs (L.map (·.2)) w
 sep:∀b,S b->¬kR px vt vf b
 kX:vt.ownBlock≠some px
 mQ:vf.ownBlock≠some px
 mP:∀b,vt.ownBlock=some b->vf.ownBlock≠some b
 law:∀x,x∈L->SkL kd x
 nod:(L.map (·.1)).Nodup
theorem SB.uK(h:SB kd w px vt vf S L)(hb:kR px vt vf b):b<w.heap.size:=by
 obtain⟨xs,ho,_⟩:=h.forms;rcases hb with rfl|hb|hb
 .exact bG h.cells
 .exact(h.texts.lt b hb).2
 .exact(ho.lt b hb).2
theorem SB.Q5(h:SB kd w px vt vf S L)(hb:S b):b<w.heap.size:=by
 obtain⟨xs,_,hi⟩:=h.forms;exact hi.2.1 b hb
theorem SB.keep{w w':World}{px:Nat}{vt vf:Value}{S:Nat->Prop}{L:List (ByteArray × dC)}{G:Nat->Prop}(h:SB kd w px vt vf S L)(hk:fe G w w')(hd:∀b,kR px vt vf b->¬G b)(hs:∀b,S b->¬G b):SB kd w' px vt vf S L:=by
 obtain⟨xs,ho,hx⟩:=h.forms;refine⟨?_,bO h.texts hk (λb hb=>hd b (.inr (.inl hb))),⟨xs,bO ho hk (λb hb=>hd b (.inr (.inr hb))),hx.keep hk hs⟩,h.sep,h.kX,h.mQ,h.mP,h.law,h.nod⟩;rw[hk.block px (bG h.cells) (hd px (.inl rfl))];exact h.cells
theorem SB.ext{w':World}(h:SB kd w px vt vf S L)(hx:Ext w w'):SB kd w' px vt vf S L:=
 h.keep (fV (F:=λ_=>False) hx) (λ_ _=>id) (λ_ _=>id)
structure SX(kd:Nat)(w:World)(px:Nat)(vt vf:Value)(S:Nat->Prop)(Lt:List ByteArray)(Lf:List dC):Prop where
 cells:w.heap[px]?=some (.cells #[.int .i64 ((kd:Nat):Int),vt,vf] 84 (0,0))
 texts:w.ownsRow 0 9 1 vt Lt.length (Lt.map Value.string)
 forms:∃xs,w.ownsRow 0 28 1 vf Lf.length xs/\Items pK S 1 xs Lf w
 sep:∀b,S b->¬kR px vt vf b
 kX:vt.ownBlock≠some px
 mQ:vf.ownBlock≠some px
 mP:∀b,vt.ownBlock=some b->vf.ownBlock≠some b
theorem SB.tx(h:SB kd w px vt vf S L):SX kd w px vt vf S (L.map (·.1)) (L.map (·.2)):=
 ⟨h.cells,by have:=h.texts;simpa [Function.comp_def]using this,by have:=h.forms;simpa using this,h.sep,h.kX,h.mQ,h.mP⟩
theorem SX.tb(h:SX kd w px vt vf S (L.map (·.1)) (L.map (·.2)))(hl:∀x,x∈L->SkL kd x)(hn:(L.map (·.1)).Nodup):SB kd w px vt vf S L:=
 ⟨h.cells,by have:=h.texts;simpa [Function.comp_def]using this,by have:=h.forms;simpa using this,h.sep,h.kX,h.mQ,h.mP,hl,hn⟩
theorem SX.uK(h:SX kd w px vt vf S Lt Lf)(hb:kR px vt vf b):b<w.heap.size:=by
 obtain⟨xs,ho,_⟩:=h.forms;rcases hb with rfl|hb|hb
 .exact bG h.cells
 .exact(h.texts.lt b hb).2
 .exact(ho.lt b hb).2
theorem SX.Q5(h:SX kd w px vt vf S Lt Lf)(hb:S b):b<w.heap.size:=by
 obtain⟨xs,_,hi⟩:=h.forms;exact hi.2.1 b hb
theorem SX.ext{w w':World}{px:Nat}{vt vf:Value}{S:Nat->Prop}{Lt:List ByteArray}{Lf:List dC}(h:SX kd w px vt vf S Lt Lf)(hx:Ext w w'):SX kd w' px vt vf S Lt Lf:=by
 obtain⟨xs,ho,hi⟩:=h.forms;exact⟨by rw[hx.block _ (bG h.cells)];exact h.cells,dn h.texts hx,⟨xs,dn ho hx,hi.ext hx⟩,h.sep,h.kX,h.mQ,h.mP⟩
theorem SX.text{tb:ByteArray}(h:SX kd wr px vt vf S Lt Lf)(ho:w5.ownsRow 0 9 1 v5 (Lt.length+1) (Lt.map Value.string++[.string tb]))(hg:(wr.alloc X).grownBy w5 vt.ownBlock)(hl:mM (wr.alloc X) vt v5):
 SX kd (w5.setCell ⟨px,1,none⟩ v5) px v5 vf S (Lt++[tb]) Lf/\TG wr (w5.setCell ⟨px,1,none⟩ v5) px vt vf S v5 vf S/\w5.cell? ⟨px,1,none⟩=some vt/\w5.frozen? ⟨px,1,none⟩=false:=by
 have zx:(wr.alloc X).heap.size=wr.heap.size+1:=fw _ _;have z1:=hg.size;have hpx:=bG h.cells;obtain⟨xs,hf,hi⟩:=h.forms;have hins:∀b,kR px v5 vf b->kR px vt vf b\/wr.heap.size<=b:=λb hb=>by
  rcases hb with hb|hb|hb
  .exact .inl (.inl hb)
  .rcases BG hl hb with k|k
   .exact .inl (.inr (.inl k))
   .exact .inr (by omega)
  .exact .inl (.inr (.inr hb))
 have hk:fe (kR px vt vf) wr (w5.setCell ⟨px,1,none⟩ v5):=⟨hg.os,hg.tape,hg.output,by rw[World.size_setCell];omega,λk hk hn=>by
  rw[heap_setCell_other _ _ _ _ (λe=>hn (.inl e)),hg.block k (by omega) (λe=>hn (.inr (.inl e.symm))),Below.heap_alloc _ _ _ hk]⟩
 have Fa:w5.heap[px]?=some (.cells #[.int .i64 ((kd:Nat):Int),vt,vf] 84 (0,0)):=by rw[hg.block px (by omega) (λe=>h.kX e.symm),Below.heap_alloc _ _ _ hpx];exact h.cells
 have a1:=Np hl (b:=px) (by omega) h.kX;refine⟨⟨heap_setCell_same _ _ _ _ _ _ Fa,?_,⟨xs,?_,?_⟩,λb hb k=>?_,a1,h.mQ,λb hb e=>?_⟩,⟨hk,hins,λ_ h=>h,λ_ h=>.inl h⟩,cell_of_row w5 px 1 _ _ _ Fa,frozen_of_row w5 px 1 _ _ Fa⟩
 .rw[aU,aj]
  exact bO ho (gI (p:=⟨px,1,none⟩)) (λb hb e=>a1 (by rw[hb];simpa using e))
 .refine bO (bO (dn hf (bK (Below.refl _ _) X)) (w':=w5) (G:=λb=>vt.ownBlock=some b) ⟨hg.os,hg.tape,hg.output,hg.size,λk hk hn=>hg.block k hk (λe=>hn e.symm)⟩ (λb hb e=>h.mP b e hb)) (gI (p:=⟨px,1,none⟩)) (λb hb e=>h.mQ (by rw[hb];simpa using e))
 .exact hi.keep hk h.sep
 .rcases hins b k with k|k
  .exact h.sep b hb k
  .have:=h.Q5 hb;omega
 .rcases BG hl hb with k|k
  .exact h.mP b k e
  .have:=(hf.lt b e).2;omega
theorem SX.form{v:Value}{T:Nat->Prop}{F:dC}(h:SX kd wr px vt vf S Lt Lf){xs:List Value}(hi:Items pK S 1 xs Lf wr)(ho:w5.ownsRow 0 28 1 v5 (Lf.length+1) (xs++[v]))(hg:(wr.alloc X).grownBy w5 vf.ownBlock)(hl:mM (wr.alloc X) vf v5)
 (hF:oP T (λW=>pK W [v] F) wr) (hT:∀b,T b->¬kR px vt vf b):
 SX kd (w5.setCell ⟨px,2,none⟩ v5) px vt v5 (λb=>S b\/T b) Lt (Lf++[F])/\fe (kR px vt vf) wr (w5.setCell ⟨px,2,none⟩ v5)/\(∀b,kR px vt v5 b->kR px vt vf b\/wr.heap.size<=b)/\w5.cell? ⟨px,2,none⟩=some vf/\w5.frozen? ⟨px,2,none⟩=false:=by
 have zx:(wr.alloc X).heap.size=wr.heap.size+1:=fw _ _;have z1:=hg.size;have hpx:=bG h.cells;have hins:∀b,kR px vt v5 b->kR px vt vf b\/wr.heap.size<=b:=λb hb=>by
  rcases hb with hb|hb|hb
  .exact .inl (.inl hb)
  .exact .inl (.inr (.inl hb))
  .rcases BG hl hb with k|k
   .exact .inl (.inr (.inr k))
   .exact .inr (by omega)
 have hk:fe (kR px vt vf) wr (w5.setCell ⟨px,2,none⟩ v5):=⟨hg.os,hg.tape,hg.output,by rw[World.size_setCell];omega,λk hk hn=>by
  rw[heap_setCell_other _ _ _ _ (λe=>hn (.inl e)),hg.block k (by omega) (λe=>hn (.inr (.inr e.symm))),Below.heap_alloc _ _ _ hk]⟩
 have Fa:w5.heap[px]?=some (.cells #[.int .i64 ((kd:Nat):Int),vt,vf] 84 (0,0)):=by rw[hg.block px (by omega) (λe=>h.mQ e.symm),Below.heap_alloc _ _ _ hpx];exact h.cells
 have a1:=Np hl (b:=px) (by omega) h.mQ;have hlt:∀b,S b\/T b->b<wr.heap.size:=λb hb=>hb.elim (λh'=>h.Q5 h') (λh'=>hF.1 b h')
 have hsep:∀b,S b\/T b->¬kR px vt vf b:=λb hb=>hb.elim (h.sep b) (hT b)
 refine⟨⟨heap_setCell_same _ _ _ _ _ _ Fa,?_,⟨xs++[v],?_,?_⟩,λb hb k=>?_,h.kX,a1,λb hb e=>?_⟩,hk,hins,cell_of_row w5 px 2 _ _ _ Fa,frozen_of_row w5 px 2 _ _ Fa⟩
 .refine bO (bO (dn h.texts (bK (Below.refl _ _) X)) (w':=w5) (G:=λb=>vf.ownBlock=some b) ⟨hg.os,hg.tape,hg.output,hg.size,λk hk hn=>hg.block k hk (λe=>hn e.symm)⟩ (λb hb e=>h.mP b hb e)) (gI (p:=⟨px,2,none⟩)) (λb hb e=>h.kX (by rw[hb];simpa using e))
 .rw[aj]
  exact bO ho (gI (p:=⟨px,2,none⟩)) (λb hb e=>a1 (by rw[hb];simpa using e))
 .exact((hi.mono (λb hb=>.inl hb) hlt).snoc rfl (hF.mono (λb hb=>.inr hb) hlt (λ_ h=>h))).keep hk hsep
 .rcases hins b k with k|k
  .exact hsep b hb k
  .have:=hlt b hb;omega
 .rcases BG hl e with k|k
  .exact h.mP b hb k
  .have:=(h.texts.lt b hb).2;omega
structure Oa(kd:Nat)(w wr:World)(px:Nat)(Fy FC:Value)(S0:Nat->Prop)(L0:List (ByteArray × dC))(bl:Nat->List Gm)(kk:Nat)(bs:Nat)(vt vf:Value)(S:Nat->Prop)(L:List (ByteArray × dC))(f:Nat->Value)(Fs:Nat->List dC):Prop where
 tb:SB kd wr px vt vf S L
 tg:TG w wr px Fy FC S0 vt vf S
 res:wr.heap[w.heap.size]?=some (.cells #[.slice none 0 0] 28 (0,0))
 blk:wr.heap[bs]?=some (.cells #[f 0,f 1] 47 (0,0))
 row:∀q,q<2->∃xs,wr.ownsRow w.heap.size 28 1 (f q) (Fs q).length xs/\Items pK S 1 xs (Fs q) wr
 ap:∀q,q<2->(f q).ownBlock≠some bs
 Dr:∀b,(f 0).ownBlock=some b->(f 1).ownBlock≠some b
 p1:¬kR px vt vf w.heap.size/\¬S w.heap.size
 ps:∀b,SS bs f b->¬kR px vt vf b/\¬S b
 gt:∀b,SS bs f b->w.heap.size<b/\b<wr.heap.size
 fs:∀q,q<2->J4 (bl q) kk (Fs q)
section
variable {w wr w1:World} {px:Nat} {Fy FC:Value} {S0:Nat->Prop} {L0:List (ByteArray × dC)} {bl:Nat->List Gm} {kk:Nat} {bs:Nat} {vt vf:Value} {S:Nat->Prop} {L:List (ByteArray × dC)} {f:Nat->Value} {Fs:Nat->List dC}
variable {Bt Bu:Value} {S':Nat->Prop} {L':List (ByteArray × dC)} {q:Nat} {xs:List Value}
theorem Oa.go(h:Oa kd w wr px Fy FC S0 L0 bl kk bs vt vf S L f Fs)(hb:SB kd w1 px Bt Bu S' L')(hg:TG wr w1 px vt vf S Bt Bu S'):
 Oa kd w w1 px Fy FC S0 L0 bl kk bs Bt Bu S' L' f Fs:=by
 have z:=hg.keep.size;refine⟨hb,h.tg.trans hg,?_,?_,λq hq=>?_,h.ap,h.Dr,hg.VD (bG h.res) h.p1.1 h.p1.2,λb hb=>hg.VD (h.gt b hb).2 (h.ps b hb).1 (h.ps b hb).2,λb hb=>⟨(h.gt b hb).1,by have:=(h.gt b hb).2;omega⟩,h.fs⟩
 .rw[hg.block (bG h.res) h.p1.1];exact h.res
 .rw[hg.block (bG h.blk) (h.ps bs (.inl rfl)).1];exact h.blk
 .obtain⟨xs,h1,h2⟩:=h.row q hq
  exact⟨xs,bO h1 hg.keep (λb hb=>(h.ps b (SS.of hq hb)).1),(h2.keep hg.keep h.tb.sep).mono hg.s1 λ_=>hb.Q5⟩
theorem Oa.ext(h:Oa kd w wr px Fy FC S0 L0 bl kk bs vt vf S L f Fs)(hx:Ext wr w1):Oa kd w w1 px Fy FC S0 L0 bl kk bs vt vf S L f Fs:=
 h.go (h.tb.ext hx) (TG.ext hx)
theorem Oa.aa6(h:Oa kd w wr px Fy FC S0 L0 bl kk bs vt vf S L f Fs)(hb:SB kd w1 px Bt Bu S' L')(hg:TG wr w1 px vt vf S Bt Bu S')(hq:q<2)(h1:wr.ownsRow w.heap.size 28 1 (f q) (Fs q).length xs)(h2:Items pK S 1 xs (Fs q) wr):
 w1.ownsRow w.heap.size 28 1 (f q) (Fs q).length xs/\Items pK S' 1 xs (Fs q) w1:=⟨bO h1 hg.keep (λb hb=>(h.ps b (SS.of hq hb)).1),(h2.keep hg.keep h.tb.sep).mono hg.s1 λ_=>hb.Q5⟩
theorem Oa.push(h:Oa kd w wr px Fy FC S0 L0 bl kk bs vt vf S L f Fs){w5:World}{X:Obj}(hq:q<2){v5 v:Value}{F:dC}{e:Gm}(hi:Items pK S 1 xs (Fs q) wr)(hF:oP S (λW=>pK W [v] F) wr)
 (ho:w5.ownsRow w.heap.size 28 1 v5 ((Fs q).length+1) (xs++[v])) (hg:(wr.alloc X).grownBy w5 (f q).ownBlock) (hl:mM (wr.alloc X) (f q) v5)
 (he:(bl q)[(Fs q).length]?=some e) (hV:fu F e) (hk:F.length<=kk):
 Oa kd w (w5.setCell ⟨bs,q,none⟩ v5) px Fy FC S0 L0 bl kk bs vt vf S L (λp=>if p=q then v5 else f p) (λp=>if p=q then Fs q++[F]else Fs p):=by
 have z1:=hg.size;rw[fw]at z1;have hkp:fe (SS bs f) wr (w5.setCell ⟨bs,q,none⟩ v5):=by
  refine⟨hg.os,hg.tape,hg.output,by simp;omega,λk hk hn=>?_⟩;rw[heap_setCell_other _ _ _ _ (λe=>hn (.inl e)),hg.block k (by rw[fw];omega) (λe=>hn (SS.of hq e.symm)),Below.heap_alloc _ _ _ hk]
 have hss:∀b,SS bs (λp=>if p=q then v5 else f p) b->SS bs f b\/wr.heap.size<=b:=by
  intro b hb;have key:∀p,p<2->((λp=>if p=q then v5 else f p) p).ownBlock=some b->SS bs f b\/wr.heap.size<=b:=λp hp hb=>by
   by_cases c:p=q
   .subst c
    simp only[if_true]at hb;rcases hl with k|⟨g,k,k2⟩
    .exact .inl (SS.of hq (by rw[<-k];exact hb))
    .rw[k]at hb;injection hb with hb;rw[fw]at k2;exact .inr (by omega)
   .simp only[c,if_false]at hb
    exact .inl (SS.of hp hb)
  rcases hb with hb|hb|hb
  .exact .inl (.inl hb)
  .exact key 0 (by omega) hb
  .exact key 1 (by omega) hb
 have age:∀b,S b->b<wr.heap.size:=λb=>h.tb.Q5
 have agw:∀b,kR px vt vf b->b<wr.heap.size:=λb=>h.tb.uK
 have hbs:=bG h.blk;have acn:(f q).ownBlock≠some bs:=h.ap q hq;have hv5:v5.ownBlock≠some bs:=λe=>by
  rcases hl with k|⟨g,k,k2⟩
  .exact acn (by rw[<-k];exact e)
  .rw[k]at e;injection e with e;rw[fw]at k2;omega
 have hz:∀b,SS bs (λp=>if p=q then v5 else f p) b->¬kR px vt vf b/\¬S b:=λb hb=>by
  rcases hss b hb with k|k
  .exact h.ps b k
  .exact⟨λi=>by have:=agw b i;omega,λi=>by have:=age b i;omega⟩
 have hx2:=bG h.res;have zr:=h.tg.keep.size;refine⟨h.tb.keep hkp (λb hb k=>(h.ps b k).1 hb) (λb hb k=>(h.ps b k).2 hb),⟨h.tg.keep.trans hkp (λb hb k=>by have:=(h.gt b k).1;omega),h.tg.ins,h.tg.s1,h.tg.s2⟩,?_,?_,λp hp=>?_,λp hp=>?_,λb hb=>?_,h.p1,hz,λb hb=>?_,λp hp=>?_⟩
 .rw[hkp.block _ hx2 (λk=>by have:=(h.gt _ k).1;omega)];exact h.res
 .have hb5:w5.heap[bs]?=some (.cells #[f 0,f 1] 47 (0,0)):=by
   rw[hg.block bs (by rw[fw];omega) (λe=>acn e.symm),Below.heap_alloc _ _ _ hbs];exact h.blk
  have hs:=heap_setCell_same w5 bs q _ _ v5 hb5;rcases Qi hq with rfl|rfl
  .simpa using hs
  .simpa using hs
 .by_cases c:p=q
  .subst c
   refine⟨xs++[v],?_,?_⟩
   .simp only[if_true]
    rw[aj];exact bO ho (gI (p:=⟨bs,p,none⟩)) (λb hb e=>hv5 (by rw[hb];simpa using e))
   .simp only[if_true]
    exact(hi.snoc rfl hF).keep hkp (λb hb k=>(h.ps b k).2 hb)
  .obtain⟨ys,h1,h2⟩:=h.row p hp
   refine⟨ys,?_,?_⟩
   .simp only[c,if_false]
    have hne:∀b,(f p).ownBlock=some b->(f q).ownBlock≠some b:=λb hb e=>by
     rcases Qi hp with rfl|rfl <;> rcases Qi hq with rfl|rfl
     .exact c rfl
     .exact h.Dr b hb e
     .exact h.Dr b e hb
     .exact c rfl
    refine bO (bO (dn h1 (bK (Below.refl _ _) X)) (w':=w5) (G:=λb=>(f q).ownBlock=some b) ⟨hg.os,hg.tape,hg.output,hg.size,λk hk hn=>hg.block k hk (λe=>hn e.symm)⟩ hne) (gI (p:=⟨bs,q,none⟩)) (λb hb e=>h.ap p hp (by rw[hb];simpa using e))
   .simp only[c,if_false]
    exact h2.keep hkp (λb hb k=>(h.ps b k).2 hb)
 .by_cases c:p=q
  .simp only[c,if_true];exact hv5
  .simp only[c,if_false];exact h.ap p hp
 .have hlow:∀p,p<2->∀b,(f p).ownBlock=some b->b<wr.heap.size:=λp hp b hb=>(h.gt b (SS.of hp hb)).2
  rcases Qi hq with rfl|rfl
  .simp only[if_true]at hb
   simp only[Nat.one_ne_zero,if_false];intro e;rcases hl with k|⟨g,k,k2⟩
   .exact h.Dr b (by rw[<-k];exact hb) e
   .rw[k]at hb;injection hb with hb;rw[fw]at k2;have:=hlow 1 (by omega) b e;omega
  .simp only[Nat.zero_ne_one,if_false]at hb
   simp only[if_true];intro e;rcases hl with k|⟨g,k,k2⟩
   .exact h.Dr b hb (by rw[<-k];exact e)
   .rw[k]at e;injection e with e;rw[fw]at k2;have:=hlow 0 (by omega) b hb;omega
 .have hsz:(w5.setCell ⟨bs,q,none⟩ v5).heap.size=w5.heap.size:=by simp
  rw[hsz];have hown:∀p,p<2->((λp=>if p=q then v5 else f p) p).ownBlock=some b->b<w5.heap.size:=λp hp hb=>by
   by_cases c:p=q
   .simp only[c,if_true]at hb;exact(ho.lt b hb).2
   .simp only[c,if_false]at hb;have:=(h.gt b (SS.of hp hb)).2;omega
  rcases hss b hb with k|k
  .exact⟨(h.gt b k).1,by have:=(h.gt b k).2;omega⟩
  .refine⟨by omega,?_⟩
   rcases hb with hb|hb|hb
   .omega
   .exact hown 0 (by omega) hb
   .exact hown 1 (by omega) hb
 .by_cases c:p=q
  .simp only[c,if_true];exact(h.fs q hq).snoc he hV hk
  .simp only[c,if_false];exact h.fs p hp
end
def univ(kd:Nat):List Stp:=(List.range 8).flatMap λn=>bz.oQ (λ_=>bz.qh kd) (List.replicate n 46)
theorem Ib(kd:Nat):(univ kd).length<=3280:=by
 have key:∀n,(bz.oQ (λ_=>bz.qh kd) (List.replicate n 46)).length<=3 ^ n:=λn=>by
  have:=bz.xE (o:=λ_=>bz.qh kd) (p:=λ_=>true) (s:=List.replicate n 46) (λc _=>by rw[bz.Nk];decide)
  simpa using this
 have k0:=key 0;have k1:=key 1;have k2:=key 2;have k3:=key 3;have k4:=key 4;have k5:=key 5;have k6:=key 6;have k7:=key 7;have e:List.range 8=[0,1,2,3,4,5,6,7]:=rfl;unfold univ;rw[e];simp only[gV,List.flatMap_nil,aj,List.length_nil];omega
theorem Ia{kd:Nat}{s:Stp}(hL:mU kd s)(h7:s.length<=7):s∈univ kd:=by
 refine lH.2 ⟨s.length,dA.2 (by omega),?_⟩;clear h7
 induction s with
 |nil=>simp[bz.oQ]
 |cons c s ih=>
  rw[dO,kY];exact bz.jB.2 ⟨c,s,rfl,hL c (by simp),ih λx hx=>hL x (by simp[hx])⟩
theorem SB.len{w:World}{px:Nat}{vt vf:Value}{S:Nat->Prop}{L:List (ByteArray × dC)}(h:SB kd w px vt vf S L):L.length<=3280:=by
 refine bU (BM (n:=L.length) (at_:=List.range (univ kd).length) (R:=λi j=>∃(hi:i<L.length) (hj:j<(univ kd).length),bH (L[i]).1=(univ kd)[j]) (λi hi=>?_) (λi i' j hi hi' h1 h2=>?_)) (by rw[og];exact Ib kd)
 .have hl:=h.law _ (ah hi)
  obtain⟨j,hj,e⟩:=aO.1 (Ia hl.1 (by rw[bN];exact hl.2.1));exact⟨j,dA.2 hj,hi,hj,e.symm⟩
 .obtain⟨_,_,e1⟩:=h1
  obtain⟨_,_,e2⟩:=h2;have e:(L[i]).1=(L[i']).1:=by
   have:=e1.trans e2.symm;have:=congrArg (λl:List UInt8=>(⟨l.toArray⟩:ByteArray)) this
   simpa [Nf]using this
  have hn:=dh.1 h.nod;rcases qZ i i' with c|c|c
  .exact absurd (by rw[fA,fA];exact e) (hn i i' (by simpa using hi) (by simpa using hi') c)
  .exact c
  .exact absurd (by rw[fA,fA];exact e.symm) (hn i' i (by simpa using hi') (by simpa using hi) c)
end
end Go.Proofs.YteknjeohbcgpdaaGreatDoor