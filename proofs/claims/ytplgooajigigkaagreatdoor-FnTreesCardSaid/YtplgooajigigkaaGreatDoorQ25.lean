/- 25 -/
import Derived.Test.YtplgooajigigkaaGreatDoorQ21
import Derived.Test.YtplgooajigigkaaGreatDoorQ24
set_option maxRecDepth 100000
set_option maxHeartbeats 4000000
namespace Go.Proofs.YtplgooajigigkaaGreatDoor
open Go.RowKit
open aZ (cZ Nd vl Same Gm Canon eU Ge)
variable {w w' wr w5:World} {px b q:Nat} {vt vf EE EH v v' v5:Value} {S S' T:Nat->Prop} {L:List (ByteArray × cZ)} {Lt:List ByteArray} {Lf Fs Ls Rs:List cZ} {X:Obj} {F:cZ} {us:List Int} {s:List UInt8} {left:Bool}
def abl(w:World)(px:Nat)(vt vf:Value)(b:Nat):Prop:=b<w.heap.size/\¬kM px vt vf b
structure TB(w:World)(px:Nat)(vt vf:Value)(S:Nat->Prop)(L:List (ByteArray × cZ)):Prop where
 cells:w.heap[px]?=some (.cells #[vt,vf] 82 (0,0))
 texts:w.ownsRow 0 9 1 vt L.length (L.map λx=>.string x.1)
 forms:∃xs,w.ownsRow 0 30 1 vf L.length xs/\Items tY S 1 xs (L.map (·.2)) w
 sep:∀b,S b->¬kM px vt vf b
 kD:vt.ownBlock≠some px
 mJ:vf.ownBlock≠some px
 mI:∀b,vt.ownBlock=some b->vf.ownBlock≠some b
 law:∀x,x∈L->∃us s,GT us s/\x.1.data.toList=s++txt 46 us/\kg x.2 us s/\x.2.length<=kN us.length
structure TG(w w':World)(px:Nat)(vt vf:Value)(S:Nat->Prop)(EE EH:Value)(S':Nat->Prop):Prop where
 keep:dW (kM px vt vf) w w'
 ins:∀b,kM px EE EH b->kM px vt vf b\/w.heap.size<=b
 s1:∀b,S b->S' b
 s2:∀b,S' b->S b\/w.heap.size<=b
theorem TG.ext(h:Ext w w'):TG w w' px vt vf S vt vf S:=⟨iM h,λ_ h=>.inl h,λ_ h=>h,λ_ h=>.inl h⟩
theorem TG.trans{a b c:World}{px:Nat}{t1 f1 t2 f2 t3 f3:Value}{S1 S2 S3:Nat->Prop}(h:TG a b px t1 f1 S1 t2 f2 S2)(k:TG b c px t2 f2 S2 t3 f3 S3):TG a c px t1 f1 S1 t3 f3 S3:=by
 have hz:=h.keep.size;refine⟨h.keep.trans k.keep (λx hx hi=>by rcases h.ins x hi with h|h;exact h;omega),λx hx=>?_,λx hx=>k.s1 x (h.s1 x hx),λx hx=>?_⟩
 .rcases k.ins x hx with h1|h1
  .exact h.ins x h1
  .exact .inr (by omega)
 .rcases k.s2 x hx with h1|h1
  .exact h.s2 x h1
  .exact .inr (by omega)
theorem TG.set(h:TG w w' px vt vf S EE EH S'){p:Addr}(hp:w.heap.size<=p.block)(u:Value):TG w (w'.setCell p u) px vt vf S EE EH S':=
 ⟨⟨h.keep.os,h.keep.tape,h.keep.output,by rw[World.size_setCell];exact h.keep.size,λk hk hn=>by rw[jH _ _ _ _ (by omega)];exact h.keep.block k hk hn⟩,h.ins,h.s1,h.s2⟩
theorem TG.sup{A:World->Prop}(h:TG w w' px vt vf S EE EH S')(k:nN T A w)(hd:∀b,T b->¬kM px vt vf b):nN T A w':=k.keep h.keep hd
theorem TG.block{w w':World}{px:Nat}{vt vf EE EH:Value}{S S':Nat->Prop}(h:TG w w' px vt vf S EE EH S'){b:Nat}(h1:b<w.heap.size)(h2:¬kM px vt vf b):w'.heap[b]?=w.heap[b]?:=h.keep.block b h1 h2
theorem TG.Zx(h:TG w w' px vt vf S EE EH S')(h1:b<w.heap.size)(h2:¬kM px vt vf b)(h3:¬S b):¬kM px EE EH b/\¬S' b:=
 ⟨λk=>by rcases h.ins b k with k|k;exact h2 k;omega,λk=>by rcases h.s2 b k with k|k;exact h3 k;omega⟩
theorem TB.zN(h:TB w px vt vf S L)(hb:kM px vt vf b):b<w.heap.size:=by
 obtain⟨xs,ho,_⟩:=h.forms;rcases hb with rfl|hb|hb
 .exact bq h.cells
 .exact(h.texts.lt b hb).2
 .exact(ho.lt b hb).2
theorem TB.Yz(h:TB w px vt vf S L)(hb:S b):b<w.heap.size:=by
 obtain⟨xs,_,hi⟩:=h.forms;exact hi.2.1 b hb
theorem TB.keep{w w':World}{px:Nat}{vt vf:Value}{S:Nat->Prop}{L:List (ByteArray × cZ)}{G:Nat->Prop}(h:TB w px vt vf S L)(hk:dW G w w')(hd:∀b,kM px vt vf b->¬G b)(hs:∀b,S b->¬G b):TB w' px vt vf S L:=by
 obtain⟨xs,ho,hx⟩:=h.forms;refine⟨?_,aV h.texts hk (λb hb=>hd b (.inr (.inl hb))),⟨xs,aV ho hk (λb hb=>hd b (.inr (.inr hb))),hx.keep hk hs⟩,h.sep,h.kD,h.mJ,h.mI,h.law⟩;rw[hk.block px (bq h.cells) (hd px (.inl rfl))];exact h.cells
theorem TB.ext(h:TB w px vt vf S L)(hx:Ext w w'):TB w' px vt vf S L:=
 h.keep (iM (F:=λ_=>False) hx) (λ_ _=>id) (λ_ _=>id)
structure TX(w:World)(px:Nat)(vt vf:Value)(S:Nat->Prop)(Lt:List ByteArray)(Lf:List cZ):Prop where
 cells:w.heap[px]?=some (.cells #[vt,vf] 82 (0,0))
 texts:w.ownsRow 0 9 1 vt Lt.length (Lt.map Value.string)
 forms:∃xs,w.ownsRow 0 30 1 vf Lf.length xs/\Items tY S 1 xs Lf w
 sep:∀b,S b->¬kM px vt vf b
 kD:vt.ownBlock≠some px
 mJ:vf.ownBlock≠some px
 mI:∀b,vt.ownBlock=some b->vf.ownBlock≠some b
theorem TB.tx(h:TB w px vt vf S L):TX w px vt vf S (L.map (·.1)) (L.map (·.2)):=
 ⟨h.cells,by have:=h.texts;simpa [Function.comp_def]using this,by have:=h.forms;simpa using this,h.sep,h.kD,h.mJ,h.mI⟩
theorem TX.tb(h:TX w px vt vf S (L.map (·.1)) (L.map (·.2)))(hl:∀x,x∈L->∃us s,GT us s/\x.1.data.toList=s++txt 46 us/\kg x.2 us s/\x.2.length<=kN us.length):TB w px vt vf S L:=
 ⟨h.cells,by have:=h.texts;simpa [Function.comp_def]using this,by have:=h.forms;simpa using this,h.sep,h.kD,h.mJ,h.mI,hl⟩
theorem TX.Yz(h:TX w px vt vf S Lt Lf)(hb:S b):b<w.heap.size:=by
 obtain⟨xs,_,hi⟩:=h.forms;exact hi.2.1 b hb
theorem TX.ext{w w':World}{px:Nat}{vt vf:Value}{S:Nat->Prop}{Lt:List ByteArray}{Lf:List cZ}(h:TX w px vt vf S Lt Lf)(hx:Ext w w'):TX w' px vt vf S Lt Lf:=by
 obtain⟨xs,ho,hi⟩:=h.forms;exact⟨by rw[hx.block _ (bq h.cells)];exact h.cells,bW h.texts hx,⟨xs,bW ho hx,hi.ext hx⟩,h.sep,h.kD,h.mJ,h.mI⟩
theorem M9(hl:lY w v v')(hb:b<w.heap.size)(hn:v.ownBlock≠some b):v'.ownBlock≠some b:=λe=>by
 rcases hl with k|⟨g,k,k2⟩
 .exact hn (by rw[<-k];exact e)
 .rw[k]at e;injection e with e;omega
theorem AJ(hl:lY w v v')(h:v'.ownBlock=some b):v.ownBlock=some b\/w.heap.size<=b:=by
 rcases hl with k|⟨g,k,k2⟩
 .exact .inl (by rw[<-k];exact h)
 .rw[k]at h;injection h with h;exact .inr (by omega)
theorem TX.text{tb:ByteArray}(h:TX wr px vt vf S Lt Lf)(ho:w5.ownsRow 0 9 1 v5 (Lt.length+1) (Lt.map Value.string++[.string tb]))(hg:(wr.alloc X).grownBy w5 vt.ownBlock)(hl:lY (wr.alloc X) vt v5):
 TX (w5.setCell ⟨px,0,none⟩ v5) px v5 vf S (Lt++[tb]) Lf/\TG wr (w5.setCell ⟨px,0,none⟩ v5) px vt vf S v5 vf S/\w5.cell? ⟨px,0,none⟩=some vt/\w5.frozen? ⟨px,0,none⟩=false:=by
 have zx:(wr.alloc X).heap.size=wr.heap.size+1:=eX _ _;have z1:=hg.size;have hpx:=bq h.cells;obtain⟨xs,hf,hi⟩:=h.forms;have hins:∀b,kM px v5 vf b->kM px vt vf b\/wr.heap.size<=b:=λb hb=>by
  rcases hb with hb|hb|hb
  .exact .inl (.inl hb)
  .rcases AJ hl hb with k|k
   .exact .inl (.inr (.inl k))
   .exact .inr (by omega)
  .exact .inl (.inr (.inr hb))
 have hk:dW (kM px vt vf) wr (w5.setCell ⟨px,0,none⟩ v5):=⟨hg.os,hg.tape,hg.output,by rw[World.size_setCell];omega,λk hk hn=>by
  rw[jH _ _ _ _ (λe=>hn (.inl e)),hg.block k (by omega) (λe=>hn (.inr (.inl e.symm))),gI _ _ _ hk]⟩
 have Da:w5.heap[px]?=some (.cells #[vt,vf] 82 (0,0)):=by rw[hg.block px (by omega) (λe=>h.kD e.symm),gI _ _ _ hpx];exact h.cells
 have a1:=M9 hl (b:=px) (by omega) h.kD;refine⟨⟨iV _ _ _ _ _ _ Da,?_,⟨xs,?_,?_⟩,λb hb k=>?_,a1,h.mJ,λb hb e=>?_⟩,⟨hk,hins,λ_ h=>h,λ_ h=>.inl h⟩,bI w5 px 0 _ _ _ Da,iW w5 px 0 _ _ Da⟩
 .rw[bz,aK]
  exact aV ho (dx (p:=⟨px,0,none⟩)) (λb hb e=>a1 (by rw[hb];simpa using e))
 .refine aV (aV (bW hf (bJ (fJ _ _) X)) (w':=w5) (G:=λb=>vt.ownBlock=some b) ⟨hg.os,hg.tape,hg.output,hg.size,λk hk hn=>hg.block k hk (λe=>hn e.symm)⟩ (λb hb e=>h.mI b e hb)) (dx (p:=⟨px,0,none⟩)) (λb hb e=>h.mJ (by rw[hb];simpa using e))
 .exact hi.keep hk h.sep
 .rcases hins b k with k|k
  .exact h.sep b hb k
  .have:=h.Yz hb;omega
 .rcases AJ hl hb with k|k
  .exact h.mI b k e
  .have:=(hf.lt b e).2;omega
theorem TX.form(h:TX wr px vt vf S Lt Lf){xs:List Value}(hi:Items tY S 1 xs Lf wr)(ho:w5.ownsRow 0 30 1 v5 (Lf.length+1) (xs++[v]))(hg:(wr.alloc X).grownBy w5 vf.ownBlock)(hl:lY (wr.alloc X) vf v5)
 (hF:nN T (λW=>tY W [v] F) wr) (hT:∀b,T b->¬kM px vt vf b):
 TX (w5.setCell ⟨px,1,none⟩ v5) px vt v5 (λb=>S b\/T b) Lt (Lf++[F])/\dW (kM px vt vf) wr (w5.setCell ⟨px,1,none⟩ v5)/\(∀b,kM px vt v5 b->kM px vt vf b\/wr.heap.size<=b)/\w5.cell? ⟨px,1,none⟩=some vf/\w5.frozen? ⟨px,1,none⟩=false:=by
 have zx:(wr.alloc X).heap.size=wr.heap.size+1:=eX _ _;have z1:=hg.size;have hpx:=bq h.cells;have hins:∀b,kM px vt v5 b->kM px vt vf b\/wr.heap.size<=b:=λb hb=>by
  rcases hb with hb|hb|hb
  .exact .inl (.inl hb)
  .exact .inl (.inr (.inl hb))
  .rcases AJ hl hb with k|k
   .exact .inl (.inr (.inr k))
   .exact .inr (by omega)
 have hk:dW (kM px vt vf) wr (w5.setCell ⟨px,1,none⟩ v5):=⟨hg.os,hg.tape,hg.output,by rw[World.size_setCell];omega,λk hk hn=>by
  rw[jH _ _ _ _ (λe=>hn (.inl e)),hg.block k (by omega) (λe=>hn (.inr (.inr e.symm))),gI _ _ _ hk]⟩
 have Da:w5.heap[px]?=some (.cells #[vt,vf] 82 (0,0)):=by rw[hg.block px (by omega) (λe=>h.mJ e.symm),gI _ _ _ hpx];exact h.cells
 have a1:=M9 hl (b:=px) (by omega) h.mJ;have hlt:∀b,S b\/T b->b<wr.heap.size:=λb hb=>hb.elim (λh'=>h.Yz h') (λh'=>hF.1 b h')
 have hsep:∀b,S b\/T b->¬kM px vt vf b:=λb hb=>hb.elim (h.sep b) (hT b)
 refine⟨⟨iV _ _ _ _ _ _ Da,?_,⟨xs++[v],?_,?_⟩,λb hb k=>?_,h.kD,a1,λb hb e=>?_⟩,hk,hins,bI w5 px 1 _ _ _ Da,iW w5 px 1 _ _ Da⟩
 .refine aV (aV (bW h.texts (bJ (fJ _ _) X)) (w':=w5) (G:=λb=>vf.ownBlock=some b) ⟨hg.os,hg.tape,hg.output,hg.size,λk hk hn=>hg.block k hk (λe=>hn e.symm)⟩ (λb hb e=>h.mI b hb e)) (dx (p:=⟨px,1,none⟩)) (λb hb e=>h.kD (by rw[hb];simpa using e))
 .rw[aK]
  exact aV ho (dx (p:=⟨px,1,none⟩)) (λb hb e=>a1 (by rw[hb];simpa using e))
 .exact((hi.mono (λb hb=>.inl hb) hlt).snoc rfl (hF.mono (λb hb=>.inr hb) hlt (λ_ h=>h))).keep hk hsep
 .rcases hins b k with k|k
  .exact hsep b hb k
  .have:=hlt b hb;omega
 .rcases AJ hl e with k|k
  .exact h.mI b hb k
  .have:=(h.texts.lt b hb).2;omega
theorem aaP{L L' R R':List Gm}(h1:∀x,x∈L->∃y,y∈L'/\eU x y)(h2:∀y,y∈L'->∃x,x∈L/\eU x y)(h3:∀x,x∈R->∃y,y∈R'/\eU x y)(h4:∀y,y∈R'->∃x,x∈R/\eU x y):eU (.mk L R) (.mk L' R'):=by
 constructor
 .refine aZ.zV (λr hr=>?_) (λl hl=>?_)
  .obtain⟨y,hy,e⟩:=h3 r hr;exact .inl ⟨y,hy,e.1⟩
  .obtain⟨x,hx,e⟩:=h2 l hl;exact .inl ⟨x,hx,e.1⟩
 .refine aZ.zV (λr hr=>?_) (λl hl=>?_)
  .obtain⟨x,hx,e⟩:=h4 r hr;exact .inl ⟨x,hx,e.2⟩
  .obtain⟨y,hy,e⟩:=h1 l hl;exact .inl ⟨y,hy,e.2⟩
def qx(us:List Int)(s:List UInt8)(left:Bool)(Fs:List cZ):Prop:=∀i (h:i<Fs.length),∃e,(dU s left us.length)[i]?=some e/\kg Fs[i] (iJ us s e) (lW us s e)/\(Fs[i]).length<=kN (us.length-1)
theorem qx.nil(us:List Int)(s:List UInt8)(left:Bool):qx us s left []:=λi h=>absurd h (by simp)
theorem qx.snoc{e:Nat}(h:qx us s left Fs)(he:(dU s left us.length)[Fs.length]?=some e)(hF:kg F (iJ us s e) (lW us s e))(hl:F.length<=kN (us.length-1)):qx us s left (Fs++[F]):=by
 intro i hi;by_cases c:i<Fs.length
 .rw[dN c];exact h i c
 .have e:i=Fs.length:=by simp at hi;omega
  subst e;rw[fO (ax _)];simpa using⟨_,he,hF,hl⟩
theorem qx.size:∀{Fs:List cZ},(∀F,F∈Fs->F.length<=kN (us.length-1))->sizes Fs<=Fs.length*kN (us.length-1):=by
 intro Fs
 induction Fs with
 |nil=>intro _;simp[sizes]
 |cons F Fs ih=>
  intro h;have:=ih λG hG=>h G (by simp[hG])
  have:=h F (by simp);simp only[sizes,eF,kR,l9,rJ]at *;omega
theorem qx.good{us:List Int}{s:List UInt8}{left:Bool}{Fs:List cZ}(h:qx us s left Fs):∀F,F∈Fs->aZ.Good F/\0<F.length:=by
 intro F hF;obtain⟨i,hi,rfl⟩:=aH.1 hF;obtain⟨e,_,h2,_⟩:=h i hi;exact⟨h2.1.good,lT.2 h2.1.ne⟩
theorem qx.lens(h:qx us s left Fs):∀F,F∈Fs->F.length<=kN (us.length-1):=by
 intro F hF;obtain⟨i,hi,rfl⟩:=aH.1 hF;obtain⟨e,_,_,h2⟩:=h i hi;exact h2
theorem qx.eqv{us:List Int}{s:List UInt8}{left:Bool}{Fs:List cZ}(h:qx us s left Fs)(hl:Fs.length=(dU s left us.length).length):
 (∀x,x∈Fs.map aZ.eQ->∃y,y∈(dU s left us.length).map (λe=>tg (iJ us s e) (lW us s e))/\eU x y)/\(∀y,y∈(dU s left us.length).map (λe=>tg (iJ us s e) (lW us s e))->∃x,x∈Fs.map aZ.eQ/\eU x y):=by
 refine⟨λx hx=>?_,λy hy=>?_⟩
 .obtain⟨F,hF,rfl⟩:=ay.1 hx
  obtain⟨i,hi,rfl⟩:=aH.1 hF;obtain⟨e,he,⟨_,g,h1,_,h2⟩,_⟩:=h i hi;exact⟨_,bD (fq he),h1.eqv.trans h2⟩
 .obtain⟨e,he,rfl⟩:=ay.1 hy
  obtain⟨i,hi,rfl⟩:=aH.1 he;obtain⟨e,he,⟨_,g,h1,_,h2⟩,_⟩:=h i (by omega);rw[ae hi]at he;injection he with he;subst he;exact⟨_,bD (aj (by omega)),h1.eqv.trans h2⟩
theorem AX(g:GT us s)(hL:qx us s true Ls)(hR:qx us s false Rs)(lL:Ls.length=(dU s true us.length).length)(lR:Rs.length=(dU s false us.length).length){F1 F2:cZ}{h:Gm}
 (s1:Same (aZ.eQ F1) (.mk (Ls.map aZ.eQ) (Rs.map aZ.eQ))) (i2:aZ.eD F2) (s2:Same (aZ.eQ F2) h) (c2:Canon h) (e2:eU h (aZ.eQ F1)):kg F2 us s:=by
 refine⟨i2,h,s2,c2,e2.trans (s1.eqv.trans ?_)⟩;rw[MI g];exact aaP (hL.eqv lL).1 (hL.eqv lL).2 (hR.eqv lR).1 (hR.eqv lR).2
theorem N7(hL:qx us s true Ls)(hR:qx us s false Rs)(lL:Ls.length=(dU s true us.length).length)(lR:Rs.length=(dU s false us.length).length):sizes Ls+sizes Rs+1<=kN us.length:=by
 have a:=qx.size hL.lens;have b:=qx.size hR.lens;have c:=lV s us.length;rw[<-lL,<-lR]at c;cases hn:us.length with
 |zero=>
  rw[hn]at c;have e1:Ls=[]:=cz (by omega);have e2:Rs=[]:=cz (by omega);subst e1;subst e2;simp[sizes,kN]
 |succ n=>
  rw[hn,jE]at a b;rw[kN,<-c.trans hn,rJ];omega
def SS(bs:Nat)(f:Nat->Value)(b:Nat):Prop:=b=bs\/(f 0).ownBlock=some b\/(f 1).ownBlock=some b
structure VM(w wr:World)(px:Nat)(VR VS:Value)(S0:Nat->Prop)(L0:List (ByteArray × cZ))(us:List Int)(sb:ByteArray)(vu:Value)(bs:Nat)(vt vf:Value)(S:Nat->Prop)(L:List (ByteArray × cZ))(f:Nat->Value)(Fs:Nat->List cZ):Prop where
 tb:TB wr px vt vf S L
 tg:TG w wr px VR VS S0 vt vf S
 box:wr.heap[w.heap.size]?=some (.cells #[vu,.string sb] 43 (0,0))
 res:wr.heap[w.heap.size+1]?=some (.cells #[.slice none 0 0] 30 (0,0))
 blk:wr.heap[bs]?=some (.cells #[f 0,f 1] 80 (0,0))
 row:∀q,q<2->∃xs,wr.ownsRow w.heap.size 30 1 (f q) (Fs q).length xs/\Items tY S 1 xs (Fs q) wr
 ap:∀q,q<2->(f q).ownBlock≠some bs
 Ev:∀b,(f 0).ownBlock=some b->(f 1).ownBlock≠some b
 p0:¬kM px vt vf w.heap.size/\¬S w.heap.size
 p1:¬kM px vt vf (w.heap.size+1)/\¬S (w.heap.size+1)
 ps:∀b,SS bs f b->¬kM px vt vf b/\¬S b
 gt:∀b,SS bs f b->w.heap.size+1<b/\b<wr.heap.size
 fs:∀q,q<2->qx us sb.data.toList (q == 0) (Fs q)
theorem KI(h:q<2):q=0\/q=1:=by omega
theorem SS.of{bs:Nat}{f:Nat->Value}(hq:q<2)(h:(f q).ownBlock=some b):SS bs f b:=by
 rcases KI hq with rfl|rfl
 .exact .inr (.inl h)
 .exact .inr (.inr h)
section
variable {w wr w1:World} {px:Nat} {VR VS:Value} {S0:Nat->Prop} {L0:List (ByteArray × cZ)} {us:List Int} {sb:ByteArray} {vu:Value} {bs:Nat} {vt vf:Value} {S:Nat->Prop} {L:List (ByteArray × cZ)} {f:Nat->Value} {Fs:Nat->List cZ}
variable {EE EH v5:Value} {S':Nat->Prop} {L':List (ByteArray × cZ)} {q:Nat} {xs:List Value}
theorem VM.go(h:VM w wr px VR VS S0 L0 us sb vu bs vt vf S L f Fs)(hb:TB w1 px EE EH S' L')(hg:TG wr w1 px vt vf S EE EH S'):
 VM w w1 px VR VS S0 L0 us sb vu bs EE EH S' L' f Fs:=by
 have z:=hg.keep.size;refine⟨hb,h.tg.trans hg,?_,?_,?_,λq hq=>?_,h.ap,h.Ev,hg.Zx (bq h.box) h.p0.1 h.p0.2,hg.Zx (bq h.res) h.p1.1 h.p1.2,λb hb=>hg.Zx (h.gt b hb).2 (h.ps b hb).1 (h.ps b hb).2,λb hb=>⟨(h.gt b hb).1,by have:=(h.gt b hb).2;omega⟩,h.fs⟩
 .rw[hg.block (bq h.box) h.p0.1];exact h.box
 .rw[hg.block (bq h.res) h.p1.1];exact h.res
 .rw[hg.block (bq h.blk) (h.ps bs (.inl rfl)).1];exact h.blk
 .obtain⟨xs,h1,h2⟩:=h.row q hq
  exact⟨xs,aV h1 hg.keep (λb hb=>(h.ps b (SS.of hq hb)).1),(h2.keep hg.keep h.tb.sep).mono hg.s1 λ_=>hb.Yz⟩
theorem VM.ext(h:VM w wr px VR VS S0 L0 us sb vu bs vt vf S L f Fs)(hx:Ext wr w1):VM w w1 px VR VS S0 L0 us sb vu bs vt vf S L f Fs:=
 h.go (h.tb.ext hx) (TG.ext hx)
theorem VM.ab3(h:VM w wr px VR VS S0 L0 us sb vu bs vt vf S L f Fs)(hb:TB w1 px EE EH S' L')(hg:TG wr w1 px vt vf S EE EH S')(hq:q<2)(h1:wr.ownsRow w.heap.size 30 1 (f q) (Fs q).length xs)(h2:Items tY S 1 xs (Fs q) wr):
 w1.ownsRow w.heap.size 30 1 (f q) (Fs q).length xs/\Items tY S' 1 xs (Fs q) w1:=⟨aV h1 hg.keep (λb hb=>(h.ps b (SS.of hq hb)).1),(h2.keep hg.keep h.tb.sep).mono hg.s1 λ_=>hb.Yz⟩
theorem VM.push(h:VM w wr px VR VS S0 L0 us sb vu bs vt vf S L f Fs){w5:World}{X:Obj}(hq:q<2){v:Value}{F:cZ}{e:Nat}(hi:Items tY S 1 xs (Fs q) wr)(hF:nN S (λW=>tY W [v] F) wr)
 (ho:w5.ownsRow w.heap.size 30 1 v5 ((Fs q).length+1) (xs++[v])) (hg:(wr.alloc X).grownBy w5 (f q).ownBlock) (hl:lY (wr.alloc X) (f q) v5)
 (he:(dU sb.data.toList (q == 0) us.length)[(Fs q).length]?=some e) (hV:kg F (iJ us sb.data.toList e) (lW us sb.data.toList e)) (hk:F.length<=kN (us.length-1)):
 VM w (w5.setCell ⟨bs,q,none⟩ v5) px VR VS S0 L0 us sb vu bs vt vf S L (λp=>if p=q then v5 else f p) (λp=>if p=q then Fs q++[F]else Fs p):=by
 have z1:=hg.size;rw[eX]at z1;have hkp:dW (SS bs f) wr (w5.setCell ⟨bs,q,none⟩ v5):=by
  refine⟨hg.os,hg.tape,hg.output,by simp;omega,λk hk hn=>?_⟩;rw[jH _ _ _ _ (λe=>hn (.inl e)),hg.block k (by rw[eX];omega) (λe=>hn (SS.of hq e.symm)),gI _ _ _ hk]
 have hss:∀b,SS bs (λp=>if p=q then v5 else f p) b->SS bs f b\/wr.heap.size<=b:=by
  intro b hb;have key:∀p,p<2->((λp=>if p=q then v5 else f p) p).ownBlock=some b->SS bs f b\/wr.heap.size<=b:=λp hp hb=>by
   by_cases c:p=q
   .subst c
    simp only[if_true]at hb;rcases hl with k|⟨g,k,k2⟩
    .exact .inl (SS.of hq (by rw[<-k];exact hb))
    .rw[k]at hb;injection hb with hb;rw[eX]at k2;exact .inr (by omega)
   .simp only[c,if_false]at hb
    exact .inl (SS.of hp hb)
  rcases hb with hb|hb|hb
  .exact .inl (.inl hb)
  .exact key 0 (by omega) hb
  .exact key 1 (by omega) hb
 have ag7:∀b,S b->b<wr.heap.size:=λb=>h.tb.Yz
 have ahn:∀b,kM px vt vf b->b<wr.heap.size:=λb=>h.tb.zN
 have hbs:=bq h.blk;have ada:(f q).ownBlock≠some bs:=h.ap q hq;have hv5:v5.ownBlock≠some bs:=λe=>by
  rcases hl with k|⟨g,k,k2⟩
  .exact ada (by rw[<-k];exact e)
  .rw[k]at e;injection e with e;rw[eX]at k2;omega
 have hz:∀b,SS bs (λp=>if p=q then v5 else f p) b->¬kM px vt vf b/\¬S b:=λb hb=>by
  rcases hss b hb with k|k
  .exact h.ps b k
  .exact⟨λi=>by have:=ahn b i;omega,λi=>by have:=ag7 b i;omega⟩
 have hx1:=bq h.box;have hx2:=bq h.res;have zr:=h.tg.keep.size;refine⟨h.tb.keep hkp (λb hb k=>(h.ps b k).1 hb) (λb hb k=>(h.ps b k).2 hb),⟨h.tg.keep.trans hkp (λb hb k=>by have:=(h.gt b k).1;omega),h.tg.ins,h.tg.s1,h.tg.s2⟩,?_,?_,?_,λp hp=>?_,λp hp=>?_,λb hb=>?_,h.p0,h.p1,hz,λb hb=>?_,λp hp=>?_⟩
 .rw[hkp.block _ hx1 (λk=>by have:=(h.gt _ k).1;omega)];exact h.box
 .rw[hkp.block _ hx2 (λk=>by have:=(h.gt _ k).1;omega)];exact h.res
 .have hb5:w5.heap[bs]?=some (.cells #[f 0,f 1] 80 (0,0)):=by
   rw[hg.block bs (by rw[eX];omega) (λe=>ada e.symm),gI _ _ _ hbs];exact h.blk
  have hs:=iV w5 bs q _ _ v5 hb5;rcases KI hq with rfl|rfl
  .simpa using hs
  .simpa using hs
 .by_cases c:p=q
  .subst c
   refine⟨xs++[v],?_,?_⟩
   .simp only[if_true]
    rw[aK];exact aV ho (dx (p:=⟨bs,p,none⟩)) (λb hb e=>hv5 (by rw[hb];simpa using e))
   .simp only[if_true]
    exact(hi.snoc rfl hF).keep hkp (λb hb k=>(h.ps b k).2 hb)
  .obtain⟨ys,h1,h2⟩:=h.row p hp
   refine⟨ys,?_,?_⟩
   .simp only[c,if_false]
    have hne:∀b,(f p).ownBlock=some b->(f q).ownBlock≠some b:=λb hb e=>by
     rcases KI hp with rfl|rfl <;> rcases KI hq with rfl|rfl
     .exact c rfl
     .exact h.Ev b hb e
     .exact h.Ev b e hb
     .exact c rfl
    refine aV (aV (bW h1 (bJ (fJ _ _) X)) (w':=w5) (G:=λb=>(f q).ownBlock=some b) ⟨hg.os,hg.tape,hg.output,hg.size,λk hk hn=>hg.block k hk (λe=>hn e.symm)⟩ hne) (dx (p:=⟨bs,q,none⟩)) (λb hb e=>h.ap p hp (by rw[hb];simpa using e))
   .simp only[c,if_false]
    exact h2.keep hkp (λb hb k=>(h.ps b k).2 hb)
 .by_cases c:p=q
  .simp only[c,if_true];exact hv5
  .simp only[c,if_false];exact h.ap p hp
 .have hlow:∀p,p<2->∀b,(f p).ownBlock=some b->b<wr.heap.size:=λp hp b hb=>(h.gt b (SS.of hp hb)).2
  rcases KI hq with rfl|rfl
  .simp only[if_true]at hb
   simp only[Nat.one_ne_zero,if_false];intro e;rcases hl with k|⟨g,k,k2⟩
   .exact h.Ev b (by rw[<-k];exact hb) e
   .rw[k]at hb;injection hb with hb;rw[eX]at k2;have:=hlow 1 (by omega) b e;omega
  .simp only[Nat.zero_ne_one,if_false]at hb
   simp only[if_true];intro e;rcases hl with k|⟨g,k,k2⟩
   .exact h.Ev b hb (by rw[<-k];exact e)
   .rw[k]at e;injection e with e;rw[eX]at k2;have:=hlow 0 (by omega) b hb;omega
 .have hsz:(w5.setCell ⟨bs,q,none⟩ v5).heap.size=w5.heap.size:=by simp
  rw[hsz];have hown:∀p,p<2->((λp=>if p=q then v5 else f p) p).ownBlock=some b->b<w5.heap.size:=λp hp hb=>by
   by_cases c:p=q
   .simp only[c,if_true]at hb;exact(ho.lt b hb).2
   .simp only[c,if_false]at hb;have:=(h.gt b (SS.of hp hb)).2;omega
  rcases hss b hb with k|k
  .exact⟨(h.gt b k).1,by have:=(h.gt b k).2;omega⟩
  .refine⟨by omega,?_⟩
   rcases hb with hb|hb|hb
   .omega
   .exact hown 0 (by omega) hb
   .exact hown 1 (by omega) hb
 .by_cases c:p=q
  .simp only[c,if_true];exact(h.fs q hq).snoc he hV hk
  .simp only[c,if_false];exact h.fs p hp
theorem SS.push{bs:Nat}{f:Nat->Value}{wr:World}(hq:q<2)(hl:lY wr (f q) v5):∀b,SS bs (λp=>if p=q then v5 else f p) b->SS bs f b\/wr.heap.size<=b:=by
 intro b hb;have key:∀p,p<2->((λp=>if p=q then v5 else f p) p).ownBlock=some b->SS bs f b\/wr.heap.size<=b:=λp hp hb=>by
  by_cases c:p=q
  .subst c
   simp only[if_true]at hb;rcases hl with k|⟨g,k,k2⟩
   .exact .inl (SS.of hq (by rw[<-k];exact hb))
   .rw[k]at hb;injection hb with hb;exact .inr (by omega)
  .simp only[c,if_false]at hb
   exact .inl (SS.of hp hb)
 rcases hb with hb|hb|hb
 .exact .inl (.inl hb)
 .exact key 0 (by omega) hb
 .exact key 1 (by omega) hb
end
