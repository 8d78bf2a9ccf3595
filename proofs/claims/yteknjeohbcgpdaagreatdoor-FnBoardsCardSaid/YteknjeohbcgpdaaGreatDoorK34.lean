/-
  Plain law of the reference's book of boards: forms of the boards behind the moves, sums over the parts; no condition. (2 texts.)
-/
import Derived.Test.YteknjeohbcgpdaaGreatDoorK32
set_option maxRecDepth 100000
namespace Go.Proofs.YteknjeohbcgpdaaGreatDoor
section
open Go.RowKit
open bO (fw GB fD Cs fr Grown sub uL D6 none_ uz Ba Bd)
theorem Items.aey{α:Type}{R:World->List Value->α->Prop}{w wr w1 w5:World}{v v5:Value}{size base e n:Nat}{xs ys zs:List Value}{Ts:List α}{t:α}{X:Obj}(hit:Items R (KS w wr v) size xs Ts wr)(z0:w.heap.size<=wr.heap.size)(hx:Ext wr w1)(ho:wr.ownsRow base e size v n zs)(hy:ys.length=size)
 (hn:nN (λb=>wr.heap.size<=b/\b<w1.heap.size) (λW=>R W ys t) w1) (hg:(w1.alloc X).grownBy w5 v.ownBlock) (hl:kR (w1.alloc X) v v5):Items R (KS w w5 v5) size (xs++ys) (Ts++[t]) w5:=by
 have z1:=hx.size;have z5:=hg.size;rw[eQ]at z5;have key:∀b,KS w w1 v b->KS w w5 v5 b:=λb hb=>⟨hb.1,by have:=hb.2.1;omega,λe=>by
  rcases hl with h|⟨q,h,h2⟩
  .exact hb.2.2 (by rw[<-h];exact e)
  .rw[h]at e;injection e with e;rw[eQ]at h2;have:=hb.2.1;omega⟩
 have h1:Items R (KS w w1 v) size (xs++ys) (Ts++[t]) w1:=
  Items.snoc ((hit.ext hx).mono (λb hb=>⟨hb.1,by have:=hb.2.1;omega,hb.2.2⟩) (λb hb=>hb.2.1)) hy (hn.mono (λb hb=>⟨by omega,hb.2,λe=>by have:=(ho.lt b e).2;omega⟩) (λb hb=>hb.2.1) (λ_ h=>h))
 exact((h1.ext (bS (Below.refl _ _) X)).keep (G:=λb=>v.ownBlock=some b) ⟨hg.os,hg.tape,hg.output,hg.size,λk hk hn=>hg.block k hk (λe=>hn e.symm)⟩ (λb hb=>hb.2.2)).mono key (λb hb=>hb.2.1)
def Bc(P:Cs)(y:fw):Prop:=Bd P/\(∃r c,P r c=true)/\(∃h w,GB y h w)/\∃a b,(∀r c,P r c=true->a<=r/\b<=c)/\∀r c,fr y r c=P (r+a) (c+b)
structure qP(S U:Cs)(PL:List (Cs × fw)):Prop where
 shut:Ba S U
 parts:uz (PL.map (·.1)).reverse
 all:D6 (PL.map (·.1)).reverse=U
 ok:∀p,p∈PL->Bc p.1 p.2
theorem qP.start(S:Cs):qP S none_ []:=⟨bO.P9 S,trivial,rfl,λp hp=>by cases hp⟩
theorem qP.add{S U P:Cs}{PL:List (Cs × fw)}{y:fw}(h:qP S U PL)(hP:Grown (sub S U) none_ P)(ho:Bc P y):qP S (uL U P) (PL++[(P,y)]):=by
 obtain⟨h1,h2⟩:=bO.LX h.shut hP;have e:((PL++[(P,y)]).map (·.1)).reverse=P :: (PL.map (·.1)).reverse:=by simp
 refine⟨h1,?_,?_,λp hp=>?_⟩
 .rw[e];exact⟨by rw[h.all];exact h2,h.parts⟩
 .rw[e,D6,h.all]
 .rcases bq.1 hp with hp|hp
  .exact h.ok p hp
  .simp only[lC]at hp;subst hp;exact ho
theorem Yp{pl:Cl}{hh ww t bo f o:Nat}(s:Sz pl hh ww)(h1:1<=hh/\hh<=8)(w1:1<=ww/\ww<=8)(hB:yf (lK pl) t bo f o):Bc (lK pl) (oz (jE pl) t bo f o):=by
 have hB':=hB;rw[<-sQ]at hB';have hg:=AZ s h1 w1;obtain⟨g1,-⟩:=zT hg hB';obtain⟨c,hc⟩:=hB.top;refine⟨VL s h1.2 w1.2,⟨t,c,hc⟩,⟨_,_,g1⟩,t,f,λr c h=>?_,λr c=>?_⟩
 .have:=hB.all r c h;omega
 .rw[Po hB',sQ]
def uD(hh ww:Nat):Cl:=List.replicate hh (List.replicate ww false)
theorem CP(hh ww:Nat):Sz (uD hh ww) hh ww:=⟨by simp[uD],λr hr=>by rw[List.eq_of_mem_replicate hr];simp⟩
theorem uQ(hh ww:Nat):lK (uD hh ww)=none_:=by
 funext r c;unfold lK jk uD none_;rw[aj (l:=List.replicate _ _),List.getElem?_replicate];by_cases h:r<hh
 .rw[if_pos h,bW,aj,List.getElem?_replicate]
  by_cases k:c<ww <;> simp[k]
 .rw[if_neg h];rfl
theorem yx(n:Nat):(madeCells #[Value.bool false] n).toList=(List.replicate n false).map Value.bool:=by
 apply l6;intro i;by_cases h:i<n
 .simp[madeCells,h,Nat.mod_one]
 .simp[madeCells,h]
structure PH(w w1 wr:World)(box cv:Value)(sl:Nat->Value)(hh ww:Nat)(cl:Cl)(ov:Value)(xs:List Value)(bs:List fw):Prop where
 bx:wr.heap[w.heap.size]?=some (.cells #[box] 31 (0,0))
 grid:Gr wr (w.heap.size+2) cv sl cl
 sz:Sz cl hh ww
 own:wr.ownsRow (w.heap.size+1) 31 1 ov bs.length xs
 sep:∀b,ov.ownBlock=some b->b=w.heap.size+1\/w1.heap.size<=b
 it:Items uM (KS w1 wr ov) 1 xs bs wr
 ext:Ext w wr
 lt:∀b,GrA cv sl hh b->b<w1.heap.size
 z1:w1.heap.size<=wr.heap.size
section
variable {w w1 wr w2:World} {box cv ov:Value} {sl:Nat->Value} {hh ww:Nat} {cl:Cl} {xs:List Value} {bs:List fw}
theorem PH.ext'(m:PH w w1 wr box cv sl hh ww cl ov xs bs)(hx:Ext wr w2):PH w w1 w2 box cv sl hh ww cl ov xs bs:=
 ⟨(hx.block _ (bu m.bx)).trans m.bx,m.grid.ext hx,m.sz,bY m.own hx,m.sep,(m.it.ext hx).mono (λb hb=>⟨hb.1,bz hb.2.1 hx.size,hb.2.2⟩) λb hb=>by exact hb.2.1,ax m.ext hx,m.lt,dn m.z1 hx.size⟩
theorem PH.mark(m:PH w w1 wr box cv sl hh ww cl ov xs bs){i k g c:Nat}(hi:i<hh)(hk:k<ww)(e:sl i=.slice (some ⟨g,0,none⟩) ww c)(x:Bool):
 PH w w1 (wr.setCell ⟨g,k,none⟩ (.bool x)) box cv sl hh ww (pG cl i k x) ov xs bs/\dX (λb=>b=g) wr (wr.setCell ⟨g,k,none⟩ (.bool x))/\g<w1.heap.size:=by
 obtain⟨h1,h2,h3⟩:=m.grid.mark m.sz hi hk e x;have hgl:g<w1.heap.size:=m.lt g (.inr ⟨i,hi,by rw[e];rfl⟩);have hks:=dV (w:=wr) (p:=⟨g,k,none⟩) (v:=.bool x);have hk':dX (λb=>b=g) wr (wr.setCell ⟨g,k,none⟩ (.bool x)):=⟨hks.os,hks.tape,hks.output,hks.size,hks.block⟩;have hl:cl.length=hh:=m.sz.hgt;refine⟨⟨(hk'.block _ (bu m.bx) (by omega)).trans m.bx,h1,h2,bI m.own hk' (λb hb q=>?_),m.sep,(m.it.keep hk' λb hb q=>by have:=hb.1;omega).mono (λb hb=>⟨hb.1,by rw[World.size_setCell];exact hb.2.1,hb.2.2⟩) λb hb=>hb.2.1,jw m.ext hk' λb q=>by omega,m.lt,by rw[World.size_setCell];exact m.z1⟩,hk',hgl⟩;rcases m.sep b hb with q1|q1 <;> omega
theorem PH.push{w4 w5:World}{v' v5:Value}{ss':List ByteArray}{y:fw}{X:Obj}(m:PH w w1 wr box cv sl hh ww cl ov xs bs)(hx:Ext wr w4)
 (hr:w4.ownsRow wr.heap.size 9 1 v' ss'.length (ss'.map Value.string)) (hy:bd ss'=y) (h8:ss'.length<=8)
 (ho:w5.ownsRow (w.heap.size+1) 31 1 v5 (bs.length+1) (xs++[v'])) (hg:(w4.alloc X).grownBy w5 ov.ownBlock) (hl:kR (w4.alloc X) ov v5):PH w w1 w5 box cv sl hh ww cl v5 (xs++[v']) (bs++[y]):=by
 have hz:(w4.alloc X).heap.size=w4.heap.size+1:=eQ _ _;have z1:=m.z1;have z4:=hx.size;have zg:=hg.size;have hcl:cl.length=hh:=m.sz.hgt;obtain⟨a,c,rfl,-,-⟩:=bH hr;have hk:dX (λb=>ov.ownBlock=some b) wr w5:=⟨hg.os.trans hx.os,hg.tape.trans hx.tape,hg.output.trans hx.output,by omega,λb hb hn=>by
  rw[hg.block b (by omega) (λe=>hn e.symm),Below.heap_alloc _ _ _ (by omega),hx.block b hb]⟩
 refine⟨(hk.block _ (bu m.bx) (λe=>?_)).trans m.bx,m.grid.keep hk (λb hb e=>?_),m.sz,by rw[aK];exact ho,λb hb=>?_,Items.aey m.it z1 hx m.own rfl ⟨λb hb=>hb.2,λW hW=>⟨a,c,ss',rfl,?_,hy⟩⟩ hg hl,jw m.ext hk λb e=>?_,m.lt,by omega⟩
 .have:=(m.own.lt _ e).1;omega
 .have h1:=m.lt b (by rw[<-hcl];exact hb)
  have h2:=(m.grid.lt hb).1;rcases m.sep b e with q|q <;> omega
 .rcases hl with e|⟨q,e,k⟩
  .exact m.sep b (by rw[<-e];exact hb)
  .rw[e]at hb;injection hb with hb;exact .inr (by omega)
 .have:Strs w4 (.slice a ss'.length c) ss':=Strs.eD hr (by omega)
  exact lN.keep this λb _ hb=>hW b ⟨(hr.lt b hb).1,(hr.lt b hb).2⟩
 .have:=(m.own.lt b e).1;omega
end
end
section
open bO (dH Gm Canon iO fC dZ Same plus fw GB Cs Bd fr gB cnt gX kB iM pq can D6 uL uz none_ I7 lay)
variable {bs:List fw} {k h w r i:Nat} {Fs Ls Rs:List dH} {F:dH} {b:fw} {PL:List (Cs × fw)} {S U:Cs}
def uC(bs:List fw)(k:Nat)(Fs:List dH):Prop:=∀i (h:i<Fs.length),∃b,bs[i]?=some b/\fO Fs[i] (gB (fr b))/\(Fs[i]).length<=k
theorem uC.nil(bs:List fw)(k:Nat):uC bs k []:=λi h=>absurd h (by simp)
theorem uC.snoc(h:uC bs k Fs)(he:bs[Fs.length]?=some b)(hF:fO F (gB (fr b)))(hl:F.length<=k):uC bs k (Fs++[F]):=by
 intro i hi;by_cases c:i<Fs.length
 .rw[dw c];exact h i c
 .have e:i=Fs.length:=by simp at hi;omega
  subst e;rw[dU (ay _)];simpa using⟨_,he,hF,hl⟩
theorem Ff:∀{Fs:List dH},(∀F,F∈Fs->F.length<=k)->sizes Fs<=Fs.length*k:=by
 intro Fs
 induction Fs with
 |nil=>intro _;simp[sizes]
 |cons F Fs ih=>
  intro h;have:=ih λG hG=>h G (by simp[hG])
  have:=h F (by simp);simp only[sizes,lM,List.sum_cons,fQ,kS]at *;omega
theorem uC.good{bs:List fw}{k:Nat}{Fs:List dH}(h:uC bs k Fs):∀F,F∈Fs->bO.Good F/\0<F.length:=by
 intro F hF;obtain⟨i,hi,rfl⟩:=aW.1 hF;obtain⟨e,_,h2,_⟩:=h i hi;exact⟨h2.1.good,kQ.2 h2.1.ne⟩
theorem uC.lens(h:uC bs k Fs):∀F,F∈Fs->F.length<=k:=by
 intro F hF;obtain⟨i,hi,rfl⟩:=aW.1 hF;obtain⟨e,_,_,h2⟩:=h i hi;exact h2
theorem uC.eqv{bs:List fw}{k:Nat}{Fs:List dH}(h:uC bs k Fs)(hl:Fs.length=bs.length):
 (∀x,x∈Fs.map dZ->∃y,y∈bs.map (λb=>gB (fr b))/\iO x y)/\(∀y,y∈bs.map (λb=>gB (fr b))->∃x,x∈Fs.map dZ/\iO x y):=by
 refine⟨λx hx=>?_,λy hy=>?_⟩
 .obtain⟨F,hF,rfl⟩:=aH.1 hx
  obtain⟨i,hi,rfl⟩:=aW.1 hF;obtain⟨e,he,h1,_⟩:=h i hi;exact⟨_,bE (jr he),h1.eqv⟩
 .obtain⟨e,he,rfl⟩:=aH.1 hy
  obtain⟨i,hi,rfl⟩:=aW.1 he;obtain⟨e,he,h1,_⟩:=h i (by omega);rw[aa hi]at he;injection he with he;subst he;exact⟨_,bE (ai (by omega)),h1.eqv⟩
theorem VT{L L' R R':List Gm}(h1:∀x,x∈L->∃y,y∈L'/\iO x y)(h2:∀y,y∈L'->∃x,x∈L/\iO x y)(h3:∀x,x∈R->∃y,y∈R'/\iO x y)(h4:∀y,y∈R'->∃x,x∈R/\iO x y):iO (.mk L R) (.mk L' R'):=by
 constructor
 .refine bO.BN (λr hr=>?_) (λl hl=>?_)
  .obtain⟨y,hy,e⟩:=h3 r hr;exact .inl ⟨y,hy,e.1⟩
  .obtain⟨x,hx,e⟩:=h2 l hl;exact .inl ⟨x,hx,e.1⟩
 .refine bO.BN (λr hr=>?_) (λl hl=>?_)
  .obtain⟨x,hx,e⟩:=h4 r hr;exact .inl ⟨x,hx,e.2⟩
  .obtain⟨y,hy,e⟩:=h1 l hl;exact .inl ⟨y,hy,e.2⟩
theorem Rm(g:GB b h w)(hL:uC (iM true b w h) k Ls)(hR:uC (iM false b w h) k Rs)(lL:Ls.length=(iM true b w h).length)(lR:Rs.length=(iM false b w h).length){F1 F2:dH}{x:Gm}
 (s1:Same (dZ F1) (.mk (Ls.map dZ) (Rs.map dZ))) (i2:fC F2) (s2:Same (dZ F2) x) (c2:Canon x) (e2:iO x (dZ F1)):fO F2 (gB (fr b)):=by
 refine⟨i2,x,s2,c2,e2.trans (s1.eqv.trans ?_)⟩;have e:iO (.mk ((iM true b w h).map λb=>gB (fr b)) ((iM false b w h).map λb=>gB (fr b))) (gB (fr b)):=by
  have h1:=λx=>bO.DY g true (x:=x)
  have h2:=λx=>bO.DY g false (x:=x)
  simp only[if_true,lF,if_false]at h1 h2;generalize gB (fr b)=G at *;cases G with
  |mk l r=>
   simp only[bO.Gm.l,bO.Gm.r]at h1 h2;refine VT (λx hx=>?_) (λy hy=>?_) (λx hx=>?_) (λy hy=>?_)
   .obtain⟨y,hy,rfl⟩:=aH.1 hx;exact⟨_,(h1 _).2 ⟨y,hy,rfl⟩,iO.refl _⟩
   .obtain⟨z,hz,rfl⟩:=(h1 y).1 hy;exact⟨_,bE hz,iO.refl _⟩
   .obtain⟨y,hy,rfl⟩:=aH.1 hx;exact⟨_,(h2 _).2 ⟨y,hy,rfl⟩,iO.refl _⟩
   .obtain⟨z,hz,rfl⟩:=(h2 y).1 hy;exact⟨_,bE hz,iO.refl _⟩
 exact iO.trans (VT (hL.eqv lL).1 (hL.eqv lL).2 (hR.eqv lR).1 (hR.eqv lR).2) e
theorem rF{y:fw}{left:Bool}(g:GB b h w)(hy:y∈iM left b w h):GB y h w/\gX y+2=gX b:=by
 obtain⟨r,c,k,rfl⟩:=(bO.vk g).1 hy;have g':=g.wS left r c;refine⟨g',?_⟩;rw[<-bO.AR g',<-bO.AR g,bO.Ns g k];exact bO.iY g.bd k
theorem Nu{α:Type}{p q:α->Bool}(h:∀x,p x=true->q x=true)(l:List α):(l.filter p).length<=l.countP q:=by
 rw[<-List.countP_eq_length_filter];exact List.countP_mono_left λx _ k=>h x k
theorem Jy(r:List UInt8)(k:Nat)(hk:k<=r.length):(List.range k).countP (λc=>r.getD c 0 == 46)=(r.take k).countP (· == 46):=by
 induction k with
 |zero=>simp
 |succ k ih=>
  rw[qK,List.countP_append,ih (by omega),bg (by omega),List.countP_append];congr 1;simp[j6,aj,aa (show k<r.length by omega)]
theorem Ui(g:GB b h w)(left:Bool)(hr:r<b.length):(pq left b r w).length<=(b[r]).countP (· == 46):=by
 have hl:=(g.row _ (ai hr)).1;unfold pq;rw[bD];refine dn (Nu (q:=λc=>(b[r]).getD c 0 == 46) (λc k=>?_) _) ?_
 .have:=(bO.iZ.1 k).1
  unfold fr at this;rw[bO.A7 hr]at this;exact this
 .rw[Jy _ _ (by omega),bU (by omega)];exact ay _
theorem zt(g:GB b h w)(left:Bool):(iM left b w h).length<=gX b:=by
 have key:∀k,k<=b.length->(iM left b w k).length<=((b.take k).map λr=>r.countP (· == 46)).sum:=by
  intro k
  induction k with
  |zero=>intro _;simp[iM]
  |succ k ih=>
   intro hk;have:=ih (by omega);have:=Ui g left (r:=k) (by omega);rw[bO.su,aK,bg (by omega),bG,List.sum_append];simp only[lM,qm,List.sum_cons,List.sum_nil];omega
 have:=key b.length (ay _);rw[bU (ay _),g.hgt]at this;exact this
theorem xc(g:GB b h w)(left:Bool)(h2:gX b<2):(iM left b w h).length=0:=by
 cases e:iM left b w h with
 |nil=>rfl
 |cons y l=>have:=(rF g (left:=left) (y:=y) (by rw[e];simp)).2;omega
theorem OP{n l s:Nat}(hl:l<=n)(hr:r<=n)(h0:n<2->l=0/\r=0)(hs:s<=(l+r)*kB (n-2)):s+1<=kB n:=by
 match n with
 | 0=>obtain⟨rfl,rfl⟩:=h0 (by omega);simp at hs;subst hs;decide
 | 1=>obtain⟨rfl,rfl⟩:=h0 (by omega);simp at hs;subst hs;decide
 |n+2=>
  rw[qj]at hs;have:=gZ (kB n) (show l+r<=2*(n+2) by omega);rw[kB];omega
theorem NG(g:GB b h w)(hL:uC (iM true b w h) (kB (gX b-2)) Ls)(hR:uC (iM false b w h) (kB (gX b-2)) Rs)(lL:Ls.length=(iM true b w h).length)(lR:Rs.length=(iM false b w h).length):sizes Ls+sizes Rs+1<=kB (gX b):=by
 have a:=Ff hL.lens;have c:=Ff hR.lens;refine OP (l:=Ls.length) (r:=Rs.length) (by rw[lL];exact zt g true) (by rw[lR];exact zt g false) (λh2=>⟨by rw[lL];exact xc g true h2,by rw[lR];exact xc g false h2⟩) ?_;rw[kS];omega
def kC(n:Nat):Nat:=if n=0 then 0 else kB n
theorem abJ{a b:Nat}(h:a+b<=9)(hb:0<b):kC a+kB b<=kC (a+b):=by
 unfold kC;rw[if_neg (show ¬a+b=0 by omega)];by_cases h0:a=0
 .subst h0;simp
 .rw[if_neg h0];exact bO.abL h (by omega) hb
theorem aay(n:Nat):kC n<=kB n:=by unfold kC;split <;> omega
def pI(PL:List (Cs × fw))(i:Nat):Cs:=D6 ((PL.take i).map (·.1)).reverse
theorem AP(PL:List (Cs × fw)):pI PL 0=none_:=rfl
theorem xw(h:i<PL.length):pI PL (i+1)=uL (pI PL i) (PL[i]).1:=by
 unfold pI;rw[bg h,bG,List.reverse_append];rfl
theorem Gd:∀(m l:List Cs) (x y:Nat),D6 l x y=true->D6 (m++l) x y=true
 |[],_,_,_,h=>h
 |_ :: m,l,x,y,h=>bO.jY.2 (.inl (Gd m l x y h))
theorem Dk:∀(m l:List Cs),uz (m++l)->uz l
 |[],_,h=>h
 |_ :: m,l,h=>Dk m l h.2
theorem Fw(PL:List (Cs × fw))(i:Nat):(PL.map (·.1)).reverse=((PL.drop i).map (·.1)).reverse++((PL.take i).map (·.1)).reverse:=by
 rw[<-List.reverse_append,<-bG,iV]
theorem qP.CG(h:qP S U PL)(i:Nat):cnt (pI PL i)<=cnt U:=by
 refine bO.cnt_mono λx y k=>?_
 rw[<-h.all,Fw PL i];exact Gd _ _ x y k
theorem qP.apart(h:qP S U PL)(hi:i<PL.length):bO.Apart (pI PL i) (PL[i]).1:=by
 have:=h.parts;rw[Fw PL (i+1),bg hi,bG,List.reverse_append]at this;exact(Dk _ _ this).1
theorem qP.bd(h:qP S U PL)(i:Nat):Bd (pI PL i):=bO.Pt λP hP=>by
 rw[List.mem_reverse]at hP;obtain⟨p,hp,rfl⟩:=aH.1 hP;exact(h.ok p (dY hp)).1
theorem V7(P:Cs):uL none_ P=P:=by funext x y;simp[uL,none_]
theorem Bc.eqv{P:Cs}{y:fw}(h:Bc P y):iO (gB (fr y)) (gB P)/\gX y=cnt P/\0<cnt P:=by
 obtain⟨h1,⟨r,c,h2⟩,⟨hh,ww,g⟩,a,b,h3,h4⟩:=h;refine⟨(bO.LY _ (ay _) h1 g.bd h3 h4).eqv,?_,bO.xx h1 h2⟩;rw[<-bO.AR g];exact bO.Rb h1 h3 h4
def jJ(PL:List (Cs × fw))(i:Nat)(F:dH):Prop:=fO F (gB (pI PL i))/\F.length<=kB (cnt (pI PL i))
theorem F8:fO [([],[])] I7:=by
 have hw:bO.WF [([],[])]:=λi nd h=>by
  cases i with
  |zero=>simp at h;subst h;exact⟨λk hk=>(by cases hk),λk hk=>(by cases hk)⟩
  |succ i=>simp at h
 have no:∀{x:Gm},x∈([]:List Gm)->False:=λh=>by cases h
 refine⟨⟨⟨hw,λnd h=>?_,by simp⟩,by simp,λi j h hj=>by simp at hj;omega,λi hi=>?_⟩,I7,?_,?_,iO.refl _⟩
 .simp at h;subst h;exact⟨List.Pairwise.nil,List.Pairwise.nil⟩
 .have:i=0:=by simp at hi;omega
  subst this;exact bO.Reach.here
 .have e:dZ [([],[])]=I7:=rfl
  rw[e];exact bO.iP _
 .exact Canon.mk _ ⟨λ_ _ h=>(no h).elim,λ_ _ h=>(no h).elim,λ_ h=>(no h).elim,λ_ h=>(no h).elim⟩ (λ_ h=>(no h).elim) (λ_ h=>(no h).elim)
theorem jJ.zero(PL:List (Cs × fw)):jJ PL 0 [([],[])]:=by
 unfold jJ;rw[AP,bO.Pk,bO.KJ];exact⟨F8,by decide⟩
theorem qP.zV(h:qP S U PL)(hi:i<PL.length):cnt (pI PL (i+1))=cnt (pI PL i)+gX (PL[i]).2/\0<gX (PL[i]).2:=by
 obtain⟨-,h2,h3⟩:=(h.ok _ (ai hi)).eqv;rw[xw hi,bO.Zw (h.apart hi),h2];exact⟨rfl,h3⟩
theorem jJ.first(h:qP S U PL)(hi:0<PL.length)(hF:fO F (gB (fr (PL[0]).2)))(hl:F.length<=kB (gX (PL[0]).2)):jJ PL 1 F:=by
 obtain⟨h1,h2,h3⟩:=(h.ok _ (ai hi)).eqv;unfold jJ;rw[xw hi,AP,V7];exact⟨hF.to h1,by rw[<-h2];exact hl⟩
theorem jJ.next(h:qP S U PL)(hi:i<PL.length)(h9:cnt U<=9){G H F':dH}{g:Gm}(hF:jJ PL i F)(hG:fO G (gB (fr (PL[i]).2)))(hl:G.length<=kB (gX (PL[i]).2))
 (hH:Same (dZ H) (plus (dZ F) (dZ G))) (hHl:H.length<=F.length*G.length) (i':fC F') (s:Same (dZ F') g) (c:Canon g) (e:iO g (dZ H)) (hl':F'.length<=H.length):jJ PL (i+1) F':=by
 obtain⟨h1,h2,h3⟩:=(h.ok _ (ai hi)).eqv;have hc:=(h.zV hi).1;have h9':=h.CG (i+1);unfold jJ;refine⟨(hF.1.sum (hG.to h1) hH i' s c e).to ?_,?_⟩
 .rw[xw hi]
  exact(bO.KC _ (ay _) (h.bd i) (h.ok _ (ai hi)).1 (h.apart hi)).eqv.symm
 .rw[hc]
  refine dn hl' (dn hHl (dn (gu hF.2 hl) (bO.Uw (by omega))))
theorem jJ.last(h:qP S S PL)(hF:jJ PL PL.length F):fO F (gB S)/\F.length<=kB (cnt S):=by
 have e:pI PL PL.length=S:=by unfold pI;rw[bU (ay _)];exact h.all
 unfold jJ at hF;rw[e]at hF;exact hF
end
end Go.Proofs.YteknjeohbcgpdaaGreatDoor