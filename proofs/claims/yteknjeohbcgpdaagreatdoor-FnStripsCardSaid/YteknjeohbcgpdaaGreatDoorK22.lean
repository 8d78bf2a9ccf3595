/-
  Contract of the reference's l3Make. (4 texts.)
-/
import Derived.Test.YteknjeohbcgpdaaGreatDoorK13
set_option maxRecDepth 100000
namespace Go.Proofs.YteknjeohbcgpdaaGreatDoor
open Tryz
section
open Go.RowKit
open bz (dC Nd vl Same)
variable {k:Nat}
theorem EF{l:List Nat}(ha:bz.Asc l)(hl:∀x,x∈l->x<k):rises (dx l) 0 ((k:Int)-1)=true:=by
 rw[zG];intro j hj;rw[bu]at hj;rw[fT hj];have h1:=hl _ (ah hj);refine⟨by omega,by omega,λh0=>?_⟩;rw[fT (by omega)];have:=dh.1 ha (j-1) j (by omega) hj (by omega);omega
theorem KO{F:dC}(hF:bz.Good F)(hk:k<F.length):rises (dx (F[k]).1) 0 ((k:Int)-1)=true/\rises (dx (F[k]).2) 0 ((k:Int)-1)=true:=by
 have h:=hF.BP _ (ah hk);have hw:=hF.wf k _ (aa hk);exact⟨EF h.1 hw.1,EF h.2 hw.2⟩
def Re:List Row:=[⟨0,[],40,[4]⟩,⟨1,[],41,[4]⟩,⟨2,[],42,[1]⟩,⟨3,[1,2],43,[40,41]⟩,⟨4,[0,3,3],44,[39,42]⟩,⟨5,[],45,[1]⟩,⟨6,[4,5,4],46,[43,44]⟩,⟨7,[6,6,0,1,2,3,4,5,6],3,[45]⟩]
set_option maxHeartbeats 2000000 in
theorem Lm(vf:Value)(F:dC)(w:World)(hf:eX w 0 vf F)(hF:bz.fq F):Calls prog 80 #[.agg #[vf]] w λe w'=>e=.returned (.bool (gQ F))/\Ext w w':=by
 obtain⟨aF,iJ,rfl,hcap,xP,-⟩:=id hf;have hxb:Ext w (w.alloc (.cells #[.slice aF F.length iJ] 28)):=by go_grown
 cases hfit:gQ F with
 |false=>
  go_enter Tryz.func80,Tryz.ntmps80
  go_wp2_with (go_at_call 135;refine(CP _ F _ (hf.ext hxb)).mono ?_;rintro e w1 ⟨he,hx1⟩;rw[hfit]at he;subst he)
  go_ret
  exact⟨rfl,ay hxb hx1⟩
 |true=>
  have hlen:F.length<=120/\0<F.length:=by
   unfold gQ at hfit;have:=of_decide_eq_true hfit;omega
  go_enter Tryz.func80,Tryz.ntmps80
  go_wp2_with (go_at_call 135;refine(CP _ F _ (hf.ext hxb)).mono ?_;rintro e w1 ⟨he,hx1⟩;rw[hfit]at he;subst he)
  have hbx:w1.heap[w.heap.size]?=some (.cells #[.slice aF F.length iJ] 28 (0,0)):=by
   rw[hx1.block _ (by rw[fw];omega)];exact heap_alloc_new _ _
  have hE1:=ay hxb hx1;clear hx1 hxb;go_loopw [3] (λkk wr=>∃k,k<=F.length/\kk=.int .i64 ((k:Nat):Int)/\Ext w1 wr) (λkk _=>F.length-(intOf kk).toNat)
  case atStart=>exact⟨0,az _,rfl,Below.refl _ _⟩
  case round=>
   obtain⟨k,hk,rfl,hx⟩:=hrel;have hE:=ay hE1 hx;have hb1:wr.heap[w.heap.size]?=some (.cells #[.slice aF F.length iJ] 28 (0,0)):=(by rw[hx.block _ (bG hbx)];exact hbx);have cb:=cell_of_row wr w.heap.size 0 _ _ _ hb1;by_cases hlt:k<F.length
   .have h1:((k:Nat):Int)<(F.length:Int):=by omega
    obtain⟨bF,cF,aL,cL,aR,cR,he,NI,cl,cr,uo,um⟩:=(hf.ext hE).at hlt;simp only[Value.slice.injEq]at he;obtain⟨rfl,-,rfl⟩:=he;obtain⟨r1,r2⟩:=KO hF.good hlt;have HX:=aH hx;clear hb1 hE hx;go_wp2_with (go_at_call 136;refine(Gb _ _ _ _ _ (by first|exact uo|exact lQ um _)).mono ?_;rintro e w2 ⟨he,n1,rfl⟩;(first|rw[r1]at he|rw[r2]at he);subst he)
    go_roundw
    case rel=>exact⟨k+1,by omega,by go_num,ay HX.out ⟨rfl,rfl,rfl,ai _,λ_ _=>rfl⟩⟩
    case measure=>simp[intOf];omega
   .have h1:¬(((k:Nat):Int)<(F.length:Int)):=by omega
    go_wp2_with fail
    have hpb:=heap_alloc_new wr (.cells #[.slice none 0 0,.slice none 0 0] 157);have Bn:=tN hpb;have hxe:Ext wr (wr.alloc (.cells #[.slice none 0 0,.slice none 0 0] 157)):=(by go_grown);have hB:qy wr (wr.alloc (.cells #[.slice none 0 0,.slice none 0 0] 157)) wr.heap.size (.slice none 0 0) (.slice none 0 0) []:=⟨Bn,λb hb=>by
     rcases hb with h|h|h
     .omega
     .simp[Value.ownBlock]at h
     .simp[Value.ownBlock]at h,hxe⟩
    have hbw:(wr.alloc (.cells #[.slice none 0 0,.slice none 0 0] 157)).heap[w.heap.size]?=some (.cells #[.slice aF F.length iJ] 28 (0,0)):=(by rw[hxe.block _ (bG hb1)];exact hb1);have hbl:=bG hb1;generalize wr.alloc (.cells #[.slice none 0 0,.slice none 0 0] 157)=W0 at *;have cw:=cell_of_row W0 w.heap.size 0 _ _ _ hbw;have hd:Ext W0 W0.drew:=⟨rfl,rfl,rfl,ai _,λ_ _=>rfl⟩;have hfr:=hf.ext hE;refine bW (λW=>W.cell? ⟨w.heap.size,0,none⟩=some (.slice aF F.length iJ)) [6,7] Re (by kernel_rfl) ⟨by kernel_rfl,by kernel_rfl,by kernel_rfl⟩ cw (λax ae=>?_);(refine bT 0 ax ae ?_;refine bT 1 ax ae ?_;refine bT 2 ax ae ?_;refine bT 5 ax ae ?_);(refine oZ ax (i:=3) λK hK=>?_;go_simp);refine(Cj _ _ _ _ _ F wr _ (hB.ext' hd) hfr hF.good hlen.2 (by simp;omega)).mono ?_;rintro e w2 ⟨Bf,pF,D2,i2,rfl,hB2,hG2,hD2,hi2,hS2⟩;have hbw2:w2.heap[w.heap.size]?=some (.cells #[.slice aF F.length iJ] 28 (0,0)):=by
     rw[hG2.keep.block _ (aQ (bG hbw) hd.size) (λk=>by
      rcases k with h|h|h
      .omega
      .simp[Value.ownBlock]at h
      .simp[Value.ownBlock]at h)]
     exact hbw
    (refine hK.out _ _ (λ_=>?_) ?_)
    .exact cell_of_row w2 w.heap.size 0 _ _ _ hbw2
    clear hK K;(try simp only[nP]);have agG:=(hB.ext' hd).go hB2 hG2;(refine oZ ax (i:=4) λK hK=>?_;go_simp);refine(y7 _ _ _ D2 i2 _ hB2 hi2).mono ?_;rintro e w3 ⟨vN,F',rfl,hN,hIF,Ql,hx3⟩;obtain rfl:F'=F:=bz.A9 hIF hF (bz.ik Ql hS2);(refine hK.out _ _ (λ_=>?_) ?_)
    .exact(hx3.cell (lt_of_cell (cell_of_row w2 w.heap.size 0 _ _ _ hbw2))).trans (cell_of_row w2 w.heap.size 0 _ _ _ hbw2)
    clear hK K;(try simp only[nP]);have xx:=ay hE (ay agG.ext hx3);refine ow ax [6,7] [_,_] ?_;go_wp2_with (go_at_call 137;refine(Lj _ _ F' _ (hN.weaken (az _)) (hf.ext xx)).mono ?_;rintro e w4 ⟨rfl,hx4⟩)
    go_ret
    exact⟨rfl,ay xx hx4⟩
theorem zu(vf:Value)(F:dC)(w:World)(hf:eX w 0 vf F)(hF:bz.fq F):Calls prog 39 #[.agg #[vf]] w λe w'=>e=.returned (.bool (gQ F))/\Ext w w':=by
 obtain⟨aF,iJ,rfl,hcap,xP,-⟩:=id hf;have hxb:Ext w (w.alloc (.cells #[.slice aF F.length iJ] 28)):=by go_grown
 go_enter Tryz.func39,Tryz.ntmps39
 go_wp2_with (go_at_call 80;refine(Lm _ F _ (hf.ext hxb) hF).mono ?_;rintro e w1 ⟨rfl,hx1⟩)
 go_ret
 exact⟨rfl,ay hxb hx1⟩
end
section
open Go.RowKit
open bz (dC Nd vl Same)
variable {Fs:List dC} {i:Nat} {D:dC}
def Forms(w:World)(v:Value)(Fs:List dC):Prop:=∃a cap,v=.slice a Fs.length cap/\Fs.length<=cap/\Fs.length<=maxLen/\
 (0<Fs.length->∃b,a=some ⟨b,0,none⟩/\∀i (h:i<Fs.length),∃aN cN,w.cell? ⟨b,i,none⟩=some (.slice aN (Fs[i]).length cN)/\eX w 0 (.slice aN (Fs[i]).length cN) Fs[i])
theorem Forms.ext{w w':World}{v:Value}{Fs:List dC}(h:Forms w v Fs)(hx:Ext w w'):Forms w' v Fs:=by
 obtain⟨a,cap,rfl,h1,h2,h3⟩:=h;refine⟨a,cap,rfl,h1,h2,λh0=>?_⟩;obtain⟨b,rfl,hc⟩:=h3 h0;refine⟨b,rfl,λi hi=>?_⟩;obtain⟨aN,cN,c1,c2⟩:=hc i hi;exact⟨aN,cN,(hx.cell (lt_of_cell c1)).trans c1,c2.ext hx⟩
theorem Forms.at{w:World}{v:Value}(h:Forms w v Fs)(hi:i<Fs.length):
 ∃b cap aN cN,v=.slice (some ⟨b,0,none⟩) Fs.length cap/\Fs.length<=cap/\w.cell? ⟨b,i,none⟩=some (.slice aN (Fs[i]).length cN)/\eX w 0 (.slice aN (Fs[i]).length cN) Fs[i]:=by
 obtain⟨a,cap,rfl,h1,h2,h3⟩:=h;obtain⟨b,rfl,hc⟩:=h3 (by omega);obtain⟨aN,cN,c1,c2⟩:=hc i hi;exact⟨b,cap,aN,cN,rfl,h1,c1,c2⟩
def sizes(Fs:List dC):Nat:=(Fs.map List.length).sum
theorem sN{k:Nat}(h:k<Fs.length):sizes (Fs.take (k+1))=sizes (Fs.take k)+(Fs[k]).length:=by
 rw[bg h,sizes,aU,List.sum_append];simp[sizes]
theorem Iu(Fs:List dC)(k:Nat):sizes (Fs.take k)<=sizes Fs:=by
 conv=>rhs;rw[<-iZ k Fs]
 rw[sizes,sizes,aU,List.sum_append];omega
theorem Gn{F':dC}{root:Nat}(g:bz.Good D)(hr:root<D.length)(hF:bz.fq F')(hs:Same (bz.eu F') (vl D root)):F'.length<=D.length:=by
 have h:=xR (at_:=List.range D.length) g hr hF hs (dA.2 hr) (λj side x hj hx=>dA.2 (by have:=kE g.wf hx;have:=dA.1 hj;omega))
 simpa using h
theorem OG{D':dC}{ls rs:List Nat}{Ls Rs:List dC}(g:bz.WF D)(g':bz.WF D')(hl:ls.length=Ls.length)(hr:rs.length=Rs.length)(sl:∀j (h:j<ls.length),ls[j]<D.length/\Same (vl D ls[j]) (bz.eu (Ls.getD j [])))(sr:∀j (h:j<rs.length),rs[j]<D.length/\Same (vl D rs[j]) (bz.eu (Rs.getD j [])))
 (hp:jo D ls rs D' i):Same (vl D' i) (.mk (Ls.map bz.eu) (Rs.map bz.eu)):=by
 have key:∀{ls:List Nat} {Ls:List dC},ls.length=Ls.length->(∀j (h:j<ls.length),ls[j]<D.length/\Same (vl D ls[j]) (bz.eu (Ls.getD j [])))->
  (∀y,y∈(bE ls).map (vl D')->∃z,z∈Ls.map bz.eu/\Same y z)/\(∀z,z∈Ls.map bz.eu->∃y,y∈(bE ls).map (vl D')/\Same y z):=by
  intro ls Ls he hs;refine⟨λy hy=>?_,λz hz=>?_⟩
  .obtain⟨x,hx,rfl⟩:=aI.1 hy
   obtain⟨j,hj,rfl⟩:=aO.1 (bZ.1 hx);obtain⟨h1,h2⟩:=hs j hj;refine⟨_,aW (ah (l:=Ls) (n:=j) (by omega)),?_⟩;rw[hp.vl g g' h1];rw[aV,aa (by omega),gz]at h2;exact h2
  .obtain⟨F,hF,rfl⟩:=aI.1 hz
   obtain⟨j,hj,rfl⟩:=aO.1 hF;obtain⟨h1,h2⟩:=hs j (by omega);refine⟨_,aW (bZ.2 (ah (by omega:j<ls.length))),?_⟩;rw[hp.vl g g' h1];rw[aV,aa hj,gz]at h2;exact h2
 obtain⟨a,b⟩:=key hl sl;obtain⟨c,d⟩:=key hr sr;rw[bz.same_iff,bz.om g' hp.1,bz.oh g' hp.1];exact⟨a,b,c,d⟩
end
section
open Go.RowKit
open bz (dC Nd vl Same)
variable {S T:Nat->Prop} {A:World->Prop} {w w':World} {v:Value} {base size e n:Nat} {α:Type} {xs ys:List Value}
def oP(S:Nat->Prop)(A:World->Prop)(w:World):Prop:=(∀b,S b->b<w.heap.size)/\∀w',(∀b,S b->w'.heap[b]?=w.heap[b]?)->A w'
theorem oP.out(h:oP S A w):A w:=h.2 w λ_ _=>rfl
theorem oP.keep{G:Nat->Prop}(h:oP S A w)(hk:fe G w w')(hd:∀b,S b->¬G b):oP S A w':=
 ⟨λb hb=>aQ (h.1 b hb) hk.size,λw2 h2=>h.2 w2 λb hb=>(h2 b hb).trans (hk.block b (h.1 b hb) (hd b hb))⟩
theorem oP.ext(h:oP S A w)(hk:Ext w w'):oP S A w':=h.keep (fV (F:=λ_=>False) hk) λ_ _=>id
theorem oP.mono{B:World->Prop}(h:oP S A w)(hS:∀b,S b->T b)(hT:∀b,T b->b<w.heap.size)(hA:∀W,A W->B W):oP T B w:=
 ⟨hT,λw2 h2=>hA _ (h.2 w2 λb hb=>h2 b (hS b hb))⟩
theorem Ints.sup{l:List Int}(h:Ints w v l)(hS:∀b,S b->b<w.heap.size)(hv:∀b,v.ownBlock=some b->S b):oP S (λW=>Ints W v l) w:=
 ⟨hS,λ_ h2=>h.keep λb _ hb=>h2 b (hv b hb)⟩
theorem eX.sup{F:dC}(h:eX w base v F)(hS:∀b,S b->b<w.heap.size)(hv:∀b,base<=b->b<w.heap.size->S b):oP S (λW=>eX W 0 v F) w:=by
 refine⟨hS,λw2 h2=>?_⟩;obtain⟨a,cap,rfl,h1,h3,h4⟩:=h;refine⟨a,cap,rfl,h1,h3,λh0=>?_⟩;obtain⟨b,rfl,hb,hc⟩:=h4 h0;refine⟨b,rfl,az _,λi hi=>?_⟩;obtain⟨L,R,c1,c2,c3,c4,c5,c6⟩:=hc i hi;have e:=h2 b (hv b hb (lt_of_cell c1));have key:∀{v:Value} {l:List Int},Ints w v l->(∀b,v.ownBlock=some b->base<=b/\b<w.heap.size)->Ints w2 v l/\∀b,v.ownBlock=some b->l≠[]->b<w2.heap.size:=λhI hb=>by
  have k:=hI.keep (w':=w2) λb _ he=>h2 b (hv b (hb b he).1 (hb b he).2)
  exact⟨k,λb he hl=>k.blk hl he⟩
 have hlt:∀b,base<=b/\b<w.heap.size->b<w2.heap.size:=λb hb=>by
  have:=h2 b (hv b hb.1 hb.2);rw[jG hb.2]at this;exact(fH.1 this).1
 exact⟨L,R,by rw[World.cell?_of_block (w:=w) e];exact c1,by rw[World.cell?_of_block (w:=w) e];exact c2,(key c3 c5).1,(key c4 c6).1,λb hb=>⟨az _,hlt b (c5 b hb)⟩,λb hb=>⟨az _,hlt b (c6 b hb)⟩⟩
def Items{α:Type}(R:World->List Value->α->Prop)(S:Nat->Prop)(size:Nat)(xs:List Value)(Ts:List α)(w:World):Prop:=
 xs.length=Ts.length*size/\oP S (λW=>∀i (h:i<Ts.length),R W ((xs.drop (i*size)).take size) Ts[i]) w
theorem Items.nil{R:World->List Value->α->Prop}(hS:∀b,S b->b<w.heap.size):Items R S size [] [] w:=
 ⟨by simp,hS,λ_ _ i h=>absurd h (by simp)⟩
theorem Items.keep{α:Type}{R:World->List Value->α->Prop}{S G:Nat->Prop}{size:Nat}{xs:List Value}{Ts:List α}{w w':World}(h:Items R S size xs Ts w)(hk:fe G w w')(hd:∀b,S b->¬G b):Items R S size xs Ts w':=⟨h.1,h.2.keep hk hd⟩
theorem Items.ext{α:Type}{R:World->List Value->α->Prop}{S:Nat->Prop}{size:Nat}{xs:List Value}{Ts:List α}{w w':World}(h:Items R S size xs Ts w)(hk:Ext w w'):Items R S size xs Ts w':=⟨h.1,h.2.ext hk⟩
theorem Items.mono{α:Type}{R:World->List Value->α->Prop}{S T:Nat->Prop}{size:Nat}{xs:List Value}{Ts:List α}{w:World}(h:Items R S size xs Ts w)(hS:∀b,S b->T b)(hT:∀b,T b->b<w.heap.size):Items R T size xs Ts w:=
 ⟨h.1,h.2.mono hS hT λ_ h=>h⟩
theorem Items.snoc{R:World->List Value->α->Prop}{Ts:List α}{t:α}(h:Items R S size xs Ts w)(hy:ys.length=size)(k:oP S (λW=>R W ys t) w):Items R S size (xs++ys) (Ts++[t]) w:=by
 refine⟨by simp[h.1,hy,nZ],h.2.1,λw2 h2 i hi=>?_⟩;by_cases c:i<Ts.length
 .rw[dM c]
  have hm:i*size+size<=Ts.length*size:=by rw[<-Nat.succ_mul];exact iM _ c
  rw[l7 (by rw[h.1];omega),List.take_append_of_le_length (by rw[mV,h.1];omega)];exact h.2.2 w2 h2 i c
 .have e:i=Ts.length:=by simp at hi;omega
  subst e;rw[eB (ai _),<-h.1,List.drop_left,cO (by omega)]
  simpa using k.2 w2 h2
def KS(w wr:World)(v:Value)(b:Nat):Prop:=w.heap.size<=b/\b<wr.heap.size/\v.ownBlock≠some b
theorem Items.push{R:World->List Value->α->Prop}{wr w1 w5:World}{v5:Value}{zs:List Value}{Ts:List α}{t:α}{X:Obj}(hit:Items R (KS w wr v) size xs Ts wr)(hE:Ext w wr)(hx:Ext wr w1)(ho:wr.ownsRow base e size v n zs)(hy:ys.length=size)
 (hn:oP (λb=>wr.heap.size<=b/\b<w1.heap.size) (λW=>R W ys t) w1) (hg:(w1.alloc X).grownBy w5 v.ownBlock) (hl:mM (w1.alloc X) v v5):Items R (KS w w5 v5) size (xs++ys) (Ts++[t]) w5:=by
 have z0:=hE.size;have z1:=hx.size;have z5:=hg.size;rw[fw]at z5;have key:∀b,KS w w1 v b->KS w w5 v5 b:=λb hb=>⟨hb.1,by have:=hb.2.1;omega,λe=>by
  rcases hl with h|⟨q,h,h2⟩
  .exact hb.2.2 (by rw[<-h];exact e)
  .rw[h]at e;injection e with e;rw[fw]at h2;have:=hb.2.1;omega⟩
 have h1:Items R (KS w w1 v) size (xs++ys) (Ts++[t]) w1:=
  Items.snoc ((hit.ext hx).mono (λb hb=>⟨hb.1,by have:=hb.2.1;omega,hb.2.2⟩) (λb hb=>hb.2.1)) hy (hn.mono (λb hb=>⟨by omega,hb.2,λe=>by have:=(ho.lt b e).2;omega⟩) (λb hb=>hb.2.1) (λ_ h=>h))
 exact((h1.ext (bK (Below.refl _ _) X)).keep (G:=λb=>v.ownBlock=some b) ⟨hg.os,hg.tape,hg.output,hg.size,λk hk hn=>hg.block k hk (λe=>hn e.symm)⟩ (λb hb=>hb.2.2)).mono key (λb hb=>hb.2.1)
def Rows{α:Type}(R:World->List Value->α->Prop)(size:Nat)(S:Nat->Prop)(w:World)(v:Value)(Ts:List α):Prop:=
 ∃xs a cap,v=.slice a Ts.length cap/\Ts.length<=cap/\cap<=maxLen/\Items R S size xs Ts w/\(0<Ts.length->∃b,a=some ⟨b,0,none⟩/\S b/\∀j,j<Ts.length*size->w.cell? ⟨b,j,none⟩=xs[j]?)
theorem Rows.keep{α:Type}{R:World->List Value->α->Prop}{S G:Nat->Prop}{size:Nat}{v:Value}{Ts:List α}{w w':World}(h:Rows R size S w v Ts)(hk:fe G w w')(hd:∀b,S b->¬G b):Rows R size S w' v Ts:=by
 obtain⟨xs,a,cap,rfl,h1,h2,h3,h4⟩:=h;refine⟨xs,a,cap,rfl,h1,h2,h3.keep hk hd,λh0=>?_⟩;obtain⟨b,rfl,hb,hc⟩:=h4 h0;exact⟨b,rfl,hb,λj hj=>by rw[World.cell?_of_block (w:=w) (hk.block b (h3.2.1 b hb) (hd b hb))];exact hc j hj⟩
theorem Rows.ext{R:World->List Value->α->Prop}{Ts:List α}(h:Rows R size S w v Ts)(hk:Ext w w'):Rows R size S w' v Ts:=h.keep (fV (F:=λ_=>False) hk) λ_ _=>id
theorem Rows.eO{R:World->List Value->α->Prop}{Ts:List α}(h:w.ownsRow base e size v n xs)(hn:n=Ts.length)(hi:Items R S size xs Ts w)(hS:∀b,S b->T b)(hv:∀b,v.ownBlock=some b->T b)(hT:∀b,T b->b<w.heap.size):Rows R size T w v Ts:=by
 subst hn;obtain⟨a,cap,rfl,h1,h2⟩:=bD h;refine⟨xs,a,cap,rfl,h1,h2,hi.mono hS hT,λh0=>?_⟩;obtain⟨g,cap',he,_,_,hc⟩:=iB h h0;simp only[Value.slice.injEq]at he;obtain⟨rfl,-,rfl⟩:=he;exact⟨g,rfl,hv g rfl,hc⟩
def pK(W:World)(ys:List Value)(F:dC):Prop:=∃aN cN,ys=[.slice aN F.length cN]/\eX W 0 (.slice aN F.length cN) F
theorem take_at{i m j:Nat}(h:(xs.drop i).take m=ys)(hj:j<m):xs[i+j]?=ys[j]?:=by rw[<-h,lI,if_pos hj,p9]
theorem Rows.forms{Fs:List dC}(h:Rows pK 1 S w v Fs):Forms w v Fs:=by
 obtain⟨xs,a,cap,rfl,h1,h2,h3,h4⟩:=h;refine⟨a,cap,rfl,h1,by omega,λh0=>?_⟩;obtain⟨b,rfl,hb,hc⟩:=h4 h0;refine⟨b,rfl,λi hi=>?_⟩;obtain⟨aN,cN,e,hN⟩:=h3.2.out i hi;refine⟨aN,cN,?_,hN⟩;have k:=take_at e (j:=0) (by omega);rw[jM]at k;rw[hc i (by omega)];exact k
end
section
open Go.RowKit
open bz (dC Nd vl Same)
variable {D:dC} {Fs:List dC} {ls:List Nat}
def UO(Ls Rs:List dC)(w:World)(e:Ending)(w':World):Prop:=
 ∃vN F',e=.returned (.agg #[vN])/\eX w' w.heap.size vN F'/\bz.fq F'/\Same (bz.eu F') (.mk (Ls.map bz.eu) (Rs.map bz.eu))/\F'.length<=sizes Ls+sizes Rs+1/\Ext w w'
def GL(D:dC)(Fs:List dC)(ls:List Nat):Prop:=∀j (h:j<ls.length),ls[j]<D.length/\Same (vl D ls[j]) (bz.eu (Fs.getD j []))
theorem GL.more{D':dC}(h:GL D Fs ls)(g:bz.WF D)(g':bz.WF D')(hm:∃E,D'=D++E):GL D' Fs ls:=by
 obtain⟨E,rfl⟩:=hm;intro j hj;obtain⟨a,b⟩:=h j hj;exact⟨by simp;omega,by rw[bz.ib g g' _ a];exact b⟩
theorem GL.snoc{i:Nat}(h:GL D Fs ls)(hi:i<D.length)(hs:Same (vl D i) (bz.eu (Fs.getD ls.length []))):GL D Fs (ls++[i]):=
 uA (P:=λa j=>a<D.length/\Same (vl D a) (bz.eu (Fs.getD j []))) h ⟨hi,hs⟩
set_option maxHeartbeats 4000000 in
theorem Ll(va vb:Value)(Ls Rs:List dC)(w:World)(ha:Forms w va Ls)(hb:Forms w vb Rs)(gL:∀F,F∈Ls->bz.Good F/\0<F.length)(gR:∀F,F∈Rs->bz.Good F/\0<F.length)(Vd:Ls.length<=1000000)(hlR:Rs.length<=1000000)(hroom:sizes Ls+sizes Rs+1<=1000000):
 Calls prog 130 #[va,vb] w (UO Ls Rs w):=by
 obtain⟨i0,hi0,hz0,hz1,hz2⟩:=info_parts iy;obtain⟨aA,Gt,rfl,-⟩:=id ha;obtain⟨aB,JW,rfl,-⟩:=id hb;go_enter Tryz.func130,Tryz.ntmps130
 go_wp2
 obtain⟨we,xu⟩:∃we,we=(w.alloc (.cells #[.slice none 0 0] 28)).alloc (.cells #[.slice none 0 0,.slice none 0 0] 157):=⟨_,rfl⟩;have YK:we.heap.size=w.heap.size+2:=by rw[xu];simp
 have hb0:we.heap[w.heap.size]?=some (.cells #[.slice none 0 0] 28 (0,0)):=by
  rw[xu,Below.heap_alloc _ _ _ (by simp)];exact heap_alloc_new _ _
 have hb1:we.heap[w.heap.size+1]?=some (.cells #[.slice none 0 0,.slice none 0 0] 157 (0,0)):=by
  rw[xu];have h:=heap_alloc_new (w.alloc (.cells #[.slice none 0 0] 28)) (.cells #[.slice none 0 0,.slice none 0 0] 157);rw[fw]at h;exact h
 have hxe:Ext w we:=by rw[xu];go_grown
 have Bn:=tN hb1;have hB:qy w we (w.heap.size+1) (.slice none 0 0) (.slice none 0 0) []:=⟨Bn,λb hb=>by
  rcases hb with h|h|h
  .omega
  .simp[Value.ownBlock]at h
  .simp[Value.ownBlock]at h,hxe⟩
 have hsd:∀b,b<w.heap.size+1->Beside we (w.heap.size+1) (.slice none 0 0) (.slice none 0 0) [] b:=λb hb=>⟨λk=>by
  rcases k with h|h|h
  .omega
  .simp[Value.ownBlock]at h
  .simp[Value.ownBlock]at h,λ⟨i,g,cap,v,hi,_⟩=>by simp at hi⟩
 rw[<-xu];have Sm:w.heap.size+1+1=we.heap.size:=by omega
 rw[Sm];have hxa:Ext we ((we.alloc (.cells #[] 3)).alloc (.cells #[] 3)):=by go_grown
 have hzl:w.heap.size+1<we.heap.size:=by omega
 clear xu YK Sm
 go_loopw [6,8] (λlv ii wr=>∃k vn vb D ls,k<=Ls.length/\ii=.int .i64 ((k:Nat):Int)/\ls.length=k/\wr.ownsRow we.heap.size 3 1 lv k ((dx ls).map (Value.int .i64))/\eD wr (w.heap.size+1) vn vb D/\gZ we wr (w.heap.size+1) (.slice none 0 0) (.slice none 0 0) [] vn vb D/\D.length<=sizes (Ls.take k)/\
  (∀b,lv.ownBlock=some b->we.heap.size<=b/\Beside wr (w.heap.size+1) vn vb D b)/\wr.heap[w.heap.size]?=some (.cells #[.slice none 0 0] 28 (0,0))/\Beside wr (w.heap.size+1) vn vb D w.heap.size/\
  wr.ownsRow we.heap.size 3 1 (.slice (some ⟨we.heap.size+1,0,none⟩) 0 0) 0 []/\Beside wr (w.heap.size+1) vn vb D (we.heap.size+1)/\lv.ownBlock≠some (we.heap.size+1)/\Hid (GL D Ls ls)) (λ_ ii _=>Ls.length-(intOf ii).toNat)
 case atStart=>
  refine⟨0,_,_,[],[],az _,rfl,rfl,(fC we _ (ai _) _).alloc _,Bn.ext hxa,gZ.ext Bn hxa,az _,λb hb=>?_,?_,(hsd _ (by omega)).Hl Bn hxa,lM we _ _ (ai _) _,(Beside.new Bn (by omega)).Hl Bn hxa,by simp[Value.ownBlock],λj h=>absurd h (by simp)⟩
  .simp[Value.ownBlock]at hb;subst hb
   exact⟨ai _,(Beside.new Bn (b:=we.heap.size) (ai _)).Hl Bn hxa⟩
  .rw[hxa.block _ (by omega)];exact hb0
 case round=>
  obtain⟨k,pV,vb1,D1,ls,hk,rfl,hal,hown,hB1,hG1,hD1,yV,hres,hrb,hr0,hrr,hne,HA⟩:=hrel;have Kj:=hB.go hB1 hG1;by_cases hlt:k<Ls.length
  .have h1:((k:Nat):Int)<(Ls.length:Int):=by omega
   obtain⟨bA,cA,aN,cN,he,hcA,hcell,hN⟩:=ha.at hlt;simp only[Value.slice.injEq]at he;obtain⟨rfl,-,rfl⟩:=he;have cc:=(Kj.ext.cell (lt_of_cell hcell)).trans hcell;obtain⟨g1,g2⟩:=gL _ (ah hlt);obtain⟨aL,cL,rfl,hcL,_⟩:=bD hown;have hrm:D1.length+(Ls[k]).length<=1000000:=(by have:=sN hlt;have:=Iu Ls (k+1);omega);have HT:=aH (sN hlt)
   go_wp2_with (first
    |(go_at_call 138;refine(Cj _ pV vb1 D1 _ Ls[k] w _ Kj hN g1 g2 hrm).mono ?_;rintro e w3 ⟨Bf,pF,D2,i2,rfl,hB3,iX,hD3,hi3,yX⟩
      have hown3:=bO hown iX.keep (λb hb=>(yV b hb).2.ins);have hG3:=hG1.trans iX;have YI:=hG3.keep.size;have hx4:Ext w3 (w3.alloc (.cells #[.int .i64 ((i2:Nat):Int)] 3)):=by go_grown)
    |(at_builtin;refine bQ rfl (.tmp 20) (.tmp 27) 80 rfl we.heap.size 3 i0 (.int .i64 0) 1 8 underlying80 hi0 hz0 hz1 hz2 rfl (by decide) (.slice aL k cL) k ((dx ls).map (Value.int .i64)) rfl (dn hown3 hx4) _ 1 _ [.int .i64 ((i2:Nat):Int)] rfl rfl (.inr ⟨_,rfl,cK (bP _ _ _)⟩) one_cell (by unfold maxLen;omega) (by omega) (by rw[fw];omega) ?_;intro v5 w5 fI hg5 hl5))
   have rM:∀b,Value.ownBlock (.slice aL k cL)=some b->we.heap.size<=b/\Beside w3 (w.heap.size+1) Bf pF D2 b:=λb hb=>⟨(yV b hb).1,(yV b hb).2.go (hown.lt b hb).2 iX⟩
   obtain⟨TJ,Ke,uQ,hside⟩:=Beside.row hG3 hB3 rM hx4 hg5 hl5;have pG:w3.heap[w.heap.size]?=some (.cells #[.slice none 0 0] 28 (0,0)):=(by rw[iX.keep.block _ (bG hres) hrb.ins];exact hres);have EY:w5.heap[w.heap.size]?=some (.cells #[.slice none 0 0] 28 (0,0)):=by
    rw[hg5.block _ (by rw[fw];have:=bG pG;omega) (λe=>by have:=(rM _ e.symm).1;omega),hx4.block _ (bG pG)];exact pG
   have Ph:=hside _ (hrb.go (bG hres) iX);have afj:=(hr0.lt (we.heap.size+1) rfl).2;have hr3:=bO hr0 iX.keep (λb hb=>by simp[Value.ownBlock]at hb;subst hb;exact hrr.ins);have aiJ:=(hr3.lt (we.heap.size+1) rfl).2;have hk5:fe (λb=>Value.ownBlock (.slice aL k cL)=some b) (w3.alloc (.cells #[.int .i64 ((i2:Nat):Int)] 3)) w5:=⟨hg5.os,hg5.tape,hg5.output,hg5.size,λk hk hn=>hg5.block k hk (λe=>hn e.symm)⟩;have Jt:=bO (dn hr3 hx4) hk5 (λb hb e=>by simp[Value.ownBlock]at hb;subst hb;exact hne e);have afh:=hside _ (hrr.go afj iX);have hne5:v5.ownBlock≠some (we.heap.size+1):=by
    rcases hl5 with h|⟨g,h,h2⟩
    .rw[h];exact hne
    .rw[h];intro e;injection e with e;rw[fw]at h2;omega
   have htk:=(HA.out.more hB1.good.wf hB3.good.wf iX.more).snoc hi3 (by rw[hal,aV,aa hlt];exact yX);go_roundw
   case rel=>exact⟨k+1,Bf,pF,D2,ls++[i2],by omega,by go_num,by rw[aj,hal];rfl,by simpa [dx]using fI,TJ,Ke,by have:=HT.out;omega,uQ,EY,Ph,Jt,afh,hne5,htk⟩
   case measure=>simp[intOf];omega
  .have hke:k=Ls.length:=by omega
   have h1:¬(((k:Nat):Int)<(Ls.length:Int)):=(by omega);obtain⟨aL,cL,rfl,hcL,amd⟩:=bD hown;rw[hke,cO (ai _)]at hD1;have hsb:∀b,Value.ownBlock (.slice aL k cL)=some b->Value.ownBlock (.slice (some ⟨we.heap.size+1,0,none⟩) 0 0)≠some b:=λb hb e=>hne (by rw[hb,<-e];rfl)
   have Db:∀b,Value.ownBlock (.slice (some ⟨we.heap.size+1,0,none⟩) 0 0)=some b->we.heap.size<=b/\Beside wr (w.heap.size+1) pV vb1 D1 b:=λb hb=>by
    simp[Value.ownBlock]at hb;subst hb;exact⟨by omega,hrr⟩
   have HKE:=aH hke;clear hke Kj;go_wp2_with fail
   obtain⟨wl,rfl⟩:∃wl:World,wl=wr:=⟨_,rfl⟩
   go_loopw [7,9] (λrv ii wr=>∃q vn vb D rs,q<=Rs.length/\ii=.int .i64 ((q:Nat):Int)/\rs.length=q/\wr.ownsRow we.heap.size 3 1 rv q ((dx rs).map (Value.int .i64))/\eD wr (w.heap.size+1) vn vb D/\gZ we wr (w.heap.size+1) (.slice none 0 0) (.slice none 0 0) [] vn vb D/\D.length<=sizes Ls+sizes (Rs.take q)/\
    (∀b,rv.ownBlock=some b->we.heap.size<=b/\Beside wr (w.heap.size+1) vn vb D b)/\wr.heap[w.heap.size]?=some (.cells #[.slice none 0 0] 28 (0,0))/\Beside wr (w.heap.size+1) vn vb D w.heap.size/\
    wr.ownsRow we.heap.size 3 1 (.slice aL k cL) k ((dx ls).map (Value.int .i64))/\(∀b,Value.ownBlock (.slice aL k cL)=some b->Beside wr (w.heap.size+1) vn vb D b)/\(∀b,Value.ownBlock (.slice aL k cL)=some b->rv.ownBlock≠some b)/\Hid (GL D Ls ls)/\Hid (GL D Rs rs)) (λ_ ii _=>Rs.length-(intOf ii).toNat)
   case atStart=>exact⟨0,_,_,D1,[],az _,rfl,rfl,hr0,hB1,hG1,by simpa [sizes]using hD1,Db,hres,hrb,hown,λb hb=>(yV b hb).2,hsb,HA,λj h=>absurd h (by simp)⟩
   case round=>
    clear hB1 hG1 hD1 yV hres hrb hr0 hrr hne HA hown hsb Db;obtain⟨q,pV,vb1,D1,rs,hq,rfl,har,EZ,hB1,hG1,hD1,Db,hres,hrb,NC,Tp,hsb,HA,HAr⟩:=hrel;have Kj:=hB.go hB1 hG1;by_cases hlt:q<Rs.length
    .have h2:((q:Nat):Int)<(Rs.length:Int):=by omega
     obtain⟨bA,cA,aN,cN,he,hcA,hcell,hN⟩:=hb.at hlt;simp only[Value.slice.injEq]at he;obtain⟨rfl,-,rfl⟩:=he;have cc:=(Kj.ext.cell (lt_of_cell hcell)).trans hcell;obtain⟨g1,g2⟩:=gR _ (ah hlt);obtain⟨aR,cR,rfl,hcR,_⟩:=bD EZ;have hrm:D1.length+(Rs[q]).length<=1000000:=(by have:=sN hlt;have:=Iu Rs (q+1);omega);have HT:=aH (sN hlt)
     go_wp2_with (first
      |(go_at_call 138;refine(Cj _ pV vb1 D1 _ Rs[q] w _ Kj hN g1 g2 hrm).mono ?_;rintro e w3 ⟨Bf,pF,D2,i2,rfl,hB3,iX,hD3,hi3,yX⟩
        have hown3:=bO EZ iX.keep (λb hb=>(Db b hb).2.ins);have hG3:=hG1.trans iX;have YI:=hG3.keep.size;have hx4:Ext w3 (w3.alloc (.cells #[.int .i64 ((i2:Nat):Int)] 3)):=by go_grown)
      |(at_builtin;refine bQ rfl (.tmp 35) (.tmp 42) 80 rfl we.heap.size 3 i0 (.int .i64 0) 1 8 underlying80 hi0 hz0 hz1 hz2 rfl (by decide) (.slice aR q cR) q ((dx rs).map (Value.int .i64)) rfl (dn hown3 hx4) _ 1 _ [.int .i64 ((i2:Nat):Int)] rfl rfl (.inr ⟨_,rfl,cK (bP _ _ _)⟩) one_cell (by unfold maxLen;omega) (by omega) (by rw[fw];omega) ?_;intro v5 w5 fI hg5 hl5))
     have rM:∀b,Value.ownBlock (.slice aR q cR)=some b->we.heap.size<=b/\Beside w3 (w.heap.size+1) Bf pF D2 b:=λb hb=>⟨(Db b hb).1,(Db b hb).2.go (EZ.lt b hb).2 iX⟩
     obtain⟨TJ,Ke,uQ,hside⟩:=Beside.row hG3 hB3 rM hx4 hg5 hl5;have pG:w3.heap[w.heap.size]?=some (.cells #[.slice none 0 0] 28 (0,0)):=(by rw[iX.keep.block _ (bG hres) hrb.ins];exact hres);have EY:w5.heap[w.heap.size]?=some (.cells #[.slice none 0 0] 28 (0,0)):=by
      rw[hg5.block _ (by rw[fw];have:=bG pG;omega) (λe=>by have:=(rM _ e.symm).1;omega),hx4.block _ (bG pG)];exact pG
     have Ph:=hside _ (hrb.go (bG hres) iX);have hl3:=bO NC iX.keep (λb hb=>(Tp b hb).ins);have hk5:fe (λb=>Value.ownBlock (.slice aR q cR)=some b) (w3.alloc (.cells #[.int .i64 ((i2:Nat):Int)] 3)) w5:=⟨hg5.os,hg5.tape,hg5.output,hg5.size,λk hk hn=>hg5.block k hk (λe=>hn e.symm)⟩;have afE:=bO (dn hl3 hx4) hk5 (λb hb e=>hsb b hb e);have Zp:∀b,Value.ownBlock (.slice aL k cL)=some b->Beside w5 (w.heap.size+1) Bf pF D2 b:=λb hb=>hside _ ((Tp b hb).go (NC.lt b hb).2 iX)
     have afe:∀b,Value.ownBlock (.slice aL k cL)=some b->v5.ownBlock≠some b:=λb hb=>by
      rcases hl5 with h|⟨g,h,h2⟩
      .rw[h];exact hsb b hb
      .rw[h];intro e;injection e with e;rw[fw]at h2;have:=(hl3.lt b hb).2;omega
     have htl:=HA.out.more hB1.good.wf hB3.good.wf iX.more;have htk:=(HAr.out.more hB1.good.wf hB3.good.wf iX.more).snoc hi3 (by rw[har,aV,aa hlt];exact yX);go_roundw
     case rel=>exact⟨q+1,Bf,pF,D2,rs++[i2],by omega,by go_num,by rw[aj,har];rfl,by simpa [dx]using fI,TJ,Ke,by have:=HT.out;omega,uQ,EY,Ph,afE,Zp,afe,htl,htk⟩
     case measure=>simp[intOf];omega
    .have hqe:q=Rs.length:=by omega
     have h2:¬(((q:Nat):Int)<(Rs.length:Int)):=(by omega);obtain⟨aR,cR,rfl,hcR,ama⟩:=bD EZ;have hkl:=HKE.out;have hIl:=Ints.eO (l:=dx ls) NC (by rw[bu];omega);have hIr:=Ints.eO (l:=dx rs) EZ (by rw[bu];omega);rw[hqe,cO (ai _)]at hD1;have bl:∀x,x∈ls->x<D1.length:=λx hx=>by obtain⟨j,hj,rfl⟩:=aO.1 hx;exact(HA.out j hj).1
     have br:∀x,x∈rs->x<D1.length:=λx hx=>by obtain⟨j,hj,rfl⟩:=aO.1 hx;exact(HAr.out j hj).1
     have HQE:=aH hqe;have HIL:=aH hIl;have HIR:=aH hIr;have HD1:=aH hD1;have Yk:=aH hG1;have xB:=aH (hal.trans hkl);have HAR:=aH (har.trans hqe);clear hqe hkl hIl hIr NC EZ Db Tp hsb hD1
     go_wp2_with (first
      |(go_at_call 134;refine(vK _ pV vb1 D1 _ _ ls rs _ hB1 HIL.out HIR.out bl br (by have:=xB.out;omega) (by have:=HAR.out;omega) (by have:=HD1.out;omega)).mono ?_;rintro e w3 ⟨Bf,pF,D2,i2,rfl,hB3,hK3,yX,Tz,hP3⟩
        have pG:w3.heap[w.heap.size]?=some (.cells #[.slice none 0 0] 28 (0,0)):=(by rw[hK3.block _ (bG hres) hrb.ins];exact hres);have Ec:=hB.go hB3 (Yk.out.trans (gZ.K7 hK3 yX Tz hP3)))
      |(go_at_call 133;refine(y7 _ Bf pF D2 i2 _ hB3 hP3.lt).mono ?_;rintro e w7 ⟨vN,F',rfl,XZ,hIF,XW,hx7⟩
        obtain⟨aN,cN,rfl,-⟩:=id XZ;have uL:w7.heap[w.heap.size]?=some (.cells #[.slice none 0 0] 28 (0,0)):=(by rw[hx7.block _ (bG pG)];exact pG);have cr7:=cell_of_row w7 w.heap.size 0 _ _ _ uL;have fr7:=frozen_of_row w7 w.heap.size 0 _ _ uL;have HH:Hid ((w7.setCell ⟨w.heap.size,0,none⟩ (.slice aN F'.length cN)).heap[w.heap.size]?=some (.cells #[.slice aN F'.length cN] 28 (0,0))):=heap_setCell_same w7 w.heap.size 0 _ _ (.slice aN F'.length cN) uL))
     (try simp only[Exit.inBlock,Exit.then]);refine bodyPost_ret (results_cell_row rfl _ _ w.heap.size 28 #[.slice aN F'.length cN] (0,0) _ rfl HH.out underlying28 rfl (by kernel_rfl)) rfl ?_;have hN8:=(XZ.set (p:=⟨w.heap.size,0,none⟩) (by show w.heap.size<w3.heap.size;exact bG pG) (.slice aN F'.length cN)).weaken (base':=w.heap.size) Ec.ext.size;have hsm:=Gn hB3.good hP3.lt hIF XW;have hgm:=OG hB1.good.wf hB3.good.wf xB.out HAR.out HA.out HAr.out hP3;exact⟨_,F',rfl,hN8,hIF,bz.ik XW hgm,by have:=hP3.len;have:=HD1.out;omega,(ay Ec.ext hx7).setCell (p:=⟨w.heap.size,0,none⟩) (ai _) _⟩
end
end Go.Proofs.YteknjeohbcgpdaaGreatDoor