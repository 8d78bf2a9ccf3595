/- 18 -/
import Derived.Test.YtplgooajigigkaaGreatDoorQ17
set_option maxRecDepth 100000
set_option maxHeartbeats 4000000
namespace Go.Proofs.YtplgooajigigkaaGreatDoor
open Tryz
section
open Go.RowKit
open aZ (cZ Nd vl Ge Gm Canon eU)
variable {w w':World} {kb:Nat}
def UL(pb:Nat)(vn vb:Value)(D:cZ)(l r:List Nat)(w:World)(e:Ending)(w':World):Prop:=
 ∃uj wh D' i,e=.returned (.int .i64 ((i:Nat):Int))/\dK w' pb uj wh D'/\dW (kM pb vn vb) w w'/\(∀b,kM pb uj wh b->kM pb vn vb b\/w.heap.size<=b)/\
  (∀b,fw w' uj D'.length b->fw w vn D.length b\/w.heap.size<=b)/\(∃E,D'=D++E/\E.length<=3)/\i<D'.length/\Canon (vl D' i)/\eU (vl D' i) (.mk (l.map (vl D)) (r.map (vl D)))/\Within D l r D' i
theorem fw.ord{po pb gn cn:Nat}{vb:Value}{D:cZ}(hO:Ord w po pb kb (.slice (some ⟨gn,0,none⟩) D.length cn) vb D)(hg:w.grownBy w' (some kb)){b:Nat}(h:fw w' (.slice (some ⟨gn,0,none⟩) D.length cn) D.length b):fw w (.slice (some ⟨gn,0,none⟩) D.length cn) D.length b:=by
 obtain⟨i,g,cap,v,hi,he,hc,hv⟩:=h;obtain⟨L,R,h1,_,_⟩:=hO.Fh hi;obtain⟨a1,a2,_⟩:=h1 w (World.grownBy.refl _ _);obtain⟨b1,b2,_⟩:=h1 w' hg;have he':=he;simp only[gz,bN,Addr.mk.injEq,and_true,true_and]at he;obtain⟨rfl,rfl⟩:=he;refine⟨i,gn,cn,v,hi,rfl,?_,hv⟩;rcases hc with hc|hc
 .exact .inl (by rw[a1,<-b1];exact hc)
 .exact .inr (by rw[a2,<-b2];exact hc)
theorem gH(g:w.grownBy w' (some kb)):dW (λb=>b=kb) w w':=⟨g.os,g.tape,g.output,g.size,λk hk hn=>g.block k hk (by intro e;injection e with e;exact hn e)⟩
theorem KL(pb:Nat)(vn vb:Value)(D:cZ)(v u:Value)(l r:List Nat)(w:World)(hB:dK w pb vn vb D)(hv:Ints w v (bV l))(hu:Ints w u (bV r))
 (hl:∀x,x∈l->x<D.length) (hr:∀x,x∈r->x<D.length) (hls:l.length<=1000000) (hrs:r.length<=1000000) (hroom:D.length+3<=1000000)
 (cl:∀x,x∈l->Canon (vl D x)) (cr:∀x,x∈r->Canon (vl D x)):
 Calls prog 68 #[.pointer (some ⟨pb,0,none⟩),v,u] w (UL pb vn vb D l r w):=by
 go_enter Tryz.func68,Tryz.ntmps68
 go_wp2_with (first
  |(go_at_call 114;refine(xM pb vn vb D _ _ l r _ hB hv hu hl hr hls hrs (by omega)).mono ?_;rintro e w1 ⟨o7,vb1,D1,i1,rfl,hB1,hK1,hS1,hQ1,hP1⟩)
  |(go_at_call 115;refine(Ip pb o7 vb1 D1 _ hB1).mono ?_;rintro e w2 ⟨po,kb,rfl,hO,hx2,hkb⟩))
 have hi1:i1<D1.length:=(cK.1 hP1.1).1;have Nr:D1[i1]=(aS l,aS r):=by have h:=hP1.1;rw[ae hi1]at h;injection h
 obtain⟨gn,cn,_,_,rfl,_,_,_⟩:=hO.lists hi1;obtain⟨L,R,hG,hLk,hRk⟩:=hO.Fh hi1;have hG':=hG;rw[Nr]at hG';obtain⟨gL,gR,iL,iR⟩:=hG' w2 (World.grownBy.refl _ _);have c0:=hO.at.cell0;have hds:=hO.at.small;obtain⟨aL,cL,rfl,-⟩:=id iL;obtain⟨aR,cR,rfl,-⟩:=id iR;have hlen1:=hP1.len;have hll:∀x,x∈aS l->x<D1.length:=λx hx=>by have:=hl x (bU.1 hx);omega
 have hrl:∀x,x∈aS r->x<D1.length:=λx hx=>by have:=hr x (bU.1 hx);omega
 have gd:w2.grownBy w2.drew (some kb):=⟨rfl,rfl,rfl,ax _,λ_ _ _=>rfl⟩;have hkb2:=hO.Nh;have FD:w2.cell? ⟨pb,0,none⟩=some (.slice (some ⟨gn,0,none⟩) D1.length cn)/\w2.cell? ⟨gn,i1*2,none⟩=some (.slice aL (bV (aS l)).length cL)/\w2.cell? ⟨gn,i1*2+1,none⟩=some (.slice aR (bV (aS r)).length cR):=⟨c0,gL,gR⟩;go_wp2_with fail
 refine kH (λw'=>w'.cell? ⟨pb,0,none⟩=some (.slice (some ⟨gn,0,none⟩) D1.length cn)/\w'.cell? ⟨gn,i1*2,none⟩=some (.slice aL (bV (aS l)).length cL)/\w'.cell? ⟨gn,i1*2+1,none⟩=some (.slice aR (bV (aS r)).length cR)) [23,24] (by kernel_rfl) FD (λaa=>?_);(refine jT 0 aa ?_;refine jT 1 aa ?_;refine jT 2 aa ?_;refine jT 3 aa ?_;refine jT 4 aa ?_;refine jT 5 aa ?_;refine jT 6 aa ?_;refine jT 7 aa ?_;refine jT 8 aa ?_;refine jT 9 aa ?_;refine jT 10 aa ?_;refine jT 12 aa ?_;refine jT 13 aa ?_;refine jT 14 aa ?_;refine jT 15 aa ?_;refine jT 16 aa ?_;refine jT 17 aa ?_;refine jT 18 aa ?_;refine jT 19 aa ?_;refine jT 20 aa ?_;refine jT 21 aa ?_);(refine stA (i:=11) λK hK=>?_;go_simp);have hw2:=hO.grown (w':=w2.drew) ⟨rfl,rfl,rfl,ax _,λ_ _ _=>rfl⟩;refine(BG po pb kb _ vb1 _ D1 i1 (aS l) true _ hw2 hi1 (hG' _ gd).2.2.1 hLk hll (jN (iP _))).mono ?_;rintro e w3 ⟨v3,uK,BL,rfl,Ai,C9,hO3,agJ,hf3⟩;have g3:=gd.trans agJ;obtain⟨s3a,s3b,-,s3c⟩:=hG' w3 g3;(refine hK.out _ _ (λ_=>?_) ?_)
 .exact⟨hO3.at.cell0,s3a,s3b⟩
 clear hK K;(try simp only[nP]);(refine stA (i:=22) λK hK=>?_;go_simp);refine(BG po pb kb _ vb1 _ D1 i1 (aS r) false _ hO3 hi1 s3c hRk hrl (jN (iP _))).mono ?_;rintro e w4 ⟨v4,uJ,BR,rfl,Ah,C8,hO4,yc,hf4⟩;have g4:=g3.trans yc;obtain⟨s4a,s4b,-,-⟩:=hG' w4 g4;(refine hK.out _ _ (λ_=>?_) ?_)
 .exact⟨hO4.at.cell0,s4a,s4b⟩
 clear hK K;(try simp only[nP]);have hB4:=hO4.at;have bl4:∀x,x∈aS BL->x<D1.length:=λx hx=>C9.lt x (C9.kept x (bU.1 hx)).1
 have br4:∀x,x∈aS BR->x<D1.length:=λx hx=>C8.lt x (C8.kept x (bU.1 hx)).1
 have nl4:(aS BL).length<=1000000:=by have:=o9 BL;have:=C9.vW;have:=C9.len;omega
 have nr4:(aS BR).length<=1000000:=by have:=o9 BR;have:=C8.vW;have:=C8.len;omega
 rw[jL]at Ai Ah;have ahq:Ints w4 v3 (bV (aS BL)):=sM Ai yc (λb hb=>by have h:=(hf3 b hb).1;have e:w2.drew.heap.size=w2.heap.size:=rfl;omega);refine VX [23,24] [_,_] ?_
 go_wp2_with (first
  |(go_at_call 114;refine(xM pb _ vb1 D1 _ _ (aS BL) (aS BR) _ hB4 ahq Ah bl4 br4 nl4 nr4 (by omega)).mono ?_;rintro e w5 ⟨F8,qK,D2,i2,rfl,hB2,hK2,hS2,hQ2,hP2⟩)
  |(go_at_call 115;refine(Ip pb F8 qK D2 _ hB2).mono ?_;rintro e w6 ⟨po2,Vq,rfl,Y5,hx5,amu⟩
    have hi2:=hP2.lt;obtain⟨gn2,cn2,_,_,rfl,_,_,_⟩:=Y5.lists hi2;obtain⟨L2,R2,hG2,ahk,aha⟩:=Y5.Fh hi2;rw[hP2.node,GL (iP BL),GL (iP BR)]at hG2;obtain⟨gL2,gR2,iL2,iR2⟩:=hG2 w6 (World.grownBy.refl _ _);have c02:=Y5.at.cell0;have amI:=Y5.at.small;obtain⟨Ey,Et,rfl,-⟩:=id iL2;obtain⟨F3,FT,rfl,-⟩:=id iR2))
 obtain⟨xb,hxb⟩:=eu w6.heap.size;rw[<-hxb];obtain⟨W,hW⟩:=eu (w6.alloc (Obj.cells #[Value.slice Ey (bV (aS BL)).length Et,Value.slice F3 (bV (aS BR)).length FT] 91));rw[<-hW];have amt:=Y5.Nh;have cW0:W.cell? ⟨xb,0,none⟩=some (.slice Ey (bV (aS BL)).length Et):=by rw[hW,hxb];exact World.cell?_alloc_at _ _ _ 0 (by simp)
 have cW1:W.cell? ⟨xb,1,none⟩=some (.slice F3 (bV (aS BR)).length FT):=by rw[hW,hxb];exact World.cell?_alloc_at _ _ _ 1 (by simp)
 have gW:w6.grownBy W none:=by rw[hW];exact World.grownBy_alloc _ _ _
 have gWd:W.grownBy W.drew none:=⟨rfl,rfl,rfl,ax _,λ_ _ _=>rfl⟩;have hOW:=Y5.grown (gW.trans gWd);have hxk:xb≠Vq:=by omega
 clear hxb hW;have hlW:∀x,x∈aS BL->x<D2.length:=λx hx=>by have:=bl4 x hx;have:=hP2.len;omega
 have hrW:∀x,x∈aS BR->x<D2.length:=λx hx=>by have:=br4 x hx;have:=hP2.len;omega
 have gWk:w6.grownBy W.drew (some Vq):=(gW.trans gWd).but _;have aaE:W.cell? ⟨xb,0,none⟩=some (.slice Ey (bV (aS BL)).length Et)/\W.cell? ⟨xb,1,none⟩=some (.slice F3 (bV (aS BR)).length FT):=⟨cW0,cW1⟩;refine kH (λw'=>w'.cell? ⟨xb,0,none⟩=some (.slice Ey (bV (aS BL)).length Et)/\w'.cell? ⟨xb,1,none⟩=some (.slice F3 (bV (aS BR)).length FT)) [15,16] (by kernel_rfl) aaE (λaa=>?_);(refine jT 0 aa ?_;refine jT 1 aa ?_;refine jT 2 aa ?_;refine jT 3 aa ?_;refine jT 4 aa ?_;refine jT 5 aa ?_;refine jT 8 aa ?_;refine jT 9 aa ?_;refine jT 10 aa ?_;refine jT 11 aa ?_;refine jT 12 aa ?_);(refine stA (i:=6) λK hK=>?_;go_simp);obtain⟨-,-,i7,-⟩:=hG2 _ gWk;refine(tT po2 pb Vq _ qK _ D2 (aS BL) true _ hOW i7 ahk hlW nl4).mono ?_;rintro e w7 ⟨v7,zL,rfl,ZL,hd7,hO7,zS,hf7⟩;have g7:=gWk.trans zS;have s7a:=zS.cell aa.1 (by simpa using hxk);have s7b:=zS.cell aa.2 (by simpa using hxk);(refine hK.out _ _ (λ_=>?_) ?_)
 .exact⟨s7a,s7b⟩
 clear hK K;(try simp only[nP]);(refine stA (i:=7) λK hK=>?_;go_simp);refine(wB _ _ _ _ _ (hG2 _ g7).2.2.1 ZL (by rw[aP];omega)).mono ?_;rintro e w8 ⟨v8,rfl,hz8,Ae,hf8⟩;have g8:=g7.trans ((iG Ae).but _);have hO8:=hO7.grown (iG Ae);have s8a:=(iG Ae).cell s7a (by simp);have s8b:=(iG Ae).cell s7b (by simp);(refine hK.out _ _ (λ_=>?_) ?_)
 .exact⟨s8a,s8b⟩
 clear hK K;(try simp only[nP]);(refine stA (i:=13) λK hK=>?_;go_simp);refine(tT po2 pb Vq _ qK _ D2 (aS BR) false _ hO8 (hG2 _ g8).2.2.2 aha hrW nr4).mono ?_;rintro e w9 ⟨v9,zR,rfl,hz9,hd9,hO9,Lv,hf9⟩;have g9:=g8.trans Lv;have s9a:=Lv.cell s8a (by simpa using hxk);have s9b:=Lv.cell s8b (by simpa using hxk);(refine hK.out _ _ (λ_=>?_) ?_)
 .exact⟨s9a,s9b⟩
 clear hK K;(try simp only[nP]);(refine stA (i:=14) λK hK=>?_;go_simp);refine(wB _ _ _ _ _ (hG2 _ g9).2.2.2 hz9 (by rw[aP];omega)).mono ?_;rintro e wa ⟨va,rfl,hza,hxa,hfa⟩;have ga:=g9.trans ((iG hxa).but _);have hOa:=hO9.grown (iG hxa);(refine hK.out _ _ (λ_=>?_) ?_)
 .exact⟨(iG hxa).cell s9a (by simp),(iG hxa).cell s9b (by simp)⟩
 clear hK K;(try simp only[nP]);rw[xy]at hz8 hza;have hBa:=hOa.at;have h8a:Ints wa v8 (bV (zC (aS BL) zL)):=(sM hz8 Lv (λb hb=>by have h:=(hf8 b hb).1;have h7:=zS.size;have e:W.drew.heap.size=W.heap.size:=rfl;have h6:=gW.size;omega)).ext hxa;have wL:∀x,x∈zC (aS BL) zL->x∈aS BL:=λx hx=>by obtain⟨i,h,rfl,_⟩:=Aq.1 hx;exact aj h
 have wR:∀x,x∈zC (aS BR) zR->x∈aS BR:=λx hx=>by obtain⟨i,h,rfl,_⟩:=Aq.1 hx;exact aj h
 have wl1:(zC (aS BL) zL).length<=1000000:=by have:=xz (bV (aS BL)) zL (bV (aS BL)).length;have e:=xy (aS BL) zL;unfold pO at e;rw[e,aP,aP]at this;omega
 have wr1:(zC (aS BR) zR).length<=1000000:=by have:=xz (bV (aS BR)) zR (bV (aS BR)).length;have e:=xy (aS BR) zR;unfold pO at e;rw[e,aP,aP]at this;omega
 have Ns:=hP2.len;refine VX [15,16] [_,_] ?_;go_wp2_with (go_at_call 114;refine(xM pb _ qK D2 _ _ (zC (aS BL) zL) (zC (aS BR) zR) _ hBa h8a hza (λx hx=>hlW x (wL x hx)) (λx hx=>hrW x (wR x hx)) wl1 wr1 (by omega)).mono ?_;rintro e w' ⟨vn3,vb3,D3,i3,rfl,hB3,hK3,Eg,XA,hP3⟩)
 go_ret
 have z1:=hK1.size;have z2:=hx2.size;have z4:=g4.size;have z5:=hK2.size;have z6:=hx5.size;have za:=ga.size;have k2:dW (kM pb vn vb) w w2:=hK1.trans (iM hx2) (λ_ _ h=>h);have k4:=k2.trans (gH g4) (λx hx h=>by subst h;omega);have k5:=k4.trans hK2 (λx hx h=>by rcases hS1 x h with h|h;exact h;omega);have k6:=k5.trans (iM (F:=λ_=>False) hx5) (λ_ _ h=>h.elim);have ka:=k6.trans (gH ga) (λx hx h=>by subst h;omega);have hSS:∀b,kM pb (.slice (some ⟨gn2,0,none⟩) D2.length cn2) qK b->kM pb vn vb b\/w.heap.size<=b:=λb hb=>by
  rcases hS2 b hb with h|h
  .exact hS1 b h
  .exact .inr (by omega)
 have k7:=ka.trans hK3 (λx hx h=>by rcases hSS x h with h|h;exact h;omega);have Y6:∀b,fw wa (.slice (some ⟨gn2,0,none⟩) D2.length cn2) D2.length b->fw w vn D.length b\/w.heap.size<=b:=λb hb=>by
  have h6:=fw.ord Y5 ga hb;rcases hQ2 b (fw.back hB2 hx5 h6)with h|h
  .have h2:=fw.ord hO g4 h
   rcases hQ1 b (fw.back hB1 hx2 h2)with h|h
   .exact .inl h
   .exact .inr h
  .exact .inr (by omega)
 refine⟨vn3,vb3,D3,i3,rfl,hB3,k7,?_,λb hb=>?_,OH hB.good hO.at.good Y5.at.good hB3.good hP1 hP2 hP3 hl hr cl cr C9 C8 hd7 hd9⟩
 .intro b hb
  rcases Eg b hb with h|h
  .exact hSS b h
  .exact .inr (by omega)
 .rcases XA b hb with h|h
  .exact Y6 b h
  .exact .inr (by omega)
end
section
open Go.RowKit
open aZ (cZ Nd vl)
variable {w w' w0:World} {pb b:Nat} {vn vb uj wh:Value} {D D':cZ} {G:Nat->Prop}
structure oF(w0 w:World)(pb:Nat)(vn vb:Value)(D:cZ):Prop where
 bk:dK w pb vn vb D
 sep:∀b,kM pb vn vb b->w0.heap.size<=b
 ext:Ext w0 w
structure iX(w w':World)(pb:Nat)(vn vb:Value)(D:cZ)(uj wh:Value)(D':cZ):Prop where
 keep:dW (kM pb vn vb) w w'
 ins:∀b,kM pb uj wh b->kM pb vn vb b\/w.heap.size<=b
 lists:∀b,fw w' uj D'.length b->fw w vn D.length b\/w.heap.size<=b
 more:∃E,D'=D++E
theorem iX.trans{a b c:World}{pb:Nat}{v1 u1 v2 u2 v3 u3:Value}{D1 D2 D3:cZ}(h:iX a b pb v1 u1 D1 v2 u2 D2)(k:iX b c pb v2 u2 D2 v3 u3 D3):iX a c pb v1 u1 D1 v3 u3 D3:=by
 have hz:=h.keep.size;refine⟨h.keep.trans k.keep (λx hx hi=>by rcases h.ins x hi with h|h;exact h;omega),λx hx=>?_,λx hx=>?_,?_⟩
 .rcases k.ins x hx with h1|h1
  .exact h.ins x h1
  .exact .inr (by omega)
 .rcases k.lists x hx with h1|h1
  .exact h.lists x h1
  .exact .inr (by omega)
 .obtain⟨E,rfl⟩:=h.more
  obtain⟨E',rfl⟩:=k.more;exact⟨E++E',by simp⟩
theorem iX.ext(hB:dK w pb vn vb D)(hx:Ext w w'):iX w w' pb vn vb D vn vb D:=⟨iM hx,λ_ h=>.inl h,λ_ h=>.inl (fw.back hB hx h),⟨[],by simp⟩⟩
theorem iX.Rx{l r:List Nat}{i:Nat}(h1:dW (kM pb vn vb) w w')(h2:∀b,kM pb uj wh b->kM pb vn vb b\/w.heap.size<=b)(h3:∀b,fw w' uj D'.length b->fw w vn D.length b\/w.heap.size<=b)(h4:jA D l r D' i):iX w w' pb vn vb D uj wh D':=
 ⟨h1,h2,h3,by obtain⟨E,h,_⟩:=h4.ext;exact⟨E,h⟩⟩
theorem dK.zN(h:dK w pb vn vb D)(hb:kM pb vn vb b):b<w.heap.size:=by
 obtain⟨xs,ho,_⟩:=h.nodes;rcases hb with rfl|hb|hb
 .exact h.lt
 .exact(ho.lt b hb).2
 .exact(h.born.lt b hb).2
theorem dK.uI(h:dK w pb vn vb D)(hb:fw w vn D.length b):b<w.heap.size/\¬kM pb vn vb b:=by
 obtain⟨i,g,cap,v,hi,he,hc,hv⟩:=hb;obtain⟨g',cap',L,R,he',_,_,c1,c2,_,_,h5,h6⟩:=h.Ia hi;rw[he]at he';simp only[gz,bN,Addr.mk.injEq,and_true,true_and]at he';obtain⟨rfl,rfl⟩:=he';rcases hc with hc|hc
 .rw[c1]at hc;injection hc with hc;subst hc;exact⟨(h5 b hv).2,(h5 b hv).1⟩
 .rw[c2]at hc;injection hc with hc;subst hc;exact⟨(h6 b hv).2,(h6 b hv).1⟩
theorem dK.BP(h:dK w pb vn vb D)(hk:dW G w w')(h1:∀b,kM pb vn vb b->¬G b)(h2:∀b,fw w vn D.length b->¬G b):dK w' pb vn vb D:=by
 obtain⟨t,ht⟩:=h.cells;obtain⟨xs,ho,hn⟩:=h.nodes;have hz:=hk.size;refine⟨h.good,h.small,⟨t,?_⟩,aV h.born hk (λb hb=>h1 b (.inr (.inr hb))),⟨xs,aV ho hk (λb hb=>h1 b (.inr (.inl hb))),λi hi=>?_⟩,h.kD,h.mJ,h.mI⟩
 .rw[hk.block pb h.lt (h1 pb (.inl rfl))];exact ht
 .obtain⟨L,R,c1,c2,c3,c4,c5,c6⟩:=hn i hi
  obtain⟨g,cap,he,_,_,hcell⟩:=gY ho (by omega);have hl1:=ho.1;have b1:w.cell? ⟨g,i*2,none⟩=some L:=by rw[hcell _ (by omega),kP];exact c1
  have b2:w.cell? ⟨g,i*2+1,none⟩=some R:=by rw[hcell _ (by omega),kP];exact c2
  refine⟨L,R,c1,c2,vM c3 hk (λb hb=>h2 b ⟨i,g,cap,L,hi,he,.inl b1,hb⟩),vM c4 hk (λb hb=>h2 b ⟨i,g,cap,R,hi,he,.inr b2,hb⟩),λb hb=>⟨(c5 b hb).1,by have:=(c5 b hb).2;omega⟩,λb hb=>⟨(c6 b hb).1,by have:=(c6 b hb).2;omega⟩⟩
theorem fw.BP(h:dK w pb vn vb D)(hk:dW G w w')(h1:∀b,kM pb vn vb b->¬G b)(hb:fw w' vn D.length b):fw w vn D.length b:=by
 obtain⟨i,g,cap,v,hi,he,hc,hv⟩:=hb;obtain⟨xs,ho,_⟩:=h.nodes;have hg:=(ho.lt g (by rw[he];rfl)).2;have e:=hk.block g hg (h1 g (.inr (.inl (by rw[he];rfl))));refine⟨i,g,cap,v,hi,he,?_,hv⟩;rcases hc with hc|hc
 .exact .inl (by rw[<-lh (w:=w) e];exact hc)
 .exact .inr (by rw[<-lh (w:=w) e];exact hc)
theorem oF.ext'(h:oF w0 w pb vn vb D)(hx:Ext w w'):oF w0 w' pb vn vb D:=⟨h.bk.ext hx,h.sep,ah h.ext hx⟩
theorem oF.go(h:oF w0 w pb vn vb D)(hB:dK w' pb uj wh D')(hg:iX w w' pb vn vb D uj wh D'):oF w0 w' pb uj wh D':=by
 have hz:=h.ext.size;refine⟨hB,λb hb=>?_,⟨hg.keep.os.trans h.ext.os,hg.keep.tape.trans h.ext.tape,hg.keep.output.trans h.ext.output,df hz hg.keep.size,λk hk=>?_⟩⟩
 .rcases hg.ins b hb with h1|h1
  .exact h.sep b h1
  .omega
 .rw[hg.keep.block k (by omega) (λhi=>by have:=h.sep k hi;omega)];exact h.ext.block k hk
structure Beside(w:World)(pb:Nat)(vn vb:Value)(D:cZ)(b:Nat):Prop where
 ins:¬kM pb vn vb b
 lists:¬fw w vn D.length b
theorem Beside.go(h:Beside w pb vn vb D b)(hb:b<w.heap.size)(hg:iX w w' pb vn vb D uj wh D'):Beside w' pb uj wh D' b:=
 ⟨λk=>by rcases hg.ins b k with k|k;exact h.ins k;omega,λk=>by rcases hg.lists b k with k|k;exact h.lists k;omega⟩
theorem Beside.new(h:dK w pb vn vb D)(hb:w.heap.size<=b):Beside w pb vn vb D b:=
 ⟨λk=>by have:=h.zN k;omega,λk=>by have:=(h.uI k).1;omega⟩
theorem Beside.Nw(h:Beside w pb vn vb D b)(hB:dK w pb vn vb D)(hx:Ext w w'):Beside w' pb vn vb D b:=⟨h.ins,λk=>h.lists (fw.back hB hx k)⟩
theorem Beside.row{X:World}{vn0 vb0:Value}{D0:cZ}{v v':Value}(hG:iX w0 w pb vn0 vb0 D0 vn vb D)(hB:dK w pb vn vb D)(h:∀b,v.ownBlock=some b->w0.heap.size<=b/\Beside w pb vn vb D b)(hX:Ext w X)(hg:X.grownBy w' v.ownBlock)(hl:lY X v v'):
 dK w' pb vn vb D/\iX w0 w' pb vn0 vb0 D0 vn vb D/\(∀b,v'.ownBlock=some b->w0.heap.size<=b/\Beside w' pb vn vb D b)/\(∀b,Beside w pb vn vb D b->Beside w' pb vn vb D b):=by
 have hk:dW (λb=>v.ownBlock=some b) w w':=⟨hg.os.trans hX.os,hg.tape.trans hX.tape,hg.output.trans hX.output,df hX.size hg.size,λk hk hn=>by rw[hg.block k (aJ hk hX.size) (λe=>hn e.symm)];exact hX.block k hk⟩;have hB':=hB.BP hk (λb hb e=>(h b e).2.ins hb) (λb hb e=>(h b e).2.lists hb);have hL:∀b,fw w' vn D.length b->fw w vn D.length b:=λb hb=>fw.BP hB hk (λb hb e=>(h b e).2.ins hb) hb
 have hz:=hG.keep.size;have hzX:=hX.size;refine⟨hB',⟨hG.keep.trans hk (λx hx e=>by have:=(h x e).1;omega),hG.ins,λb hb=>hG.lists b (hL b hb),hG.more⟩,λb hb=>?_,λb hb=>⟨hb.ins,λk=>hb.lists (hL b k)⟩⟩;rcases hl with h1|⟨g,h1,h2⟩
 .rw[h1]at hb
  obtain⟨a,c⟩:=h b hb;exact⟨a,c.ins,λk=>c.lists (hL b k)⟩
 .rw[h1]at hb;injection hb with hb;subst hb
  exact⟨by omega,λk=>by have:=hB.zN k;omega,λk=>by have:=(hB.uI (hL _ k)).1;omega⟩
end
