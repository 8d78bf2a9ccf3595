/-
  Plain law: the negative of a game, its order, its canonical form, and how long that is; no condition. (5 texts.)
-/
import Derived.Test.YteknjeohbcgpdaaGreatDoorK11
namespace Go.Proofs.YteknjeohbcgpdaaGreatDoor
open Go.RowKit
open bO (dH Nd vl Ge Gm Canon iO)
variable {w w':World} {kb:Nat}
def WY(pb:Nat)(vn vb:Value)(D:dH)(l r:List Nat)(w:World)(e:Ending)(w':World):Prop:=
 ∃uJ xC D' i,e=.returned (.int .i64 ((i:Nat):Int))/\eH w' pb uJ xC D'/\dX (kD pb vn vb) w w'/\(∀b,kD pb uJ xC b->kD pb vn vb b\/w.heap.size<=b)/\
  (∀b,gD w' uJ D'.length b->gD w vn D.length b\/w.heap.size<=b)/\(∃E,D'=D++E/\E.length<=3)/\i<D'.length/\Canon (vl D' i)/\iO (vl D' i) (.mk (l.map (vl D)) (r.map (vl D)))/\Within D l r D' i
theorem gD.ord{po pb gn cn:Nat}{vb:Value}{D:dH}(hO:Ord w po pb kb (.slice (some ⟨gn,0,none⟩) D.length cn) vb D)(hg:w.grownBy w' (some kb)){b:Nat}(h:gD w' (.slice (some ⟨gn,0,none⟩) D.length cn) D.length b):gD w (.slice (some ⟨gn,0,none⟩) D.length cn) D.length b:=by
 obtain⟨i,g,cap,v,hi,he,hc,hv⟩:=h;obtain⟨L,R,h1,_,_⟩:=hO.GZ hi;obtain⟨a1,a2,_⟩:=h1 w (World.grownBy.refl _ _);obtain⟨b1,b2,_⟩:=h1 w' hg;have he':=he;simp only[Value.slice.injEq,bN,Addr.mk.injEq,and_true,true_and]at he;obtain⟨rfl,rfl⟩:=he;refine⟨i,gn,cn,v,hi,rfl,?_,hv⟩;rcases hc with hc|hc
 .exact .inl (by rw[a1,<-b1];exact hc)
 .exact .inr (by rw[a2,<-b2];exact hc)
theorem gJ(g:w.grownBy w' (some kb)):dX (λb=>b=kb) w w':=⟨g.os,g.tape,g.output,g.size,λk hk hn=>g.block k hk (by intro e;injection e with e;exact hn e)⟩
set_option maxHeartbeats 2000000 in
set_option maxRecDepth 100000 in
theorem MH(pb:Nat)(vn vb:Value)(D:dH)(v u:Value)(l r:List Nat)(w:World)(hB:eH w pb vn vb D)(hv:Ints w v (dD l))(hu:Ints w u (dD r))
 (hl:∀x,x∈l->x<D.length) (hr:∀x,x∈r->x<D.length) (hls:l.length<=1000000) (hrs:r.length<=1000000) (hroom:D.length+3<=1000000)
 (cl:∀x,x∈l->Canon (vl D x)) (cr:∀x,x∈r->Canon (vl D x)):
 Calls Tryz.prog 131 #[.pointer (some ⟨pb,0,none⟩),v,u] w (WY pb vn vb D l r w):=by
 go_enter Tryz.func131,Tryz.ntmps131
 go_wp2_with (first
  |(go_at_call 134;refine(wQ pb vn vb D _ _ l r _ hB hv hu hl hr hls hrs (by omega)).mono ?_;rintro e w1 ⟨qb,vb1,D1,i1,rfl,hB1,hK1,hS1,hQ1,hP1⟩)
  |(go_at_call 173;refine(JV pb qb vb1 D1 _ hB1).mono ?_;rintro e w2 ⟨po,kb,rfl,hO,hx2,hkb⟩))
 have hi1:i1<D1.length:=(cK.1 hP1.1).1;have O0:D1[i1]=(bQ l,bQ r):=by have h:=hP1.1;rw[aa hi1]at h;injection h
 obtain⟨gn,cn,_,_,rfl,_,_,_⟩:=hO.lists hi1;obtain⟨L,R,hG,hLk,hRk⟩:=hO.GZ hi1;have hG':=hG;rw[O0]at hG';obtain⟨gL,gR,iL,iR⟩:=hG' w2 (World.grownBy.refl _ _);have c0:=hO.at.cell0;have hds:=hO.at.small;obtain⟨aL,cL,rfl,-⟩:=id iL;obtain⟨aR,cR,rfl,-⟩:=id iR;have hlen1:=hP1.len;have hll:∀x,x∈bQ l->x<D1.length:=λx hx=>by have:=hl x (bZ.1 hx);omega
 have hrl:∀x,x∈bQ r->x<D1.length:=λx hx=>by have:=hr x (bZ.1 hx);omega
 have gd:w2.grownBy w2.drew (some kb):=⟨rfl,rfl,rfl,ay _,λ_ _ _=>rfl⟩;have hkb2:=hO.OO;have Hq:w2.cell? ⟨pb,0,none⟩=some (.slice (some ⟨gn,0,none⟩) D1.length cn)/\w2.cell? ⟨gn,i1*2,none⟩=some (.slice aL (dD (bQ l)).length cL)/\w2.cell? ⟨gn,i1*2+1,none⟩=some (.slice aR (dD (bQ r)).length cR):=⟨c0,gL,gR⟩;go_wp2_with fail
 refine lq (λw'=>w'.cell? ⟨pb,0,none⟩=some (.slice (some ⟨gn,0,none⟩) D1.length cn)/\w'.cell? ⟨gn,i1*2,none⟩=some (.slice aL (dD (bQ l)).length cL)/\w'.cell? ⟨gn,i1*2+1,none⟩=some (.slice aR (dD (bQ r)).length cR)) [23,24] (by kernel_rfl) Hq (λah=>?_);(refine kM 0 ah ?_;refine kM 1 ah ?_;refine kM 2 ah ?_;refine kM 3 ah ?_;refine kM 4 ah ?_;refine kM 5 ah ?_;refine kM 6 ah ?_;refine kM 7 ah ?_;refine kM 8 ah ?_;refine kM 9 ah ?_;refine kM 10 ah ?_;refine kM 12 ah ?_;refine kM 13 ah ?_;refine kM 14 ah ?_;refine kM 15 ah ?_;refine kM 16 ah ?_;refine kM 17 ah ?_;refine kM 18 ah ?_;refine kM 19 ah ?_;refine kM 20 ah ?_;refine kM 21 ah ?_);(refine stA (i:=11) λK hK=>?_;go_simp);have hw2:=hO.grown (w':=w2.drew) ⟨rfl,rfl,rfl,ay _,λ_ _ _=>rfl⟩;refine(Dx po pb kb _ vb1 _ D1 i1 (bQ l) true _ hw2 hi1 (hG' _ gd).2.2.1 hLk hll (lU (jv _))).mono ?_;rintro e w3 ⟨v3,vE,BL,rfl,uP,F4,hO3,aj2,hf3⟩;have g3:=gd.trans aj2;obtain⟨s3a,s3b,-,s3c⟩:=hG' w3 g3;(refine hK.out _ _ (λ_=>?_) ?_)
 .exact⟨hO3.at.cell0,s3a,s3b⟩
 clear hK K;(try simp only[nP]);(refine stA (i:=22) λK hK=>?_;go_simp);refine(Dx po pb kb _ vb1 _ D1 i1 (bQ r) false _ hO3 hi1 s3c hRk hrl (lU (jv _))).mono ?_;rintro e w4 ⟨v4,vz,BR,rfl,uO,FZ,hO4,zG,hf4⟩;have g4:=g3.trans zG;obtain⟨s4a,s4b,-,-⟩:=hG' w4 g4;(refine hK.out _ _ (λ_=>?_) ?_)
 .exact⟨hO4.at.cell0,s4a,s4b⟩
 clear hK K;(try simp only[nP]);have hB4:=hO4.at;have bl4:∀x,x∈bQ BL->x<D1.length:=λx hx=>F4.lt x (F4.kept x (bZ.1 hx)).1
 have br4:∀x,x∈bQ BR->x<D1.length:=λx hx=>FZ.lt x (FZ.kept x (bZ.1 hx)).1
 have nl4:(bQ BL).length<=1000000:=by have:=qc BL;have:=F4.xL;have:=F4.len;omega
 have nr4:(bQ BR).length<=1000000:=by have:=qc BR;have:=FZ.xL;have:=FZ.len;omega
 rw[kE]at uP uO;have akL:Ints w4 v3 (dD (bQ BL)):=tY uP zG (λb hb=>by have h:=(hf3 b hb).1;have e:w2.drew.heap.size=w2.heap.size:=rfl;omega);refine tlA [23,24] [_,_] ?_
 go_wp2_with (first
  |(go_at_call 134;refine(wQ pb _ vb1 D1 _ _ (bQ BL) (bQ BR) _ hB4 akL uO bl4 br4 nl4 nr4 (by omega)).mono ?_;rintro e w5 ⟨Cb,pJ,D2,i2,rfl,hB2,hK2,hS2,hQ2,hP2⟩)
  |(go_at_call 173;refine(JV pb Cb pJ D2 _ hB2).mono ?_;rintro e w6 ⟨po2,XG,rfl,hO5,hx5,aqw⟩
    have hi2:=hP2.lt;obtain⟨gn2,cn2,_,_,rfl,_,_,_⟩:=hO5.lists hi2;obtain⟨L2,R2,hG2,akG,akw⟩:=hO5.GZ hi2;rw[hP2.node,Jl (jv BL),Jl (jv BR)]at hG2;obtain⟨gL2,gR2,iL2,iR2⟩:=hG2 w6 (World.grownBy.refl _ _);have c02:=hO5.at.cell0;have aqS:=hO5.at.small;obtain⟨LF,LD,rfl,-⟩:=id iL2;obtain⟨NP,ND,rfl,-⟩:=id iR2))
 obtain⟨xb,hxb⟩:∃xb,xb=w6.heap.size:=⟨_,rfl⟩;rw[<-hxb];obtain⟨W,hW⟩:∃W,W=w6.alloc (Obj.cells #[Value.slice LF (dD (bQ BL)).length LD,Value.slice NP (dD (bQ BR)).length ND] 89):=⟨_,rfl⟩;rw[<-hW];have ach:=hO5.OO;have cW0:W.cell? ⟨xb,0,none⟩=some (.slice LF (dD (bQ BL)).length LD):=by rw[hW,hxb];exact World.cell?_alloc_at _ _ _ 0 (by simp)
 have cW1:W.cell? ⟨xb,1,none⟩=some (.slice NP (dD (bQ BR)).length ND):=by rw[hW,hxb];exact World.cell?_alloc_at _ _ _ 1 (by simp)
 have gW:w6.grownBy W none:=by rw[hW];exact World.grownBy_alloc _ _ _
 have gWd:W.grownBy W.drew none:=⟨rfl,rfl,rfl,ay _,λ_ _ _=>rfl⟩;have hOW:=hO5.grown (gW.trans gWd);have hxk:xb≠XG:=by omega
 clear hxb hW;have hlW:∀x,x∈bQ BL->x<D2.length:=λx hx=>by have:=bl4 x hx;have:=hP2.len;omega
 have hrW:∀x,x∈bQ BR->x<D2.length:=λx hx=>by have:=br4 x hx;have:=hP2.len;omega
 have gWk:w6.grownBy W.drew (some XG):=(gW.trans gWd).but _;have acY:W.cell? ⟨xb,0,none⟩=some (.slice LF (dD (bQ BL)).length LD)/\W.cell? ⟨xb,1,none⟩=some (.slice NP (dD (bQ BR)).length ND):=⟨cW0,cW1⟩;refine lq (λw'=>w'.cell? ⟨xb,0,none⟩=some (.slice LF (dD (bQ BL)).length LD)/\w'.cell? ⟨xb,1,none⟩=some (.slice NP (dD (bQ BR)).length ND)) [15,16] (by kernel_rfl) acY (λah=>?_);(refine kM 0 ah ?_;refine kM 1 ah ?_;refine kM 2 ah ?_;refine kM 3 ah ?_;refine kM 4 ah ?_;refine kM 5 ah ?_;refine kM 8 ah ?_;refine kM 9 ah ?_;refine kM 10 ah ?_;refine kM 11 ah ?_;refine kM 12 ah ?_);(refine stA (i:=6) λK hK=>?_;go_simp);obtain⟨-,-,i7,-⟩:=hG2 _ gWk;refine(uF po2 pb XG _ pJ _ D2 (bQ BL) true _ hOW i7 akG hlW nl4).mono ?_;rintro e w7 ⟨v7,zL,rfl,hz7,hd7,hO7,DR,hf7⟩;have g7:=gWk.trans DR;have s7a:=DR.cell ah.1 (by simpa using hxk);have s7b:=DR.cell ah.2 (by simpa using hxk);(refine hK.out _ _ (λ_=>?_) ?_)
 .exact⟨s7a,s7b⟩
 clear hK K;(try simp only[nP]);(refine stA (i:=7) λK hK=>?_;go_simp);refine(xU _ _ _ _ _ (hG2 _ g7).2.2.1 hz7 (by rw[bJ];omega)).mono ?_;rintro e w8 ⟨v8,rfl,hz8,UD,hf8⟩;have g8:=g7.trans ((je UD).but _);have hO8:=hO7.grown (je UD);have s8a:=(je UD).cell s7a (by simp);have s8b:=(je UD).cell s7b (by simp);(refine hK.out _ _ (λ_=>?_) ?_)
 .exact⟨s8a,s8b⟩
 clear hK K;(try simp only[nP]);(refine stA (i:=13) λK hK=>?_;go_simp);refine(uF po2 pb XG _ pJ _ D2 (bQ BR) false _ hO8 (hG2 _ g8).2.2.2 akw hrW nr4).mono ?_;rintro e w9 ⟨v9,zR,rfl,hz9,hd9,hO9,M7,hf9⟩;have g9:=g8.trans M7;have s9a:=M7.cell s8a (by simpa using hxk);have s9b:=M7.cell s8b (by simpa using hxk);(refine hK.out _ _ (λ_=>?_) ?_)
 .exact⟨s9a,s9b⟩
 clear hK K;(try simp only[nP]);(refine stA (i:=14) λK hK=>?_;go_simp);refine(xU _ _ _ _ _ (hG2 _ g9).2.2.2 hz9 (by rw[bJ];omega)).mono ?_;rintro e wa ⟨va,rfl,hza,hxa,hfa⟩;have ga:=g9.trans ((je hxa).but _);have hOa:=hO9.grown (je hxa);(refine hK.out _ _ (λ_=>?_) ?_)
 .exact⟨(je hxa).cell s9a (by simp),(je hxa).cell s9b (by simp)⟩
 clear hK K;(try simp only[nP]);rw[yN]at hz8 hza;have hBa:=hOa.at;have h8a:Ints wa v8 (dD (Bl (bQ BL) zL)):=(tY hz8 M7 (λb hb=>by have h:=(hf8 b hb).1;have h7:=DR.size;have e:W.drew.heap.size=W.heap.size:=rfl;have h6:=gW.size;omega)).ext hxa;have wL:∀x,x∈Bl (bQ BL) zL->x∈bQ BL:=λx hx=>by obtain⟨i,h,rfl,_⟩:=Cm.1 hx;exact ai h
 have wR:∀x,x∈Bl (bQ BR) zR->x∈bQ BR:=λx hx=>by obtain⟨i,h,rfl,_⟩:=Cm.1 hx;exact ai h
 have wl1:(Bl (bQ BL) zL).length<=1000000:=by have:=yO (dD (bQ BL)) zL (dD (bQ BL)).length;have e:=yN (bQ BL) zL;unfold qo at e;rw[e,bJ,bJ]at this;omega
 have wr1:(Bl (bQ BR) zR).length<=1000000:=by have:=yO (dD (bQ BR)) zR (dD (bQ BR)).length;have e:=yN (bQ BR) zR;unfold qo at e;rw[e,bJ,bJ]at this;omega
 have BH:=hP2.len;refine tlA [15,16] [_,_] ?_;go_wp2_with (go_at_call 134;refine(wQ pb _ pJ D2 _ _ (Bl (bQ BL) zL) (Bl (bQ BR) zR) _ hBa h8a hza (λx hx=>hlW x (wL x hx)) (λx hx=>hrW x (wR x hx)) wl1 wr1 (by omega)).mono ?_;rintro e w' ⟨vn3,vb3,D3,i3,rfl,hB3,hK3,tC,Vv,hP3⟩)
 go_ret
 have z1:=hK1.size;have z2:=hx2.size;have z4:=g4.size;have z5:=hK2.size;have z6:=hx5.size;have za:=ga.size;have k2:dX (kD pb vn vb) w w2:=hK1.trans (fq hx2) (λ_ _ h=>h);have k4:=k2.trans (gJ g4) (λx hx h=>by subst h;omega);have k5:=k4.trans hK2 (λx hx h=>by rcases hS1 x h with h|h;exact h;omega);have k6:=k5.trans (fq (F:=λ_=>False) hx5) (λ_ _ h=>h.elim);have ka:=k6.trans (gJ ga) (λx hx h=>by subst h;omega);have hSS:∀b,kD pb (.slice (some ⟨gn2,0,none⟩) D2.length cn2) pJ b->kD pb vn vb b\/w.heap.size<=b:=λb hb=>by
  rcases hS2 b hb with h|h
  .exact hS1 b h
  .exact .inr (by omega)
 have k7:=ka.trans hK3 (λx hx h=>by rcases hSS x h with h|h;exact h;omega);have XU:∀b,gD wa (.slice (some ⟨gn2,0,none⟩) D2.length cn2) D2.length b->gD w vn D.length b\/w.heap.size<=b:=λb hb=>by
  have h6:=gD.ord hO5 ga hb;rcases hQ2 b (gD.back hB2 hx5 h6)with h|h
  .have h2:=gD.ord hO g4 h
   rcases hQ1 b (gD.back hB1 hx2 h2)with h|h
   .exact .inl h
   .exact .inr h
  .exact .inr (by omega)
 refine⟨vn3,vb3,D3,i3,rfl,hB3,k7,?_,λb hb=>?_,Qw hB.good hO.at.good hO5.at.good hB3.good hP1 hP2 hP3 hl hr cl cr F4 FZ hd7 hd9⟩
 .intro b hb
  rcases tC b hb with h|h
  .exact hSS b h
  .exact .inr (by omega)
 .rcases Vv b hb with h|h
  .exact XU b h
  .exact .inr (by omega)
end Go.Proofs.YteknjeohbcgpdaaGreatDoor
namespace Go.Proofs.YteknjeohbcgpdaaGreatDoor
open Go.RowKit
open bO (dH Nd vl)
variable {w w' w0:World} {pb b:Nat} {vn vb uJ xC:Value} {D D':dH} {G:Nat->Prop}
structure qI(w0 w:World)(pb:Nat)(vn vb:Value)(D:dH):Prop where
 bk:eH w pb vn vb D
 sep:∀b,kD pb vn vb b->w0.heap.size<=b
 ext:Ext w0 w
structure ig(w w':World)(pb:Nat)(vn vb:Value)(D:dH)(uJ xC:Value)(D':dH):Prop where
 keep:dX (kD pb vn vb) w w'
 ins:∀b,kD pb uJ xC b->kD pb vn vb b\/w.heap.size<=b
 lists:∀b,gD w' uJ D'.length b->gD w vn D.length b\/w.heap.size<=b
 more:∃E,D'=D++E
theorem ig.len(h:ig w w' pb vn vb D uJ xC D'):D.length<=D'.length:=by obtain⟨E,rfl⟩:=h.more;simp
theorem ig.refl(w:World)(pb:Nat)(vn vb:Value)(D:dH):ig w w pb vn vb D vn vb D:=⟨dX.refl _ _,λ_ h=>.inl h,λ_ h=>.inl h,⟨[],by simp⟩⟩
theorem ig.trans{a b c:World}{pb:Nat}{v1 u1 v2 u2 v3 u3:Value}{D1 D2 D3:dH}(h:ig a b pb v1 u1 D1 v2 u2 D2)(k:ig b c pb v2 u2 D2 v3 u3 D3):ig a c pb v1 u1 D1 v3 u3 D3:=by
 have hz:=h.keep.size;refine⟨h.keep.trans k.keep (λx hx hi=>by rcases h.ins x hi with h|h;exact h;omega),λx hx=>?_,λx hx=>?_,?_⟩
 .rcases k.ins x hx with h1|h1
  .exact h.ins x h1
  .exact .inr (by omega)
 .rcases k.lists x hx with h1|h1
  .exact h.lists x h1
  .exact .inr (by omega)
 .obtain⟨E,rfl⟩:=h.more
  obtain⟨E',rfl⟩:=k.more;exact⟨E++E',by simp⟩
theorem ig.ext(hB:eH w pb vn vb D)(hx:Ext w w'):ig w w' pb vn vb D vn vb D:=⟨fq hx,λ_ h=>.inl h,λ_ h=>.inl (gD.back hB hx h),⟨[],by simp⟩⟩
theorem ig.Mw{l r:List Nat}{i:Nat}(h1:dX (kD pb vn vb) w w')(h2:∀b,kD pb uJ xC b->kD pb vn vb b\/w.heap.size<=b)(h3:∀b,gD w' uJ D'.length b->gD w vn D.length b\/w.heap.size<=b)(h4:jm D l r D' i):ig w w' pb vn vb D uJ xC D':=
 ⟨h1,h2,h3,by obtain⟨E,h,_⟩:=h4.ext;exact⟨E,h⟩⟩
theorem eH.vJ(h:eH w pb vn vb D)(hb:kD pb vn vb b):b<w.heap.size:=by
 obtain⟨xs,ho,_⟩:=h.nodes;rcases hb with rfl|hb|hb
 .exact h.lt
 .exact(ho.lt b hb).2
 .exact(h.born.lt b hb).2
theorem eH.yA(h:eH w pb vn vb D)(hb:gD w vn D.length b):b<w.heap.size/\¬kD pb vn vb b:=by
 obtain⟨i,g,cap,v,hi,he,hc,hv⟩:=hb;obtain⟨g',cap',L,R,he',_,_,c1,c2,_,_,h5,h6⟩:=h.JL hi;rw[he]at he';simp only[Value.slice.injEq,bN,Addr.mk.injEq,and_true,true_and]at he';obtain⟨rfl,rfl⟩:=he';rcases hc with hc|hc
 .rw[c1]at hc;injection hc with hc;subst hc;exact⟨(h5 b hv).2,(h5 b hv).1⟩
 .rw[c2]at hc;injection hc with hc;subst hc;exact⟨(h6 b hv).2,(h6 b hv).1⟩
theorem eH.xV(h:eH w pb vn vb D)(hk:dX G w w')(h1:∀b,kD pb vn vb b->¬G b)(h2:∀b,gD w vn D.length b->¬G b):eH w' pb vn vb D:=by
 obtain⟨t,ht⟩:=h.cells;obtain⟨xs,ho,hn⟩:=h.nodes;have hz:=hk.size;refine⟨h.good,h.small,⟨t,?_⟩,bI h.born hk (λb hb=>h1 b (.inr (.inr hb))),⟨xs,bI ho hk (λb hb=>h1 b (.inr (.inl hb))),λi hi=>?_⟩,h.kP,h.mK,h.mJ⟩
 .rw[hk.block pb h.lt (h1 pb (.inl rfl))];exact ht
 .obtain⟨L,R,c1,c2,c3,c4,c5,c6⟩:=hn i hi
  obtain⟨g,cap,he,_,_,hcell⟩:=gV ho (by omega);have hl1:=ho.1;have b1:w.cell? ⟨g,i*2,none⟩=some L:=by rw[hcell _ (by omega),jg];exact c1
  have b2:w.cell? ⟨g,i*2+1,none⟩=some R:=by rw[hcell _ (by omega),jg];exact c2
  refine⟨L,R,c1,c2,xm c3 hk (λb hb=>h2 b ⟨i,g,cap,L,hi,he,.inl b1,hb⟩),xm c4 hk (λb hb=>h2 b ⟨i,g,cap,R,hi,he,.inr b2,hb⟩),λb hb=>⟨(c5 b hb).1,by have:=(c5 b hb).2;omega⟩,λb hb=>⟨(c6 b hb).1,by have:=(c6 b hb).2;omega⟩⟩
theorem gD.xV(h:eH w pb vn vb D)(hk:dX G w w')(h1:∀b,kD pb vn vb b->¬G b)(hb:gD w' vn D.length b):gD w vn D.length b:=by
 obtain⟨i,g,cap,v,hi,he,hc,hv⟩:=hb;obtain⟨xs,ho,_⟩:=h.nodes;have hg:=(ho.lt g (by rw[he];rfl)).2;have e:=hk.block g hg (h1 g (.inr (.inl (by rw[he];rfl))));refine⟨i,g,cap,v,hi,he,?_,hv⟩;rcases hc with hc|hc
 .exact .inl (by rw[<-World.cell?_of_block (w:=w) e];exact hc)
 .exact .inr (by rw[<-World.cell?_of_block (w:=w) e];exact hc)
theorem qI.ext'(h:qI w0 w pb vn vb D)(hx:Ext w w'):qI w0 w' pb vn vb D:=⟨h.bk.ext hx,h.sep,ax h.ext hx⟩
theorem qI.go(h:qI w0 w pb vn vb D)(hB:eH w' pb uJ xC D')(hg:ig w w' pb vn vb D uJ xC D'):qI w0 w' pb uJ xC D':=by
 have hz:=h.ext.size;refine⟨hB,λb hb=>?_,⟨hg.keep.os.trans h.ext.os,hg.keep.tape.trans h.ext.tape,hg.keep.output.trans h.ext.output,dn hz hg.keep.size,λk hk=>?_⟩⟩
 .rcases hg.ins b hb with h1|h1
  .exact h.sep b h1
  .omega
 .rw[hg.keep.block k (by omega) (λhi=>by have:=h.sep k hi;omega)];exact h.ext.block k hk
structure Beside(w:World)(pb:Nat)(vn vb:Value)(D:dH)(b:Nat):Prop where
 ins:¬kD pb vn vb b
 lists:¬gD w vn D.length b
theorem Beside.go(h:Beside w pb vn vb D b)(hb:b<w.heap.size)(hg:ig w w' pb vn vb D uJ xC D'):Beside w' pb uJ xC D' b:=
 ⟨λk=>by rcases hg.ins b k with k|k;exact h.ins k;omega,λk=>by rcases hg.lists b k with k|k;exact h.lists k;omega⟩
theorem Beside.new(h:eH w pb vn vb D)(hb:w.heap.size<=b):Beside w pb vn vb D b:=
 ⟨λk=>by have:=h.vJ k;omega,λk=>by have:=(h.yA k).1;omega⟩
theorem Beside.IX(h:Beside w pb vn vb D b)(hB:eH w pb vn vb D)(hx:Ext w w'):Beside w' pb vn vb D b:=⟨h.ins,λk=>h.lists (gD.back hB hx k)⟩
theorem Beside.row{X:World}{vn0 vb0:Value}{D0:dH}{v v':Value}(hG:ig w0 w pb vn0 vb0 D0 vn vb D)(hB:eH w pb vn vb D)(h:∀b,v.ownBlock=some b->w0.heap.size<=b/\Beside w pb vn vb D b)(hX:Ext w X)(hg:X.grownBy w' v.ownBlock)(hl:kR X v v'):
 eH w' pb vn vb D/\ig w0 w' pb vn0 vb0 D0 vn vb D/\(∀b,v'.ownBlock=some b->w0.heap.size<=b/\Beside w' pb vn vb D b)/\(∀b,Beside w pb vn vb D b->Beside w' pb vn vb D b):=by
 have hk:dX (λb=>v.ownBlock=some b) w w':=⟨hg.os.trans hX.os,hg.tape.trans hX.tape,hg.output.trans hX.output,dn hX.size hg.size,λk hk hn=>by rw[hg.block k (bz hk hX.size) (λe=>hn e.symm)];exact hX.block k hk⟩;have hB':=hB.xV hk (λb hb e=>(h b e).2.ins hb) (λb hb e=>(h b e).2.lists hb);have hL:∀b,gD w' vn D.length b->gD w vn D.length b:=λb hb=>gD.xV hB hk (λb hb e=>(h b e).2.ins hb) hb
 have hz:=hG.keep.size;have hzX:=hX.size;refine⟨hB',⟨hG.keep.trans hk (λx hx e=>by have:=(h x e).1;omega),hG.ins,λb hb=>hG.lists b (hL b hb),hG.more⟩,λb hb=>?_,λb hb=>⟨hb.ins,λk=>hb.lists (hL b k)⟩⟩;rcases hl with h1|⟨g,h1,h2⟩
 .rw[h1]at hb
  obtain⟨a,c⟩:=h b hb;exact⟨a,c.ins,λk=>c.lists (hL b k)⟩
 .rw[h1]at hb;injection hb with hb;subst hb
  exact⟨by omega,λk=>by have:=hB.vJ k;omega,λk=>by have:=(hB.yA (hL _ k)).1;omega⟩
end Go.Proofs.YteknjeohbcgpdaaGreatDoor
namespace Go.Proofs.YteknjeohbcgpdaaGreatDoor
open Go.RowKit
open bO (dH Nd vl Same)
variable {at_:List Nat} {k i:Nat} {D D' F:dH}
def aaj(pb:Nat)(vn vb:Value)(D F:dH)(w:World)(e:Ending)(w':World):Prop:=
 ∃v' uJ xC D' at_,e=.returned v'/\Ints w' v' (dD at_)/\eH w' pb uJ xC D'/\ig w w' pb vn vb D uJ xC D'/\D'.length<=D.length+F.length/\at_.length=F.length/\(∀i (h:i<at_.length),at_[i]<D'.length/\Same (vl D' at_[i]) (vl F i))
theorem Im{l:List Nat}{n:Nat}(hl:∀x,x∈l->x<k)(ha:at_.length=k)(hat:∀i (h:i<at_.length),at_[i]<n):∀x,x∈l.map (λx=>at_.getD x 0)->x<n:=by
 intro x hx;obtain⟨y,hy,rfl⟩:=aH.1 hx;have:=hl y hy;rw[aj,aa (by omega),bW];exact hat y (by omega)
theorem TC(g:bO.WF D)(g':bO.WF D')(hF:bO.WF F)(hk:k<F.length)(ha:at_.length=k)(hat:∀i (h:i<at_.length),at_[i]<D.length/\Same (vl D at_[i]) (vl F i))
 (hp:jm D ((F[k]).1.map λx=>at_.getD x 0) ((F[k]).2.map λx=>at_.getD x 0) D' i):Same (vl D' i) (vl F k):=by
 have dk:F[k]?=some F[k]:=aa hk;have hw:=hF k _ dk;have key:∀x,x<k->at_.getD x 0<D.length/\Same (vl D' (at_.getD x 0)) (vl F x):=λx hx=>by
  have e:at_.getD x 0=at_[x]'(by omega):=by rw[aj,aa (by omega)];rfl
  have h:=hat x (by omega);rw[e,hp.vl g g' h.1];exact h
 rw[bO.same_iff,bO.ow g' hp.1,bO.ou g' hp.1,bO.ow hF dk,bO.ou hF dk];refine⟨λy hy=>?_,λy hy=>?_,λy hy=>?_,λy hy=>?_⟩
 .obtain⟨x,hx,rfl⟩:=aH.1 hy
  obtain⟨z,hz,rfl⟩:=aH.1 (bZ.1 hx);exact⟨_,bE hz,(key z (hw.1 z hz)).2⟩
 .obtain⟨z,hz,rfl⟩:=aH.1 hy
  exact⟨_,bE (bZ.2 (bE hz)),(key z (hw.1 z hz)).2⟩
 .obtain⟨x,hx,rfl⟩:=aH.1 hy
  obtain⟨z,hz,rfl⟩:=aH.1 (bZ.1 hx);exact⟨_,bE hz,(key z (hw.2 z hz)).2⟩
 .obtain⟨z,hz,rfl⟩:=aH.1 hy
  exact⟨_,bE (bZ.2 (bE hz)),(key z (hw.2 z hz)).2⟩
theorem Qz(g:bO.WF D)(g':bO.WF D')(h:∃E,D'=D++E)(hat:∀i (h:i<at_.length),at_[i]<D.length/\Same (vl D at_[i]) (vl F i)):∀i (h:i<at_.length),at_[i]<D'.length/\Same (vl D' at_[i]) (vl F i):=by
 obtain⟨E,rfl⟩:=h;intro i hi;obtain⟨a,b⟩:=hat i hi;exact⟨by simp;omega,by rw[bO.ik g g' _ a];exact b⟩
theorem uV{P:Nat->Nat->Prop}(h:∀j (h:j<at_.length),P at_[j] j)(hi:P i at_.length):∀j (h:j<(at_++[i]).length),P (at_++[i])[j] j:=by
 intro j hj;by_cases c:j<at_.length
 .rw[dw c];exact h j c
 .have e:j=at_.length:=by simp at hj;omega
  subst e;rw[dU (ay _)];simpa using hi
set_option maxHeartbeats 2000000 in
set_option maxRecDepth 100000 in
theorem ZQ(pb:Nat)(vn vb:Value)(D:dH)(vf:Value)(F:dH)(w0 w:World)(hB:qI w0 w pb vn vb D)(hf:fu w0 0 vf F)(hF:bO.Good F)(hroom:D.length+F.length<=1000000):
 Calls Tryz.prog 182 #[.pointer (some ⟨pb,0,none⟩),.agg #[vf]] w (aaj pb vn vb D F w):=by
 obtain⟨i0,hi0,hz0,hz1,hz2⟩:=info_parts iw;obtain⟨aF,iF,rfl,-⟩:=id hf;have hGF:=aQ hF;go_enter Tryz.func182,Tryz.ntmps182
 go_wp2
 have hE2:Ext w ((w.alloc (.cells #[.slice aF F.length iF] 28)).alloc (.cells #[] 3)):=by go_grown
 go_loopw [5,6] (λav kk wr=>∃k uJ xC D' at_,k<=F.length/\kk=.int .i64 ((k:Nat):Int)/\at_.length=k/\wr.ownsRow w.heap.size 3 1 av k ((dD at_).map (Value.int .i64))/\eH wr pb uJ xC D'/\ig w wr pb vn vb D uJ xC D'/\D'.length<=D.length+k/\
  (∀b,av.ownBlock=some b->w.heap.size<=b/\Beside wr pb uJ xC D' b)/\wr.heap[w.heap.size]?=some (.cells #[.slice aF F.length iF] 28 (0,0))/\Beside wr pb uJ xC D' w.heap.size/\av.ownBlock≠some w.heap.size/\Hid (∀i (h:i<at_.length),at_[i]<D'.length/\Same (vl D' at_[i]) (vl F i))) (λ_ kk _=>F.length-(intOf kk).toNat)
 case atStart=>
  refine⟨0,vn,vb,D,[],aJ _,rfl,rfl,lH w _ _ (ay _) _,hB.bk.ext hE2,ig.ext hB.bk hE2,ay _,λb hb=>?_,?_,?_,?_,λi h=>absurd h (by simp)⟩
  .simp[Value.ownBlock]at hb;subst hb
   exact⟨by omega,(Beside.new hB.bk (b:=w.heap.size+1) (by omega)).IX hB.bk hE2⟩
  .rw[Below.heap_alloc _ _ _ (by rw[eQ];omega)];exact heap_alloc_new _ _
  .exact(Beside.new hB.bk (ay _)).IX hB.bk hE2
  .simp[Value.ownBlock]
 case round=>
  obtain⟨k,qb,vb1,D1,at_,hk,rfl,hal,hown,hB1,hG1,hD1,zK,jF,hbb,hne,HA⟩:=hrel;have Lx:=hB.go hB1 hG1;have alg:=cell_of_row wr w.heap.size 0 _ _ _ jF;by_cases hlt:k<F.length
  .have hlt':((k:Nat):Int)<(F.length:Int):=by omega
   obtain⟨bF,cF,aL,cL,aR,cR,he,O8,cl,cr,uP,uO⟩:=hf.at hlt;simp only[Value.slice.injEq]at he;obtain⟨rfl,-,rfl⟩:=he;have gl:=sN hGF.out hlt;have hwk:=hGF.out.wf k _ (aa hlt)
   have pF:∀W,Ext w0 W->W.heap[w.heap.size]?=some (.cells #[.slice (some ⟨bF,0,none⟩) F.length iF] 28 (0,0))->W.cell? ⟨w.heap.size,0,none⟩=some (.slice (some ⟨bF,0,none⟩) F.length iF)/\W.cell? ⟨bF,k*2,none⟩=some (.slice aL (F[k]).1.length cL)/\W.cell? ⟨bF,k*2+1,none⟩=some (.slice aR (F[k]).2.length cR):=
    λW h1 h2=>⟨cell_of_row W w.heap.size 0 _ _ _ h2,(h1.cell (lt_of_cell cl)).trans cl,(h1.cell (lt_of_cell cr)).trans cr⟩
   have hS0:=pF wr Lx.ext jF;obtain⟨aA,cA,rfl,hcA,_⟩:=bH hown;have hx0:Ext wr wr.drew:=⟨rfl,rfl,rfl,ay _,λ_ _=>rfl⟩;have Kr:=Ints.eD (l:=dD at_) hown (by rw[bJ];have:=hB1.small;omega);have N8:=aQ Kr;have HOWN:=aQ hown;have HB1:=aQ hB1;have HG1:=aQ hG1;have HBO:=aQ Lx;have RG:=aQ zK;have Bf:=aQ jF;have HNE:=aQ hne;have yj:=aQ hal;have HD1:=aQ hD1;have Z5:=aQ gl;have Xe:=aQ hwk;have HIL:=aQ uP;have N7:=aQ uO;clear hown hB1 hG1 Lx zK jF hne hal Kr uP uO cl cr O8 hD1 gl hwk;go_wp2_with fail
   refine lq (λW=>W.cell? ⟨w.heap.size,0,none⟩=some (.slice (some ⟨bF,0,none⟩) F.length iF)/\W.cell? ⟨bF,k*2,none⟩=some (.slice aL (F[k]).1.length cL)/\W.cell? ⟨bF,k*2+1,none⟩=some (.slice aR (F[k]).2.length cR)) [20,21] (by kernel_rfl) hS0 (λah=>?_);(refine kM 0 ah ?_;refine kM 1 ah ?_;refine kM 2 ah ?_;refine kM 3 ah ?_;refine kM 4 ah ?_;refine kM 5 ah ?_;refine kM 6 ah ?_;refine kM 7 ah ?_;refine kM 8 ah ?_;refine kM 10 ah ?_;refine kM 11 ah ?_;refine kM 12 ah ?_;refine kM 13 ah ?_;refine kM 14 ah ?_;refine kM 15 ah ?_;refine kM 16 ah ?_);(refine stA (i:=9) λK hK=>?_;go_simp);have hlen1:(dD (F[k]).1).length<=1000000000:=(by rw[bJ];have:=Z5.out.1;omega);have BH:(dD (F[k]).2).length<=1000000000:=(by rw[bJ];have:=Z5.out.2;omega);have WG:∀x,x∈dD (F[k]).1->0<=x/\x<(dD at_).length:=λx hx=>by obtain⟨n,hn,rfl⟩:=mV hx;have:=Xe.out.1 n hn;rw[bJ,yj.out];omega
   have WE:∀x,x∈dD (F[k]).2->0<=x/\x<(dD at_).length:=λx hx=>by obtain⟨n,hn,rfl⟩:=mV hx;have:=Xe.out.2 n hn;rw[bJ,yj.out];omega
   refine(sD _ _ (dD at_) (dD (F[k]).1) _ (N8.out.ext hx0) (HIL.out.ext (ax HBO.out.ext hx0)) WG hlen1).mono ?_;rintro e w1 ⟨v1,rfl,hI1,hx1⟩;have DI:=ax hx0 hx1;(refine hK.out _ _ (λ_=>?_) ?_)
   .exact pF _ (ax HBO.out.ext DI) (by rw[DI.block _ (bu Bf.out)];exact Bf.out)
   clear hK K;(try simp only[nP]);(refine stA (i:=17) λK hK=>?_;go_simp);refine(sD _ _ (dD at_) (dD (F[k]).2) _ (N8.out.ext DI) (N7.out.ext (ax HBO.out.ext DI)) WE BH).mono ?_;rintro e w2 ⟨v2,rfl,hI2,hx2⟩;have sI:=ax DI hx2;have zI:w2.heap[w.heap.size]?=some (.cells #[.slice (some ⟨bF,0,none⟩) F.length iF] 28 (0,0)):=(by rw[sI.block _ (bu Bf.out)];exact Bf.out);(refine hK.out _ _ (λ_=>?_) ?_)
   .exact pF _ (ax HBO.out.ext sI) zI
   clear hK K;(try simp only[nP]);have Nn:=hI1.ext hx2;rw[CL]at Nn hI2;have hB2:=HB1.out.ext sI;have Vq:∀i (h:i<at_.length),at_[i]<D1.length:=λi h=>(HA.out i h).1
   have hG2:=HG1.out.trans (ig.ext HB1.out sI);have zJ:∀b,Value.ownBlock (.slice aA k cA)=some b->w.heap.size<=b/\Beside w2 pb qb vb1 D1 b:=λb hb=>⟨(RG.out b hb).1,(RG.out b hb).2.IX HB1.out sI⟩
   have EM:=hbb.IX HB1.out sI;have hown2:=bY HOWN.out sI;(refine stA (i:=18) λK hK=>?_;go_simp);refine(wQ pb qb vb1 D1 _ _ _ _ _ hB2 Nn hI2 (Im Xe.out.1 yj.out Vq) (Im Xe.out.2 yj.out Vq) (by simp;have:=Z5.out.1;omega) (by simp;have:=Z5.out.2;omega) (by have:=HD1.out;omega)).mono ?_;rintro e w3 ⟨Cb,pJ,D2,i2,rfl,hB3,hK3,tC,Vv,hP3⟩;have iU:=ig.Mw hK3 tC Vv hP3;have pO:w3.heap[w.heap.size]?=some (.cells #[.slice (some ⟨bF,0,none⟩) F.length iF] 28 (0,0)):=(by rw[hK3.block _ (bu zI) EM.ins];exact zI);have hG3:=hG2.trans iU;have EO:=hB.go hB3 hG3;(refine hK.out _ _ (λ_=>?_) ?_)
   .exact pF _ EO.ext pO
   clear hK K;(try simp only[nP]);(refine stA (i:=19) λK hK=>?_;go_simp);have hx4:Ext w3 (w3.alloc (.cells #[.int .i64 ((i2:Nat):Int)] 3)):=(by go_grown);(refine hK.out _ _ (λ_=>?_) ?_)
   .exact pF _ (ax EO.ext hx4) (by rw[hx4.block _ (bu pO)];exact pO)
   clear hK K;(try simp only[nP]);have hown3:=bI hown2 hK3 (λb hb=>(zJ b hb).2.ins);have XH:=hG3.keep.size;refine tlA [20,21] [_,_] ?_;refine dC rfl (.tmp 15) (.tmp 34) 80 rfl w.heap.size 3 i0 (.int .i64 0) 1 8 Tryz.underlying80 hi0 hz0 hz1 hz2 rfl (by decide) (.slice aA k cA) k ((dD at_).map (Value.int .i64)) rfl (bY hown3 hx4) _ 1 _ [.int .i64 ((i2:Nat):Int)] rfl rfl (.inr ⟨_,rfl,dJ (dh _ _ _)⟩) one_cell (by unfold maxLen;omega) (by omega) (by rw[eQ];omega) ?_;intro v5 w5 iT hg5 hl5;have sM:∀b,Value.ownBlock (.slice aA k cA)=some b->w.heap.size<=b/\Beside w3 pb Cb pJ D2 b:=λb hb=>⟨(zJ b hb).1,(zJ b hb).2.go (hown2.lt b hb).2 iU⟩
   have Vo:=EM.go (bu zI) iU;obtain⟨VH,AL,vU,hside⟩:=Beside.row hG3 hB3 sM hx4 hg5 hl5;have Vn:=hside _ Vo;have zH:w5.heap[w.heap.size]?=some (.cells #[.slice (some ⟨bF,0,none⟩) F.length iF] 28 (0,0)):=by
    rw[hg5.block _ (by rw[eQ];have:=bu pO;omega) (λe=>HNE.out e.symm),hx4.block _ (bu pO)];exact pO
   have hne5:v5.ownBlock≠some w.heap.size:=by
    rcases hl5 with h|⟨g,h,h2⟩
    .rw[h];exact HNE.out
    .rw[h];intro e;injection e with e;rw[eQ]at h2;have:=bu pO;omega
   have hlen:D2.length<=D.length+(k+1):=by have:=hP3.len;have:=HD1.out;omega
   have hsame:Hid (∀j (h:j<(at_++[i2]).length),(at_++[i2])[j]<D2.length/\Same (vl D2 (at_++[i2])[j]) (vl F j)):=
    uV (P:=λa j=>a<D2.length/\Same (vl D2 a) (vl F j)) (Qz HB1.out.good.wf hB3.good.wf iU.more HA.out) ⟨hP3.lt,by rw[yj.out];exact TC HB1.out.good.wf hB3.good.wf hGF.out.wf hlt yj.out HA.out hP3⟩
   have H5:=aQ VH;have H6:=aQ AL;have H7:=aQ vU;have H8:=aQ zH;have H9:=aQ Vn;have H10:=aQ hne5;have H11:=aQ iT;have H12:=aQ hlen;clear VH AL vU zH Vn hne5 iT hlen hg5 hl5 hside sM Vo iU pO hG3 EO hx4 hown3 hB3 hK3 tC Vv zJ EM hown2 hG2 hB2 ah;(try simp only[nP]);go_wp2_with fail
   go_roundw
   case rel=>exact⟨k+1,Cb,pJ,D2,at_++[i2],by omega,by go_num,by rw[aK,yj.out];rfl,by simpa [dD]using H11.out,H5.out,H6.out,H12.out,H7.out,H8.out,H9.out,H10.out,hsame⟩
   case measure=>simp[intOf];omega
  .have hke:k=F.length:=by omega
   have hlt':¬(((k:Nat):Int)<(F.length:Int)):=(by omega);obtain⟨aA,cA,rfl,hcA,_⟩:=bH hown;have Kr:=Ints.eD (l:=dD at_) hown (by rw[bJ];have:=hB1.small;omega);have N8:=aQ Kr;have HB1:=aQ hB1;have HG1:=aQ hG1;have Er:=aQ hke;clear hown hB1 hG1 zK jF hne Kr hke;go_wp2
   go_ret
   exact⟨_,qb,vb1,D1,at_,rfl,N8.out,HB1.out,HG1.out,by have:=Er.out;omega,by rw[hal];exact Er.out,HA.out⟩
def WS(pb:Nat)(vn vb:Value)(D F:dH)(w:World)(e:Ending)(w':World):Prop:=
 ∃uJ xC D' i,e=.returned (.int .i64 ((i:Nat):Int))/\eH w' pb uJ xC D'/\ig w w' pb vn vb D uJ xC D'/\D'.length<=D.length+F.length/\i<D'.length/\Same (vl D' i) (bO.dZ F)
set_option maxHeartbeats 2000000 in
theorem CZ(pb:Nat)(vn vb:Value)(D:dH)(vf:Value)(F:dH)(w0 w:World)(hB:qI w0 w pb vn vb D)(hf:fu w0 0 vf F)(hF:bO.Good F)(h0:0<F.length)(hroom:D.length+F.length<=1000000):
 Calls Tryz.prog 138 #[.pointer (some ⟨pb,0,none⟩),.agg #[vf]] w (WS pb vn vb D F w):=by
 obtain⟨aF,iF,rfl,-⟩:=id hf;have hx:Ext w (w.alloc (.cells #[.slice aF F.length iF] 28)):=by go_grown
 have hB1:=hB.ext' hx;go_enter Tryz.func138,Tryz.ntmps138
 have hwr:wrap64 ((F.length:Int)-1)=((F.length-1:Nat):Int):=by unfold wrap64;omega
 go_wp2_with (first
  |(go_at_call 182;refine(ZQ pb vn vb D _ F w0 _ hB1 hf hF hroom).mono ?_;rintro e w1 ⟨v1,qb,vb1,D1,at_,rfl,hI,hB2,hG2,hD2,hal,hat⟩
    have e9:(dD at_).length=F.length:=(by rw[bJ,hal]);obtain⟨a1,c1,rfl,hc1,hm1,hcell⟩:=hI;rw[e9]at hc1 hm1 hcell ⊢;obtain⟨b,off,rfl,hcc⟩:=hcell h0;have hc2:=hcc (F.length-1) (by omega);rw[gy (by omega)]at hc2))
 go_ret
 have hlast:=hat (F.length-1) (by omega);exact⟨qb,vb1,D1,_,rfl,hB2,(ig.ext hB.bk hx).trans hG2,hD2,hlast.1,hlast.2⟩
end Go.Proofs.YteknjeohbcgpdaaGreatDoor
namespace Go.Proofs.YteknjeohbcgpdaaGreatDoor
open bO
variable {l at_:List Nat} {D F:dH} {k:Nat}
theorem VR{r:List Nat}{f g:Nat->Gm}(hl:∀x,x∈l->iO (f x) (g x))(hr:∀x,x∈r->iO (f x) (g x)):iO (.mk (l.map f) (r.map f)) (.mk (l.map g) (r.map g)):=by
 constructor
 .refine BN (λy hy=>?_) (λy hy=>?_)
  .obtain⟨x,hx,rfl⟩:=aH.1 hy;exact .inl ⟨g x,bE hx,(hr x hx).1⟩
  .obtain⟨x,hx,rfl⟩:=aH.1 hy;exact .inl ⟨f x,bE hx,(hl x hx).1⟩
 .refine BN (λy hy=>?_) (λy hy=>?_)
  .obtain⟨x,hx,rfl⟩:=aH.1 hy;exact .inl ⟨f x,bE hx,(hr x hx).2⟩
  .obtain⟨x,hx,rfl⟩:=aH.1 hy;exact .inl ⟨g x,bE hx,(hl x hx).2⟩
theorem Ib{n:Nat}{R:Nat->Nat->Prop}(h:∀i,i<n->∃j,j∈at_/\R i j)(hu:∀i i' j,i<n->i'<n->R i j->R i' j->i=i'):n<=at_.length:=by
 classical
 have h1:∀i,∃k,i<n->∃hk:k<at_.length,R i at_[k]:=λi=>by
  by_cases c:i<n
  .obtain⟨j,hj,hr⟩:=h i c
   obtain⟨k,hk,rfl⟩:=aW.1 hj;exact⟨k,λ_=>⟨hk,hr⟩⟩
  .exact⟨0,λc'=>absurd c' c⟩
 have h2:((List.range n).map λi=>Classical.choose (h1 i)).Nodup:=by
  rw[List.Nodup,jh];refine iq (R:=λa b=>a<b) ?_ List.pairwise_lt_range;intro a b ha hb hab e;have ha':=dM.1 ha;have hb':=dM.1 hb;obtain⟨k1,r1⟩:=Classical.choose_spec (h1 a) ha';obtain⟨k2,r2⟩:=Classical.choose_spec (h1 b) hb';have:a=b:=hu a b _ ha' hb' r1 (by simp only[e];exact r2);omega
 have h3:=jI (n:=at_.length) h2 (λx hx=>by
  obtain⟨i,hi,rfl⟩:=aH.1 hx;exact(Classical.choose_spec (h1 i) (dM.1 hi)).1)
 simpa using h3
theorem yE{F':dH}{root:Nat}(g:bO.Good D)(hr:root<D.length)(hF:fC F')(hs:Same (dZ F') (vl D root))(hroot:root∈at_)(hc:∀j side x,j∈at_->x∈opt D side j->x∈at_):F'.length<=at_.length:=by
 have hin:∀j,bO.Reach D root j->j∈at_:=by
  intro j h
  induction h with
  |here=>exact hroot
  | @left j k nd _ hd hk ih=>exact hc j true k ih (by simp[opt,hd];exact hk)
  | @right j k nd _ hd hk ih=>exact hc j false k ih (by simp[opt,hd];exact hk)
 refine Ib (R:=λi j=>Same (vl F' i) (vl D j)) (λi hi=>?_) (λi i' j hi hi' h1 h2=>mO hF.good i i' hi hi' (gU h1 (jH h2)));obtain⟨j,_,rj,sj⟩:=tK hF.good g hr hs (hF.reach i hi);exact⟨j,hin j rj,sj⟩
structure EW(D F:dH)(at_:List Nat):Prop where
 lt:∀i (h:i<at_.length),at_[i]<D.length
 canon:∀i (h:i<at_.length),Canon (vl D at_[i])
 eqv:∀i (h:i<at_.length),iO (vl D at_[i]) (vl F i)
 shut:∀j side x,j∈at_->x∈opt D side j->x∈at_
theorem EW.nil(F:dH):EW [] F []:=⟨λi h=>absurd h (by simp),λi h=>absurd h (by simp),λi h=>absurd h (by simp),by simp⟩
theorem EW.next{D':dH}{i:Nat}(g:bO.WF D)(g':bO.WF D')(hF:WF F)(hk:k<F.length)(ha:at_.length=k)(h:EW D F at_)(hE:∃E,D'=D++E/\E.length<=3)(hi:i<D'.length)(hc:Canon (vl D' i))
 (he:iO (vl D' i) (.mk (((F[k]).1.map λx=>at_.getD x 0).map (vl D)) (((F[k]).2.map λx=>at_.getD x 0).map (vl D)))) (hw:Within D ((F[k]).1.map λx=>at_.getD x 0) ((F[k]).2.map λx=>at_.getD x 0) D' i):EW D' F (at_++[i]):=by
 obtain⟨E,rfl,_⟩:=hE;have dk:F[k]?=some F[k]:=aa hk;have hwk:=hF k _ dk;have key:∀x,x<k->∃hx:x<at_.length,at_.getD x 0=at_[x]:=λx hx=>⟨by omega,by rw[aj,aa (by omega)];rfl⟩
 refine⟨uV (P:=λa _=>a<(D++E).length) (λj hj=>by have:=h.lt j hj;simp;omega) hi,uV (P:=λa _=>Canon (vl (D++E) a)) (λj hj=>by rw[ik g g' _ (h.lt j hj)];exact h.canon j hj) hc,
  uV (P:=λa j=>iO (vl (D++E) a) (vl F j)) (λj hj=>by rw[ik g g' _ (h.lt j hj)];exact h.eqv j hj) ?_,λj side x hj hx=>?_⟩
 .rw[ha]
  refine he.trans ?_;rw[nT hF dk,gM,gM];refine VR (λx hx=>?_) (λx hx=>?_)
  .obtain⟨hl,e⟩:=key x (hwk.1 x hx)
   show iO (vl D (at_.getD x 0)) _;rw[e];exact h.eqv x hl
  .obtain⟨hl,e⟩:=key x (hwk.2 x hx)
   show iO (vl D (at_.getD x 0)) _;rw[e];exact h.eqv x hl
 .have hm:∀l:List Nat,(∀x,x∈l->x<k)->∀y,y∈l.map (λx=>at_.getD x 0)->y∈at_:=λl hl y hy=>by
   obtain⟨x,hx,rfl⟩:=aH.1 hy;obtain⟨hl',e⟩:=key x (hl x hx);rw[e];exact ai hl'
  rcases bq.1 hj with hj|hj
  .have hlt:j<D.length:=by obtain⟨q,hq,rfl⟩:=aW.1 hj;exact h.lt q hq
   rw[oK hlt]at hx;exact lW _ (h.shut j side x hj hx)
  .obtain rfl:j=i:=by simpa using hj
   exact lW _ (hw (λy=>y∈at_) (λa sd y ha hy=>h.shut a sd y ha hy) (hm _ hwk.1) (hm _ hwk.2) side x hx)
theorem KU(h:EW D F at_)(hl:∀x,x∈l->x<k)(ha:at_.length=k):∀x,x∈l.map (λx=>at_.getD x 0)->Canon (vl D x):=by
 intro x hx;obtain⟨y,hy,rfl⟩:=aH.1 hx;have hlt:y<at_.length:=by have:=hl y hy;omega
 have e:at_.getD y 0=at_[y]:=by rw[aj,aa hlt];rfl
 rw[e];exact h.canon y hlt
end Go.Proofs.YteknjeohbcgpdaaGreatDoor
namespace Go.Proofs.YteknjeohbcgpdaaGreatDoor.bO
variable {a x:Gm}
def ng:Gm->Gm
 | .mk l r=>.mk (r.attach.map λx=>ng x.1) (l.attach.map λx=>ng x.1)
termination_by g=>SizeOf.sizeOf g
decreasing_by
 .have:=List.sizeOf_lt_of_mem x.2;simp;omega
 .have:=List.sizeOf_lt_of_mem x.2;simp;omega
theorem aau(l r:List Gm):ng (.mk l r)=.mk (r.map ng) (l.map ng):=by
 rw[ng];simp
theorem aiJ(a:Gm):(ng a).l=a.r.map ng:=by cases a;rw[aau];rfl
theorem aiI(a:Gm):(ng a).r=a.l.map ng:=by cases a;rw[aau];rfl
theorem mf:x∈(ng a).l↔∃y,y∈a.r/\x=ng y:=by
 rw[aiJ,aH];exact⟨λ⟨y,h,e⟩=>⟨y,h,e.symm⟩,λ⟨y,h,e⟩=>⟨y,h,e.symm⟩⟩
theorem ma:x∈(ng a).r↔∃y,y∈a.l/\x=ng y:=by
 rw[aiI,aH];exact⟨λ⟨y,h,e⟩=>⟨y,h,e.symm⟩,λ⟨y,h,e⟩=>⟨y,h,e.symm⟩⟩
theorem xZ(a b:Gm):Ge (ng a) (ng b)↔Ge b a:=by
 rw[iD,iD b a];constructor
 .rintro⟨h1,h2⟩
  refine⟨λr hr g=>h2 (ng r) (mf.2 ⟨r,hr,rfl⟩) ((xZ r a).2 g),λl hl g=>h1 (ng l) (ma.2 ⟨l,hl,rfl⟩) ((xZ b l).2 g)⟩
 .rintro⟨h1,h2⟩
  refine⟨λr hr g=>?_,λl hl g=>?_⟩
  .obtain⟨y,hy,rfl⟩:=ma.1 hr
   exact h2 y hy ((xZ b y).1 g)
  .obtain⟨y,hy,rfl⟩:=mf.1 hl
   exact h1 y hy ((xZ y a).1 g)
termination_by SizeOf.sizeOf a+SizeOf.sizeOf b
decreasing_by
 .have:=Gm.jR hr;omega
 .have:=Gm.jT hl;omega
 .have:=Gm.jT hy;omega
 .have:=Gm.jR hy;omega
theorem ac7{b:Gm}(h:iO a b):iO (ng a) (ng b):=⟨(xZ a b).2 h.2,(xZ b a).2 h.1⟩
theorem tH{a b:Gm}(h:Same a b):Same (ng a) (ng b):=by
 rw[same_iff]at h;obtain⟨h1,h2,h3,h4⟩:=h;rw[same_iff];refine⟨λx hx=>?_,λy hy=>?_,λx hx=>?_,λy hy=>?_⟩
 .obtain⟨z,hz,rfl⟩:=mf.1 hx
  obtain⟨y,hy,s⟩:=h3 z hz;exact⟨ng y,mf.2 ⟨y,hy,rfl⟩,tH s⟩
 .obtain⟨z,hz,rfl⟩:=mf.1 hy
  obtain⟨x,hx,s⟩:=h4 z hz;exact⟨ng x,mf.2 ⟨x,hx,rfl⟩,tH s⟩
 .obtain⟨z,hz,rfl⟩:=ma.1 hx
  obtain⟨y,hy,s⟩:=h1 z hz;exact⟨ng y,ma.2 ⟨y,hy,rfl⟩,tH s⟩
 .obtain⟨z,hz,rfl⟩:=ma.1 hy
  obtain⟨x,hx,s⟩:=h2 z hz;exact⟨ng x,ma.2 ⟨x,hx,rfl⟩,tH s⟩
termination_by SizeOf.sizeOf a+SizeOf.sizeOf b
decreasing_by
 .have:=Gm.jR hz;have:=Gm.jR hy;omega
 .have:=Gm.jR hz;have:=Gm.jR hx;omega
 .have:=Gm.jT hz;have:=Gm.jT hy;omega
 .have:=Gm.jT hz;have:=Gm.jT hx;omega
theorem SI(h:BU a):BU (ng a):=by
 obtain⟨h1,h2,h3,h4⟩:=h;refine⟨λx y hx hy g=>?_,λx y hx hy g=>?_,λx hx y hy g=>?_,λx hx y hy g=>?_⟩
 .obtain⟨x',hx',rfl⟩:=mf.1 hx
  obtain⟨y',hy',rfl⟩:=mf.1 hy;exact jH (tH (h2 y' x' hy' hx' ((xZ x' y').1 g)))
 .obtain⟨x',hx',rfl⟩:=ma.1 hx
  obtain⟨y',hy',rfl⟩:=ma.1 hy;exact jH (tH (h1 y' x' hy' hx' ((xZ x' y').1 g)))
 .obtain⟨x',hx',rfl⟩:=mf.1 hx
  obtain⟨y',hy',rfl⟩:=ma.1 hy;exact h4 x' hx' y' hy' ((xZ a y').1 g)
 .obtain⟨x',hx',rfl⟩:=ma.1 hx
  obtain⟨y',hy',rfl⟩:=mf.1 hy;exact h3 x' hx' y' hy' ((xZ y' a).1 g)
theorem Ee{a:Gm}(h:Canon a):Canon (ng a):=by
 refine .mk _ (SI h.tight) (λx hx=>?_) (λx hx=>?_)
 .obtain⟨y,hy,rfl⟩:=mf.1 hx;exact Ee (h.r hy)
 .obtain⟨y,hy,rfl⟩:=ma.1 hx;exact Ee (h.l hy)
termination_by SizeOf.sizeOf a
decreasing_by
 .exact Gm.jR hy
 .exact Gm.jT hy
end Go.Proofs.YteknjeohbcgpdaaGreatDoor.bO
namespace Go.Proofs.YteknjeohbcgpdaaGreatDoor
open bO
theorem fO.neg{F E:dH}{g:Gm}(h:fO F g)(i:fC E)(s:Same (dZ E) (ng (dZ F))):fO E (ng g):=by
 obtain⟨hi,c,h1,h2,h3⟩:=h;exact⟨i,ng c,gU s (tH h1),Ee h2,ac7 h3⟩
end Go.Proofs.YteknjeohbcgpdaaGreatDoor