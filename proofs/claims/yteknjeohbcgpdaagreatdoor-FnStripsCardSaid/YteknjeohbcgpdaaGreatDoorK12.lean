/-
  Plain law of l6Canon: nodes that are equal stand for equal games; what is reached lies among the places told. (4 texts.)
-/
import Derived.Test.YteknjeohbcgpdaaGreatDoorK11
set_option maxRecDepth 100000
namespace Go.Proofs.YteknjeohbcgpdaaGreatDoor
open Tryz
section
open Go.RowKit
open bz (dC Nd vl Ge Gm Canon iK)
variable {w w':World} {kb:Nat}
def UM(pb:Nat)(vn vb:Value)(D:dC)(l r:List Nat)(w:World)(e:Ending)(w':World):Prop:=
 ∃uj wI D' i,e=.returned (.int .i64 ((i:Nat):Int))/\eD w' pb uj wI D'/\fe (kR pb vn vb) w w'/\(∀b,kR pb uj wI b->kR pb vn vb b\/w.heap.size<=b)/\
  (∀b,gy w' uj D'.length b->gy w vn D.length b\/w.heap.size<=b)/\(∃E,D'=D++E/\E.length<=3)/\i<D'.length/\Canon (vl D' i)/\iK (vl D' i) (.mk (l.map (vl D)) (r.map (vl D)))/\Within D l r D' i
theorem gy.ord{po pb gn cn:Nat}{vb:Value}{D:dC}(hO:Ord w po pb kb (.slice (some ⟨gn,0,none⟩) D.length cn) vb D)(hg:w.grownBy w' (some kb)){b:Nat}(h:gy w' (.slice (some ⟨gn,0,none⟩) D.length cn) D.length b):gy w (.slice (some ⟨gn,0,none⟩) D.length cn) D.length b:=by
 obtain⟨i,g,cap,v,hi,he,hc,hv⟩:=h;obtain⟨L,R,h1,_,_⟩:=hO.F9 hi;obtain⟨a1,a2,_⟩:=h1 w (World.grownBy.refl _ _);obtain⟨b1,b2,_⟩:=h1 w' hg;have he':=he;simp only[Value.slice.injEq,bJ,Addr.mk.injEq,and_true,true_and]at he;obtain⟨rfl,rfl⟩:=he;refine⟨i,gn,cn,v,hi,rfl,?_,hv⟩;rcases hc with hc|hc
 .exact .inl (by rw[a1,<-b1];exact hc)
 .exact .inr (by rw[a2,<-b2];exact hc)
theorem gJ(g:w.grownBy w' (some kb)):fe (λb=>b=kb) w w':=⟨g.os,g.tape,g.output,g.size,λk hk hn=>g.block k hk (by intro e;injection e with e;exact hn e)⟩
set_option maxHeartbeats 2000000 in
theorem Lh(pb:Nat)(vn vb:Value)(D:dC)(v u:Value)(l r:List Nat)(w:World)(hB:eD w pb vn vb D)(hv:Ints w v (dx l))(hu:Ints w u (dx r))
 (hl:∀x,x∈l->x<D.length) (hr:∀x,x∈r->x<D.length) (hls:l.length<=1000000) (hrs:r.length<=1000000) (hroom:D.length+3<=1000000)
 (cl:∀x,x∈l->Canon (vl D x)) (cr:∀x,x∈r->Canon (vl D x)):
 Calls prog 131 #[.pointer (some ⟨pb,0,none⟩),v,u] w (UM pb vn vb D l r w):=by
 go_enter Tryz.func131,Tryz.ntmps131
 go_wp2_with (first
  |(go_at_call 134;refine(vK pb vn vb D _ _ l r _ hB hv hu hl hr hls hrs (by omega)).mono ?_;rintro e w1 ⟨pV,vb1,D1,i1,rfl,hB1,hK1,hS1,hQ1,hP1⟩)
  |(go_at_call 173;refine(Jh pb pV vb1 D1 _ hB1).mono ?_;rintro e w2 ⟨po,kb,rfl,hO,hx2,hkb⟩))
 have hi1:i1<D1.length:=(dI.1 hP1.1).1;have ND:D1[i1]=(bE l,bE r):=by have h:=hP1.1;rw[aa hi1]at h;injection h
 obtain⟨gn,cn,_,_,rfl,_,_,_⟩:=hO.lists hi1;obtain⟨L,R,hG,hLk,hRk⟩:=hO.F9 hi1;have hG':=hG;rw[ND]at hG';obtain⟨gL,gR,iL,iR⟩:=hG' w2 (World.grownBy.refl _ _);have c0:=hO.at.cell0;have hds:=hO.at.small;obtain⟨aL,cL,rfl,-⟩:=id iL;obtain⟨aR,cR,rfl,-⟩:=id iR;have hlen1:=hP1.len;have hll:∀x,x∈bE l->x<D1.length:=λx hx=>by have:=hl x (bZ.1 hx);omega
 have hrl:∀x,x∈bE r->x<D1.length:=λx hx=>by have:=hr x (bZ.1 hx);omega
 have gd:w2.grownBy w2.drew (some kb):=⟨rfl,rfl,rfl,ai _,λ_ _ _=>rfl⟩;have hkb2:=hO.Nv;have Gl:w2.cell? ⟨pb,0,none⟩=some (.slice (some ⟨gn,0,none⟩) D1.length cn)/\w2.cell? ⟨gn,i1*2,none⟩=some (.slice aL (dx (bE l)).length cL)/\w2.cell? ⟨gn,i1*2+1,none⟩=some (.slice aR (dx (bE r)).length cR):=⟨c0,gL,gR⟩;go_wp2_with fail
 refine lD (λw'=>w'.cell? ⟨pb,0,none⟩=some (.slice (some ⟨gn,0,none⟩) D1.length cn)/\w'.cell? ⟨gn,i1*2,none⟩=some (.slice aL (dx (bE l)).length cL)/\w'.cell? ⟨gn,i1*2+1,none⟩=some (.slice aR (dx (bE r)).length cR)) [23,24] (by kernel_rfl) Gl (λae=>?_);(refine kW 0 ae ?_;refine kW 1 ae ?_;refine kW 2 ae ?_;refine kW 3 ae ?_;refine kW 4 ae ?_;refine kW 5 ae ?_;refine kW 6 ae ?_;refine kW 7 ae ?_;refine kW 8 ae ?_;refine kW 9 ae ?_;refine kW 10 ae ?_;refine kW 12 ae ?_;refine kW 13 ae ?_;refine kW 14 ae ?_;refine kW 15 ae ?_;refine kW 16 ae ?_;refine kW 17 ae ?_;refine kW 18 ae ?_;refine kW 19 ae ?_;refine kW 20 ae ?_;refine kW 21 ae ?_);(refine stA (i:=11) λK hK=>?_;go_simp);have hw2:=hO.grown (w':=w2.drew) ⟨rfl,rfl,rfl,ai _,λ_ _ _=>rfl⟩;refine(CO po pb kb _ vb1 _ D1 i1 (bE l) true _ hw2 hi1 (hG' _ gd).2.2.1 hLk hll (l6 (jw _))).mono ?_;rintro e w3 ⟨v3,uJ,BL,rfl,uo,E9,hO3,afR,hf3⟩;have g3:=gd.trans afR;obtain⟨s3a,s3b,-,s3c⟩:=hG' w3 g3;(refine hK.out _ _ (λ_=>?_) ?_)
 .exact⟨hO3.at.cell0,s3a,s3b⟩
 clear hK K;(try simp only[nP]);(refine stA (i:=22) λK hK=>?_;go_simp);refine(CO po pb kb _ vb1 _ D1 i1 (bE r) false _ hO3 hi1 s3c hRk hrl (l6 (jw _))).mono ?_;rintro e w4 ⟨v4,uI,BR,rfl,um,E8,hO4,yR,hf4⟩;have g4:=g3.trans yR;obtain⟨s4a,s4b,-,-⟩:=hG' w4 g4;(refine hK.out _ _ (λ_=>?_) ?_)
 .exact⟨hO4.at.cell0,s4a,s4b⟩
 clear hK K;(try simp only[nP]);have hB4:=hO4.at;have bl4:∀x,x∈bE BL->x<D1.length:=λx hx=>E9.lt x (E9.kept x (bZ.1 hx)).1
 have br4:∀x,x∈bE BR->x<D1.length:=λx hx=>E8.lt x (E8.kept x (bZ.1 hx)).1
 have nl4:(bE BL).length<=1000000:=by have:=pW BL;have:=E9.wS;have:=E9.len;omega
 have nr4:(bE BR).length<=1000000:=by have:=pW BR;have:=E8.wS;have:=E8.len;omega
 rw[kI]at uo um;have agx:Ints w4 v3 (dx (bE BL)):=tq uo yR (λb hb=>by have h:=(hf3 b hb).1;have e:w2.drew.heap.size=w2.heap.size:=rfl;omega);refine Yq [23,24] [_,_] ?_
 go_wp2_with (first
  |(go_at_call 134;refine(vK pb _ vb1 D1 _ _ (bE BL) (bE BR) _ hB4 agx um bl4 br4 nl4 nr4 (by omega)).mono ?_;rintro e w5 ⟨Bf,pF,D2,i2,rfl,hB2,hK2,hS2,hQ2,hP2⟩)
  |(go_at_call 173;refine(Jh pb Bf pF D2 _ hB2).mono ?_;rintro e w6 ⟨po2,U9,rfl,XY,hx5,alI⟩
    have hi2:=hP2.lt;obtain⟨gn2,cn2,_,_,rfl,_,_,_⟩:=XY.lists hi2;obtain⟨L2,R2,hG2,agt,agi⟩:=XY.F9 hi2;rw[hP2.node,Iq (jw BL),Iq (jw BR)]at hG2;obtain⟨gL2,gR2,iL2,iR2⟩:=hG2 w6 (World.grownBy.refl _ _);have c02:=XY.at.cell0;have al3:=XY.at.small;obtain⟨Ko,Kn,rfl,-⟩:=id iL2;obtain⟨MG,Mv,rfl,-⟩:=id iR2))
 obtain⟨xb,hxb⟩:∃xb,xb=w6.heap.size:=⟨_,rfl⟩;rw[<-hxb];obtain⟨W,hW⟩:∃W,W=w6.alloc (Obj.cells #[Value.slice Ko (dx (bE BL)).length Kn,Value.slice MG (dx (bE BR)).length Mv] 89):=⟨_,rfl⟩;rw[<-hW];have Y8:=XY.Nv;have cW0:W.cell? ⟨xb,0,none⟩=some (.slice Ko (dx (bE BL)).length Kn):=by rw[hW,hxb];exact World.cell?_alloc_at _ _ _ 0 (by simp)
 have cW1:W.cell? ⟨xb,1,none⟩=some (.slice MG (dx (bE BR)).length Mv):=by rw[hW,hxb];exact World.cell?_alloc_at _ _ _ 1 (by simp)
 have gW:w6.grownBy W none:=by rw[hW];exact World.grownBy_alloc _ _ _
 have gWd:W.grownBy W.drew none:=⟨rfl,rfl,rfl,ai _,λ_ _ _=>rfl⟩;have hOW:=XY.grown (gW.trans gWd);have hxk:xb≠U9:=by omega
 clear hxb hW;have hlW:∀x,x∈bE BL->x<D2.length:=λx hx=>by have:=bl4 x hx;have:=hP2.len;omega
 have hrW:∀x,x∈bE BR->x<D2.length:=λx hx=>by have:=br4 x hx;have:=hP2.len;omega
 have gWk:w6.grownBy W.drew (some U9):=(gW.trans gWd).but _;have ZJ:W.cell? ⟨xb,0,none⟩=some (.slice Ko (dx (bE BL)).length Kn)/\W.cell? ⟨xb,1,none⟩=some (.slice MG (dx (bE BR)).length Mv):=⟨cW0,cW1⟩;refine lD (λw'=>w'.cell? ⟨xb,0,none⟩=some (.slice Ko (dx (bE BL)).length Kn)/\w'.cell? ⟨xb,1,none⟩=some (.slice MG (dx (bE BR)).length Mv)) [15,16] (by kernel_rfl) ZJ (λae=>?_);(refine kW 0 ae ?_;refine kW 1 ae ?_;refine kW 2 ae ?_;refine kW 3 ae ?_;refine kW 4 ae ?_;refine kW 5 ae ?_;refine kW 8 ae ?_;refine kW 9 ae ?_;refine kW 10 ae ?_;refine kW 11 ae ?_;refine kW 12 ae ?_);(refine stA (i:=6) λK hK=>?_;go_simp);obtain⟨-,-,i7,-⟩:=hG2 _ gWk;refine(tZ po2 pb U9 _ pF _ D2 (bE BL) true _ hOW i7 agt hlW nl4).mono ?_;rintro e w7 ⟨v7,zL,rfl,hz7,hd7,hO7,Hf,hf7⟩;have g7:=gWk.trans Hf;have s7a:=Hf.cell ae.1 (by simpa using hxk);have s7b:=Hf.cell ae.2 (by simpa using hxk);(refine hK.out _ _ (λ_=>?_) ?_)
 .exact⟨s7a,s7b⟩
 clear hK K;(try simp only[nP]);(refine stA (i:=7) λK hK=>?_;go_simp);refine(xh _ _ _ _ _ (hG2 _ g7).2.2.1 hz7 (by rw[bu];omega)).mono ?_;rintro e w8 ⟨v8,rfl,hz8,VV,hf8⟩;have g8:=g7.trans ((jh VV).but _);have hO8:=hO7.grown (jh VV);have s8a:=(jh VV).cell s7a (by simp);have s8b:=(jh VV).cell s7b (by simp);(refine hK.out _ _ (λ_=>?_) ?_)
 .exact⟨s8a,s8b⟩
 clear hK K;(try simp only[nP]);(refine stA (i:=13) λK hK=>?_;go_simp);refine(tZ po2 pb U9 _ pF _ D2 (bE BR) false _ hO8 (hG2 _ g8).2.2.2 agi hrW nr4).mono ?_;rintro e w9 ⟨v9,zR,rfl,hz9,hd9,hO9,LX,hf9⟩;have g9:=g8.trans LX;have s9a:=LX.cell s8a (by simpa using hxk);have s9b:=LX.cell s8b (by simpa using hxk);(refine hK.out _ _ (λ_=>?_) ?_)
 .exact⟨s9a,s9b⟩
 clear hK K;(try simp only[nP]);(refine stA (i:=14) λK hK=>?_;go_simp);refine(xh _ _ _ _ _ (hG2 _ g9).2.2.2 hz9 (by rw[bu];omega)).mono ?_;rintro e wa ⟨va,rfl,hza,hxa,hfa⟩;have ga:=g9.trans ((jh hxa).but _);have hOa:=hO9.grown (jh hxa);(refine hK.out _ _ (λ_=>?_) ?_)
 .exact⟨(jh hxa).cell s9a (by simp),(jh hxa).cell s9b (by simp)⟩
 clear hK K;(try simp only[nP]);rw[yc]at hz8 hza;have hBa:=hOa.at;have h8a:Ints wa v8 (dx (Ar (bE BL) zL)):=(tq hz8 LX (λb hb=>by have h:=(hf8 b hb).1;have h7:=Hf.size;have e:W.drew.heap.size=W.heap.size:=rfl;have h6:=gW.size;omega)).ext hxa;have wL:∀x,x∈Ar (bE BL) zL->x∈bE BL:=λx hx=>by obtain⟨i,h,rfl,_⟩:=Br.1 hx;exact ah h
 have wR:∀x,x∈Ar (bE BR) zR->x∈bE BR:=λx hx=>by obtain⟨i,h,rfl,_⟩:=Br.1 hx;exact ah h
 have wl1:(Ar (bE BL) zL).length<=1000000:=by have:=yf (dx (bE BL)) zL (dx (bE BL)).length;have e:=yc (bE BL) zL;unfold qa at e;rw[e,bu,bu]at this;omega
 have wr1:(Ar (bE BR) zR).length<=1000000:=by have:=yf (dx (bE BR)) zR (dx (bE BR)).length;have e:=yc (bE BR) zR;unfold qa at e;rw[e,bu,bu]at this;omega
 have NF:=hP2.len;refine Yq [15,16] [_,_] ?_;go_wp2_with (go_at_call 134;refine(vK pb _ pF D2 _ _ (Ar (bE BL) zL) (Ar (bE BR) zR) _ hBa h8a hza (λx hx=>hlW x (wL x hx)) (λx hx=>hrW x (wR x hx)) wl1 wr1 (by omega)).mono ?_;rintro e w' ⟨vn3,vb3,D3,i3,rfl,hB3,hK3,yX,Tz,hP3⟩)
 go_ret
 have z1:=hK1.size;have z2:=hx2.size;have z4:=g4.size;have z5:=hK2.size;have z6:=hx5.size;have za:=ga.size;have k2:fe (kR pb vn vb) w w2:=hK1.trans (fV hx2) (λ_ _ h=>h);have k4:=k2.trans (gJ g4) (λx hx h=>by subst h;omega);have k5:=k4.trans hK2 (λx hx h=>by rcases hS1 x h with h|h;exact h;omega);have k6:=k5.trans (fV (F:=λ_=>False) hx5) (λ_ _ h=>h.elim);have ka:=k6.trans (gJ ga) (λx hx h=>by subst h;omega);have hSS:∀b,kR pb (.slice (some ⟨gn2,0,none⟩) D2.length cn2) pF b->kR pb vn vb b\/w.heap.size<=b:=λb hb=>by
  rcases hS2 b hb with h|h
  .exact hS1 b h
  .exact .inr (by omega)
 have k7:=ka.trans hK3 (λx hx h=>by rcases hSS x h with h|h;exact h;omega);have hLL:∀b,gy wa (.slice (some ⟨gn2,0,none⟩) D2.length cn2) D2.length b->gy w vn D.length b\/w.heap.size<=b:=λb hb=>by
  have h6:=gy.ord XY ga hb;rcases hQ2 b (gy.back hB2 hx5 h6)with h|h
  .have h2:=gy.ord hO g4 h
   rcases hQ1 b (gy.back hB1 hx2 h2)with h|h
   .exact .inl h
   .exact .inr h
  .exact .inr (by omega)
 refine⟨vn3,vb3,D3,i3,rfl,hB3,k7,?_,λb hb=>?_,OX hB.good hO.at.good XY.at.good hB3.good hP1 hP2 hP3 hl hr cl cr E9 E8 hd7 hd9⟩
 .intro b hb
  rcases yX b hb with h|h
  .exact hSS b h
  .exact .inr (by omega)
 .rcases Tz b hb with h|h
  .exact hLL b h
  .exact .inr (by omega)
end
section
open Go.RowKit
open bz (dC Nd vl)
variable {w w' w0:World} {pb b:Nat} {vn vb uj wI:Value} {D D':dC} {G:Nat->Prop}
structure qy(w0 w:World)(pb:Nat)(vn vb:Value)(D:dC):Prop where
 bk:eD w pb vn vb D
 sep:∀b,kR pb vn vb b->w0.heap.size<=b
 ext:Ext w0 w
structure gZ(w w':World)(pb:Nat)(vn vb:Value)(D:dC)(uj wI:Value)(D':dC):Prop where
 keep:fe (kR pb vn vb) w w'
 ins:∀b,kR pb uj wI b->kR pb vn vb b\/w.heap.size<=b
 lists:∀b,gy w' uj D'.length b->gy w vn D.length b\/w.heap.size<=b
 more:∃E,D'=D++E
theorem gZ.len(h:gZ w w' pb vn vb D uj wI D'):D.length<=D'.length:=by obtain⟨E,rfl⟩:=h.more;simp
theorem gZ.refl(w:World)(pb:Nat)(vn vb:Value)(D:dC):gZ w w pb vn vb D vn vb D:=⟨fe.refl _ _,λ_ h=>.inl h,λ_ h=>.inl h,⟨[],by simp⟩⟩
theorem gZ.trans{a b c:World}{pb:Nat}{v1 u1 v2 u2 v3 u3:Value}{D1 D2 D3:dC}(h:gZ a b pb v1 u1 D1 v2 u2 D2)(k:gZ b c pb v2 u2 D2 v3 u3 D3):gZ a c pb v1 u1 D1 v3 u3 D3:=by
 have hz:=h.keep.size;refine⟨h.keep.trans k.keep (λx hx hi=>by rcases h.ins x hi with h|h;exact h;omega),λx hx=>?_,λx hx=>?_,?_⟩
 .rcases k.ins x hx with h1|h1
  .exact h.ins x h1
  .exact .inr (by omega)
 .rcases k.lists x hx with h1|h1
  .exact h.lists x h1
  .exact .inr (by omega)
 .obtain⟨E,rfl⟩:=h.more
  obtain⟨E',rfl⟩:=k.more;exact⟨E++E',by simp⟩
theorem gZ.ext(hB:eD w pb vn vb D)(hx:Ext w w'):gZ w w' pb vn vb D vn vb D:=⟨fV hx,λ_ h=>.inl h,λ_ h=>.inl (gy.back hB hx h),⟨[],by simp⟩⟩
theorem gZ.K7{l r:List Nat}{i:Nat}(h1:fe (kR pb vn vb) w w')(h2:∀b,kR pb uj wI b->kR pb vn vb b\/w.heap.size<=b)(h3:∀b,gy w' uj D'.length b->gy w vn D.length b\/w.heap.size<=b)(h4:jo D l r D' i):gZ w w' pb vn vb D uj wI D':=
 ⟨h1,h2,h3,by obtain⟨E,h,_⟩:=h4.ext;exact⟨E,h⟩⟩
theorem eD.uK(h:eD w pb vn vb D)(hb:kR pb vn vb b):b<w.heap.size:=by
 obtain⟨xs,ho,_⟩:=h.nodes;rcases hb with rfl|hb|hb
 .exact h.lt
 .exact(ho.lt b hb).2
 .exact(h.born.lt b hb).2
theorem eD.xM(h:eD w pb vn vb D)(hb:gy w vn D.length b):b<w.heap.size/\¬kR pb vn vb b:=by
 obtain⟨i,g,cap,v,hi,he,hc,hv⟩:=hb;obtain⟨g',cap',L,R,he',_,_,c1,c2,_,_,h5,h6⟩:=h.I7 hi;rw[he]at he';simp only[Value.slice.injEq,bJ,Addr.mk.injEq,and_true,true_and]at he';obtain⟨rfl,rfl⟩:=he';rcases hc with hc|hc
 .rw[c1]at hc;injection hc with hc;subst hc;exact⟨(h5 b hv).2,(h5 b hv).1⟩
 .rw[c2]at hc;injection hc with hc;subst hc;exact⟨(h6 b hv).2,(h6 b hv).1⟩
theorem eD.xm(h:eD w pb vn vb D)(hk:fe G w w')(h1:∀b,kR pb vn vb b->¬G b)(h2:∀b,gy w vn D.length b->¬G b):eD w' pb vn vb D:=by
 obtain⟨t,ht⟩:=h.cells;obtain⟨xs,ho,hn⟩:=h.nodes;have hz:=hk.size;refine⟨h.good,h.small,⟨t,?_⟩,bO h.born hk (λb hb=>h1 b (.inr (.inr hb))),⟨xs,bO ho hk (λb hb=>h1 b (.inr (.inl hb))),λi hi=>?_⟩,h.kX,h.mQ,h.mP⟩
 .rw[hk.block pb h.lt (h1 pb (.inl rfl))];exact ht
 .obtain⟨L,R,c1,c2,c3,c4,c5,c6⟩:=hn i hi
  obtain⟨g,cap,he,_,_,hcell⟩:=iB ho (by omega);have hl1:=ho.1;have b1:w.cell? ⟨g,i*2,none⟩=some L:=by rw[hcell _ (by omega),jk];exact c1
  have b2:w.cell? ⟨g,i*2+1,none⟩=some R:=by rw[hcell _ (by omega),jk];exact c2
  refine⟨L,R,c1,c2,vY c3 hk (λb hb=>h2 b ⟨i,g,cap,L,hi,he,.inl b1,hb⟩),vY c4 hk (λb hb=>h2 b ⟨i,g,cap,R,hi,he,.inr b2,hb⟩),λb hb=>⟨(c5 b hb).1,by have:=(c5 b hb).2;omega⟩,λb hb=>⟨(c6 b hb).1,by have:=(c6 b hb).2;omega⟩⟩
theorem gy.xm(h:eD w pb vn vb D)(hk:fe G w w')(h1:∀b,kR pb vn vb b->¬G b)(hb:gy w' vn D.length b):gy w vn D.length b:=by
 obtain⟨i,g,cap,v,hi,he,hc,hv⟩:=hb;obtain⟨xs,ho,_⟩:=h.nodes;have hg:=(ho.lt g (by rw[he];rfl)).2;have e:=hk.block g hg (h1 g (.inr (.inl (by rw[he];rfl))));refine⟨i,g,cap,v,hi,he,?_,hv⟩;rcases hc with hc|hc
 .exact .inl (by rw[<-World.cell?_of_block (w:=w) e];exact hc)
 .exact .inr (by rw[<-World.cell?_of_block (w:=w) e];exact hc)
theorem qy.ext'(h:qy w0 w pb vn vb D)(hx:Ext w w'):qy w0 w' pb vn vb D:=⟨h.bk.ext hx,h.sep,ay h.ext hx⟩
theorem qy.go(h:qy w0 w pb vn vb D)(hB:eD w' pb uj wI D')(hg:gZ w w' pb vn vb D uj wI D'):qy w0 w' pb uj wI D':=by
 have hz:=h.ext.size;refine⟨hB,λb hb=>?_,⟨hg.keep.os.trans h.ext.os,hg.keep.tape.trans h.ext.tape,hg.keep.output.trans h.ext.output,bU hz hg.keep.size,λk hk=>?_⟩⟩
 .rcases hg.ins b hb with h1|h1
  .exact h.sep b h1
  .omega
 .rw[hg.keep.block k (by omega) (λhi=>by have:=h.sep k hi;omega)];exact h.ext.block k hk
structure Beside(w:World)(pb:Nat)(vn vb:Value)(D:dC)(b:Nat):Prop where
 ins:¬kR pb vn vb b
 lists:¬gy w vn D.length b
theorem Beside.go(h:Beside w pb vn vb D b)(hb:b<w.heap.size)(hg:gZ w w' pb vn vb D uj wI D'):Beside w' pb uj wI D' b:=
 ⟨λk=>by rcases hg.ins b k with k|k;exact h.ins k;omega,λk=>by rcases hg.lists b k with k|k;exact h.lists k;omega⟩
theorem Beside.new(h:eD w pb vn vb D)(hb:w.heap.size<=b):Beside w pb vn vb D b:=
 ⟨λk=>by have:=h.uK k;omega,λk=>by have:=(h.xM k).1;omega⟩
theorem Beside.Hl(h:Beside w pb vn vb D b)(hB:eD w pb vn vb D)(hx:Ext w w'):Beside w' pb vn vb D b:=⟨h.ins,λk=>h.lists (gy.back hB hx k)⟩
theorem Beside.row{X:World}{vn0 vb0:Value}{D0:dC}{v v':Value}(hG:gZ w0 w pb vn0 vb0 D0 vn vb D)(hB:eD w pb vn vb D)(h:∀b,v.ownBlock=some b->w0.heap.size<=b/\Beside w pb vn vb D b)(hX:Ext w X)(hg:X.grownBy w' v.ownBlock)(hl:mM X v v'):
 eD w' pb vn vb D/\gZ w0 w' pb vn0 vb0 D0 vn vb D/\(∀b,v'.ownBlock=some b->w0.heap.size<=b/\Beside w' pb vn vb D b)/\(∀b,Beside w pb vn vb D b->Beside w' pb vn vb D b):=by
 have hk:fe (λb=>v.ownBlock=some b) w w':=⟨hg.os.trans hX.os,hg.tape.trans hX.tape,hg.output.trans hX.output,bU hX.size hg.size,λk hk hn=>by rw[hg.block k (aQ hk hX.size) (λe=>hn e.symm)];exact hX.block k hk⟩;have hB':=hB.xm hk (λb hb e=>(h b e).2.ins hb) (λb hb e=>(h b e).2.lists hb);have hL:∀b,gy w' vn D.length b->gy w vn D.length b:=λb hb=>gy.xm hB hk (λb hb e=>(h b e).2.ins hb) hb
 have hz:=hG.keep.size;have hzX:=hX.size;refine⟨hB',⟨hG.keep.trans hk (λx hx e=>by have:=(h x e).1;omega),hG.ins,λb hb=>hG.lists b (hL b hb),hG.more⟩,λb hb=>?_,λb hb=>⟨hb.ins,λk=>hb.lists (hL b k)⟩⟩;rcases hl with h1|⟨g,h1,h2⟩
 .rw[h1]at hb
  obtain⟨a,c⟩:=h b hb;exact⟨a,c.ins,λk=>c.lists (hL b k)⟩
 .rw[h1]at hb;injection hb with hb;subst hb
  exact⟨by omega,λk=>by have:=hB.uK k;omega,λk=>by have:=(hB.xM (hL _ k)).1;omega⟩
end
section
open Go.RowKit
open bz (dC Nd vl Same)
variable {at_:List Nat} {k i:Nat} {D D' F:dC}
def Xv(pb:Nat)(vn vb:Value)(D F:dC)(w:World)(e:Ending)(w':World):Prop:=
 ∃v' uj wI D' at_,e=.returned v'/\Ints w' v' (dx at_)/\eD w' pb uj wI D'/\gZ w w' pb vn vb D uj wI D'/\D'.length<=D.length+F.length/\at_.length=F.length/\(∀i (h:i<at_.length),at_[i]<D'.length/\Same (vl D' at_[i]) (vl F i))
theorem GH{l:List Nat}{n:Nat}(hl:∀x,x∈l->x<k)(ha:at_.length=k)(hat:∀i (h:i<at_.length),at_[i]<n):∀x,x∈l.map (λx=>at_.getD x 0)->x<n:=by
 intro x hx;obtain⟨y,hy,rfl⟩:=aI.1 hx;have:=hl y hy;rw[aV,aa (by omega),gz];exact hat y (by omega)
theorem Rn(g:bz.WF D)(g':bz.WF D')(hF:bz.WF F)(hk:k<F.length)(ha:at_.length=k)(hat:∀i (h:i<at_.length),at_[i]<D.length/\Same (vl D at_[i]) (vl F i))
 (hp:jo D ((F[k]).1.map λx=>at_.getD x 0) ((F[k]).2.map λx=>at_.getD x 0) D' i):Same (vl D' i) (vl F k):=by
 have dk:F[k]?=some F[k]:=aa hk;have hw:=hF k _ dk;have key:∀x,x<k->at_.getD x 0<D.length/\Same (vl D' (at_.getD x 0)) (vl F x):=λx hx=>by
  have e:at_.getD x 0=at_[x]'(by omega):=by rw[aV,aa (by omega)];rfl
  have h:=hat x (by omega);rw[e,hp.vl g g' h.1];exact h
 rw[bz.same_iff,bz.om g' hp.1,bz.oh g' hp.1,bz.om hF dk,bz.oh hF dk];refine⟨λy hy=>?_,λy hy=>?_,λy hy=>?_,λy hy=>?_⟩
 .obtain⟨x,hx,rfl⟩:=aI.1 hy
  obtain⟨z,hz,rfl⟩:=aI.1 (bZ.1 hx);exact⟨_,aW hz,(key z (hw.1 z hz)).2⟩
 .obtain⟨z,hz,rfl⟩:=aI.1 hy
  exact⟨_,aW (bZ.2 (aW hz)),(key z (hw.1 z hz)).2⟩
 .obtain⟨x,hx,rfl⟩:=aI.1 hy
  obtain⟨z,hz,rfl⟩:=aI.1 (bZ.1 hx);exact⟨_,aW hz,(key z (hw.2 z hz)).2⟩
 .obtain⟨z,hz,rfl⟩:=aI.1 hy
  exact⟨_,aW (bZ.2 (aW hz)),(key z (hw.2 z hz)).2⟩
theorem O0(g:bz.WF D)(g':bz.WF D')(h:∃E,D'=D++E)(hat:∀i (h:i<at_.length),at_[i]<D.length/\Same (vl D at_[i]) (vl F i)):∀i (h:i<at_.length),at_[i]<D'.length/\Same (vl D' at_[i]) (vl F i):=by
 obtain⟨E,rfl⟩:=h;intro i hi;obtain⟨a,b⟩:=hat i hi;exact⟨by simp;omega,by rw[bz.ib g g' _ a];exact b⟩
theorem uA{P:Nat->Nat->Prop}(h:∀j (h:j<at_.length),P at_[j] j)(hi:P i at_.length):∀j (h:j<(at_++[i]).length),P (at_++[i])[j] j:=by
 intro j hj;by_cases c:j<at_.length
 .rw[dM c];exact h j c
 .have e:j=at_.length:=by simp at hj;omega
  subst e;rw[eB (ai _)];simpa using hi
set_option maxHeartbeats 2000000 in
theorem Xb(pb:Nat)(vn vb:Value)(D:dC)(vf:Value)(F:dC)(w0 w:World)(hB:qy w0 w pb vn vb D)(hf:eX w0 0 vf F)(hF:bz.Good F)(hroom:D.length+F.length<=1000000):
 Calls prog 182 #[.pointer (some ⟨pb,0,none⟩),.agg #[vf]] w (Xv pb vn vb D F w):=by
 obtain⟨i0,hi0,hz0,hz1,hz2⟩:=info_parts iy;obtain⟨aF,iJ,rfl,-⟩:=id hf;have hGF:=aH hF;go_enter Tryz.func182,Tryz.ntmps182
 go_wp2
 have hE2:Ext w ((w.alloc (.cells #[.slice aF F.length iJ] 28)).alloc (.cells #[] 3)):=by go_grown
 go_loopw [5,6] (λav kk wr=>∃k uj wI D' at_,k<=F.length/\kk=.int .i64 ((k:Nat):Int)/\at_.length=k/\wr.ownsRow w.heap.size 3 1 av k ((dx at_).map (Value.int .i64))/\eD wr pb uj wI D'/\gZ w wr pb vn vb D uj wI D'/\D'.length<=D.length+k/\
  (∀b,av.ownBlock=some b->w.heap.size<=b/\Beside wr pb uj wI D' b)/\wr.heap[w.heap.size]?=some (.cells #[.slice aF F.length iJ] 28 (0,0))/\Beside wr pb uj wI D' w.heap.size/\av.ownBlock≠some w.heap.size/\Hid (∀i (h:i<at_.length),at_[i]<D'.length/\Same (vl D' at_[i]) (vl F i))) (λ_ kk _=>F.length-(intOf kk).toNat)
 case atStart=>
  refine⟨0,vn,vb,D,[],az _,rfl,rfl,lM w _ _ (ai _) _,hB.bk.ext hE2,gZ.ext hB.bk hE2,ai _,λb hb=>?_,?_,?_,?_,λi h=>absurd h (by simp)⟩
  .simp[Value.ownBlock]at hb;subst hb
   exact⟨by omega,(Beside.new hB.bk (b:=w.heap.size+1) (by omega)).Hl hB.bk hE2⟩
  .rw[Below.heap_alloc _ _ _ (by rw[fw];omega)];exact heap_alloc_new _ _
  .exact(Beside.new hB.bk (ai _)).Hl hB.bk hE2
  .simp[Value.ownBlock]
 case round=>
  obtain⟨k,pV,vb1,D1,at_,hk,rfl,hal,hown,hB1,hG1,hD1,yV,lC,hbb,hne,HA⟩:=hrel;have Kj:=hB.go hB1 hG1;have agZ:=cell_of_row wr w.heap.size 0 _ _ _ lC;by_cases hlt:k<F.length
  .have hlt':((k:Nat):Int)<(F.length:Int):=by omega
   obtain⟨bF,cF,aL,cL,aR,cR,he,NI,cl,cr,uo,um⟩:=hf.at hlt;simp only[Value.slice.injEq]at he;obtain⟨rfl,-,rfl⟩:=he;have gl:=rO hGF.out hlt;have hwk:=hGF.out.wf k _ (aa hlt)
   have pq:∀W,Ext w0 W->W.heap[w.heap.size]?=some (.cells #[.slice (some ⟨bF,0,none⟩) F.length iJ] 28 (0,0))->W.cell? ⟨w.heap.size,0,none⟩=some (.slice (some ⟨bF,0,none⟩) F.length iJ)/\W.cell? ⟨bF,k*2,none⟩=some (.slice aL (F[k]).1.length cL)/\W.cell? ⟨bF,k*2+1,none⟩=some (.slice aR (F[k]).2.length cR):=
    λW h1 h2=>⟨cell_of_row W w.heap.size 0 _ _ _ h2,(h1.cell (lt_of_cell cl)).trans cl,(h1.cell (lt_of_cell cr)).trans cr⟩
   have hS0:=pq wr Kj.ext lC;obtain⟨aA,cA,rfl,hcA,_⟩:=bD hown;have hx0:Ext wr wr.drew:=⟨rfl,rfl,rfl,ai _,λ_ _=>rfl⟩;have JD:=Ints.eO (l:=dx at_) hown (by rw[bu];have:=hB1.small;omega);have MN:=aH JD;have HOWN:=aH hown;have HB1:=aH hB1;have Yk:=aH hG1;have Xu:=aH Kj;have Qd:=aH yV;have GZ:=aH lC;have GV:=aH hne;have xB:=aH hal;have HD1:=aH hD1;have Xp:=aH gl;have UU:=aH hwk;have HIL:=aH uo;have HIR:=aH um;clear hown hB1 hG1 Kj yV lC hne hal JD uo um cl cr NI hD1 gl hwk;go_wp2_with fail
   refine lD (λW=>W.cell? ⟨w.heap.size,0,none⟩=some (.slice (some ⟨bF,0,none⟩) F.length iJ)/\W.cell? ⟨bF,k*2,none⟩=some (.slice aL (F[k]).1.length cL)/\W.cell? ⟨bF,k*2+1,none⟩=some (.slice aR (F[k]).2.length cR)) [20,21] (by kernel_rfl) hS0 (λae=>?_);(refine kW 0 ae ?_;refine kW 1 ae ?_;refine kW 2 ae ?_;refine kW 3 ae ?_;refine kW 4 ae ?_;refine kW 5 ae ?_;refine kW 6 ae ?_;refine kW 7 ae ?_;refine kW 8 ae ?_;refine kW 10 ae ?_;refine kW 11 ae ?_;refine kW 12 ae ?_;refine kW 13 ae ?_;refine kW 14 ae ?_;refine kW 15 ae ?_;refine kW 16 ae ?_);(refine stA (i:=9) λK hK=>?_;go_simp);have hlen1:(dx (F[k]).1).length<=1000000000:=(by rw[bu];have:=Xp.out.1;omega);have NF:(dx (F[k]).2).length<=1000000000:=(by rw[bu];have:=Xp.out.2;omega);have Uy:∀x,x∈dx (F[k]).1->0<=x/\x<(dx at_).length:=λx hx=>by obtain⟨n,hn,rfl⟩:=ni hx;have:=UU.out.1 n hn;rw[bu,xB.out];omega
   have Ux:∀x,x∈dx (F[k]).2->0<=x/\x<(dx at_).length:=λx hx=>by obtain⟨n,hn,rfl⟩:=ni hx;have:=UU.out.2 n hn;rw[bu,xB.out];omega
   refine(rE _ _ (dx at_) (dx (F[k]).1) _ (MN.out.ext hx0) (HIL.out.ext (ay Xu.out.ext hx0)) Uy hlen1).mono ?_;rintro e w1 ⟨v1,rfl,hI1,hx1⟩;have CZ:=ay hx0 hx1;(refine hK.out _ _ (λ_=>?_) ?_)
   .exact pq _ (ay Xu.out.ext CZ) (by rw[CZ.block _ (bG GZ.out)];exact GZ.out)
   clear hK K;(try simp only[nP]);(refine stA (i:=17) λK hK=>?_;go_simp);refine(rE _ _ (dx at_) (dx (F[k]).2) _ (MN.out.ext CZ) (HIR.out.ext (ay Xu.out.ext CZ)) Ux NF).mono ?_;rintro e w2 ⟨v2,rfl,hI2,hx2⟩;have rH:=ay CZ hx2;have yT:w2.heap[w.heap.size]?=some (.cells #[.slice (some ⟨bF,0,none⟩) F.length iJ] 28 (0,0)):=(by rw[rH.block _ (bG GZ.out)];exact GZ.out);(refine hK.out _ _ (λ_=>?_) ?_)
   .exact pq _ (ay Xu.out.ext rH) yT
   clear hK K;(try simp only[nP]);have Mh:=hI1.ext hx2;rw[BO]at Mh hI2;have hB2:=HB1.out.ext rH;have Tu:∀i (h:i<at_.length),at_[i]<D1.length:=λi h=>(HA.out i h).1
   have hG2:=Yk.out.trans (gZ.ext HB1.out rH);have yU:∀b,Value.ownBlock (.slice aA k cA)=some b->w.heap.size<=b/\Beside w2 pb pV vb1 D1 b:=λb hb=>⟨(Qd.out b hb).1,(Qd.out b hb).2.Hl HB1.out rH⟩
   have Ea:=hbb.Hl HB1.out rH;have hown2:=dn HOWN.out rH;(refine stA (i:=18) λK hK=>?_;go_simp);refine(vK pb pV vb1 D1 _ _ _ _ _ hB2 Mh hI2 (GH UU.out.1 xB.out Tu) (GH UU.out.2 xB.out Tu) (by simp;have:=Xp.out.1;omega) (by simp;have:=Xp.out.2;omega) (by have:=HD1.out;omega)).mono ?_;rintro e w3 ⟨Bf,pF,D2,i2,rfl,hB3,hK3,yX,Tz,hP3⟩;have iX:=gZ.K7 hK3 yX Tz hP3;have pI:w3.heap[w.heap.size]?=some (.cells #[.slice (some ⟨bF,0,none⟩) F.length iJ] 28 (0,0)):=(by rw[hK3.block _ (bG yT) Ea.ins];exact yT);have hG3:=hG2.trans iX;have Ec:=hB.go hB3 hG3;(refine hK.out _ _ (λ_=>?_) ?_)
   .exact pq _ Ec.ext pI
   clear hK K;(try simp only[nP]);(refine stA (i:=19) λK hK=>?_;go_simp);have hx4:Ext w3 (w3.alloc (.cells #[.int .i64 ((i2:Nat):Int)] 3)):=(by go_grown);(refine hK.out _ _ (λ_=>?_) ?_)
   .exact pq _ (ay Ec.ext hx4) (by rw[hx4.block _ (bG pI)];exact pI)
   clear hK K;(try simp only[nP]);have hown3:=bO hown2 hK3 (λb hb=>(yU b hb).2.ins);have YI:=hG3.keep.size;refine Yq [20,21] [_,_] ?_;refine bQ rfl (.tmp 15) (.tmp 34) 80 rfl w.heap.size 3 i0 (.int .i64 0) 1 8 underlying80 hi0 hz0 hz1 hz2 rfl (by decide) (.slice aA k cA) k ((dx at_).map (Value.int .i64)) rfl (dn hown3 hx4) _ 1 _ [.int .i64 ((i2:Nat):Int)] rfl rfl (.inr ⟨_,rfl,cK (bP _ _ _)⟩) one_cell (by unfold maxLen;omega) (by omega) (by rw[fw];omega) ?_;intro v5 w5 fI hg5 hl5;have rM:∀b,Value.ownBlock (.slice aA k cA)=some b->w.heap.size<=b/\Beside w3 pb Bf pF D2 b:=λb hb=>⟨(yU b hb).1,(yU b hb).2.go (hown2.lt b hb).2 iX⟩
   have Tt:=Ea.go (bG yT) iX;obtain⟨TJ,Ke,uQ,hside⟩:=Beside.row hG3 hB3 rM hx4 hg5 hl5;have Tq:=hside _ Tt;have yS:w5.heap[w.heap.size]?=some (.cells #[.slice (some ⟨bF,0,none⟩) F.length iJ] 28 (0,0)):=by
    rw[hg5.block _ (by rw[fw];have:=bG pI;omega) (λe=>GV.out e.symm),hx4.block _ (bG pI)];exact pI
   have hne5:v5.ownBlock≠some w.heap.size:=by
    rcases hl5 with h|⟨g,h,h2⟩
    .rw[h];exact GV.out
    .rw[h];intro e;injection e with e;rw[fw]at h2;have:=bG pI;omega
   have hlen:D2.length<=D.length+(k+1):=by have:=hP3.len;have:=HD1.out;omega
   have hsame:Hid (∀j (h:j<(at_++[i2]).length),(at_++[i2])[j]<D2.length/\Same (vl D2 (at_++[i2])[j]) (vl F j)):=
    uA (P:=λa j=>a<D2.length/\Same (vl D2 a) (vl F j)) (O0 HB1.out.good.wf hB3.good.wf iX.more HA.out) ⟨hP3.lt,by rw[xB.out];exact Rn HB1.out.good.wf hB3.good.wf hGF.out.wf hlt xB.out HA.out hP3⟩
   have H5:=aH TJ;have H6:=aH Ke;have H7:=aH uQ;have H8:=aH yS;have H9:=aH Tq;have H10:=aH hne5;have H11:=aH fI;have H12:=aH hlen;clear TJ Ke uQ yS Tq hne5 fI hlen hg5 hl5 hside rM Tt iX pI hG3 Ec hx4 hown3 hB3 hK3 yX Tz yU Ea hown2 hG2 hB2 ae;(try simp only[nP]);go_wp2_with fail
   go_roundw
   case rel=>exact⟨k+1,Bf,pF,D2,at_++[i2],by omega,by go_num,by rw[aj,xB.out];rfl,by simpa [dx]using H11.out,H5.out,H6.out,H12.out,H7.out,H8.out,H9.out,H10.out,hsame⟩
   case measure=>simp[intOf];omega
  .have hke:k=F.length:=by omega
   have hlt':¬(((k:Nat):Int)<(F.length:Int)):=(by omega);obtain⟨aA,cA,rfl,hcA,_⟩:=bD hown;have JD:=Ints.eO (l:=dx at_) hown (by rw[bu];have:=hB1.small;omega);have MN:=aH JD;have HB1:=aH hB1;have Yk:=aH hG1;have HKE:=aH hke;clear hown hB1 hG1 yV lC hne JD hke;go_wp2
   go_ret
   exact⟨_,pV,vb1,D1,at_,rfl,MN.out,HB1.out,Yk.out,by have:=HKE.out;omega,by rw[hal];exact HKE.out,HA.out⟩
def UJ(pb:Nat)(vn vb:Value)(D F:dC)(w:World)(e:Ending)(w':World):Prop:=
 ∃uj wI D' i,e=.returned (.int .i64 ((i:Nat):Int))/\eD w' pb uj wI D'/\gZ w w' pb vn vb D uj wI D'/\D'.length<=D.length+F.length/\i<D'.length/\Same (vl D' i) (bz.eu F)
set_option maxHeartbeats 2000000 in
theorem Cj(pb:Nat)(vn vb:Value)(D:dC)(vf:Value)(F:dC)(w0 w:World)(hB:qy w0 w pb vn vb D)(hf:eX w0 0 vf F)(hF:bz.Good F)(h0:0<F.length)(hroom:D.length+F.length<=1000000):
 Calls prog 138 #[.pointer (some ⟨pb,0,none⟩),.agg #[vf]] w (UJ pb vn vb D F w):=by
 obtain⟨aF,iJ,rfl,-⟩:=id hf;have hx:Ext w (w.alloc (.cells #[.slice aF F.length iJ] 28)):=by go_grown
 have hB1:=hB.ext' hx;go_enter Tryz.func138,Tryz.ntmps138
 have hwr:wrap64 ((F.length:Int)-1)=((F.length-1:Nat):Int):=by unfold wrap64;omega
 go_wp2_with (first
  |(go_at_call 182;refine(Xb pb vn vb D _ F w0 _ hB1 hf hF hroom).mono ?_;rintro e w1 ⟨v1,pV,vb1,D1,at_,rfl,hI,hB2,hG2,hD2,hal,hat⟩
    have e9:(dx at_).length=F.length:=(by rw[bu,hal]);obtain⟨a1,c1,rfl,hc1,hm1,hcell⟩:=hI;rw[e9]at hc1 hm1 hcell ⊢;obtain⟨b,off,rfl,hcc⟩:=hcell h0;have hc2:=hcc (F.length-1) (by omega);rw[fT (by omega)]at hc2))
 go_ret
 have hlast:=hat (F.length-1) (by omega);exact⟨pV,vb1,D1,_,rfl,hB2,(gZ.ext hB.bk hx).trans hG2,hD2,hlast.1,hlast.2⟩
end
section
open bz
variable {l at_:List Nat} {D F:dC} {k:Nat}
theorem TV{r:List Nat}{f g:Nat->Gm}(hl:∀x,x∈l->iK (f x) (g x))(hr:∀x,x∈r->iK (f x) (g x)):iK (.mk (l.map f) (r.map f)) (.mk (l.map g) (r.map g)):=by
 constructor
 .refine A8 (λy hy=>?_) (λy hy=>?_)
  .obtain⟨x,hx,rfl⟩:=aI.1 hy;exact .inl ⟨g x,aW hx,(hr x hx).1⟩
  .obtain⟨x,hx,rfl⟩:=aI.1 hy;exact .inl ⟨f x,aW hx,(hl x hx).1⟩
 .refine A8 (λy hy=>?_) (λy hy=>?_)
  .obtain⟨x,hx,rfl⟩:=aI.1 hy;exact .inl ⟨f x,aW hx,(hr x hx).2⟩
  .obtain⟨x,hx,rfl⟩:=aI.1 hy;exact .inl ⟨g x,aW hx,(hl x hx).2⟩
theorem BM{n:Nat}{R:Nat->Nat->Prop}(h:∀i,i<n->∃j,j∈at_/\R i j)(hu:∀i i' j,i<n->i'<n->R i j->R i' j->i=i'):n<=at_.length:=by
 classical
 have h1:∀i,∃k,i<n->∃hk:k<at_.length,R i at_[k]:=λi=>by
  by_cases c:i<n
  .obtain⟨j,hj,hr⟩:=h i c
   obtain⟨k,hk,rfl⟩:=aO.1 hj;exact⟨k,λ_=>⟨hk,hr⟩⟩
  .exact⟨0,λc'=>absurd c' c⟩
 have h2:((List.range n).map λi=>Classical.choose (h1 i)).Nodup:=by
  rw[List.Nodup,jl];refine ig (R:=λa b=>a<b) ?_ List.pairwise_lt_range;intro a b ha hb hab e;have ha':=dA.1 ha;have hb':=dA.1 hb;obtain⟨k1,r1⟩:=Classical.choose_spec (h1 a) ha';obtain⟨k2,r2⟩:=Classical.choose_spec (h1 b) hb';have:a=b:=hu a b _ ha' hb' r1 (by simp only[e];exact r2);omega
 have h3:=jY (n:=at_.length) h2 (λx hx=>by
  obtain⟨i,hi,rfl⟩:=aI.1 hx;exact(Classical.choose_spec (h1 i) (dA.1 hi)).1)
 simpa using h3
theorem xR{F':dC}{root:Nat}(g:bz.Good D)(hr:root<D.length)(hF:fq F')(hs:Same (eu F') (vl D root))(hroot:root∈at_)(hc:∀j side x,j∈at_->x∈opt D side j->x∈at_):F'.length<=at_.length:=by
 have hin:∀j,bz.Reach D root j->j∈at_:=by
  intro j h
  induction h with
  |here=>exact hroot
  | @left j k nd _ hd hk ih=>exact hc j true k ih (by simp[opt,hd];exact hk)
  | @right j k nd _ hd hk ih=>exact hc j false k ih (by simp[opt,hd];exact hk)
 refine BM (R:=λi j=>Same (vl F' i) (vl D j)) (λi hi=>?_) (λi i' j hi hi' h1 h2=>mW hF.good i i' hi hi' (ik h1 (kJ h2)));obtain⟨j,_,rj,sj⟩:=sO hF.good g hr hs (hF.reach i hi);exact⟨j,hin j rj,sj⟩
structure Ej(D F:dC)(at_:List Nat):Prop where
 lt:∀i (h:i<at_.length),at_[i]<D.length
 canon:∀i (h:i<at_.length),Canon (vl D at_[i])
 eqv:∀i (h:i<at_.length),iK (vl D at_[i]) (vl F i)
 shut:∀j side x,j∈at_->x∈opt D side j->x∈at_
theorem Ej.nil(F:dC):Ej [] F []:=⟨λi h=>absurd h (by simp),λi h=>absurd h (by simp),λi h=>absurd h (by simp),by simp⟩
theorem Ej.next{D':dC}{i:Nat}(g:bz.WF D)(g':bz.WF D')(hF:WF F)(hk:k<F.length)(ha:at_.length=k)(h:Ej D F at_)(hE:∃E,D'=D++E/\E.length<=3)(hi:i<D'.length)(hc:Canon (vl D' i))
 (he:iK (vl D' i) (.mk (((F[k]).1.map λx=>at_.getD x 0).map (vl D)) (((F[k]).2.map λx=>at_.getD x 0).map (vl D)))) (hw:Within D ((F[k]).1.map λx=>at_.getD x 0) ((F[k]).2.map λx=>at_.getD x 0) D' i):Ej D' F (at_++[i]):=by
 obtain⟨E,rfl,_⟩:=hE;have dk:F[k]?=some F[k]:=aa hk;have hwk:=hF k _ dk;have key:∀x,x<k->∃hx:x<at_.length,at_.getD x 0=at_[x]:=λx hx=>⟨by omega,by rw[aV,aa (by omega)];rfl⟩
 refine⟨uA (P:=λa _=>a<(D++E).length) (λj hj=>by have:=h.lt j hj;simp;omega) hi,uA (P:=λa _=>Canon (vl (D++E) a)) (λj hj=>by rw[ib g g' _ (h.lt j hj)];exact h.canon j hj) hc,
  uA (P:=λa j=>iK (vl (D++E) a) (vl F j)) (λj hj=>by rw[ib g g' _ (h.lt j hj)];exact h.eqv j hj) ?_,λj side x hj hx=>?_⟩
 .rw[ha]
  refine he.trans ?_;rw[nO hF dk,jC,jC];refine TV (λx hx=>?_) (λx hx=>?_)
  .obtain⟨hl,e⟩:=key x (hwk.1 x hx)
   show iK (vl D (at_.getD x 0)) _;rw[e];exact h.eqv x hl
  .obtain⟨hl,e⟩:=key x (hwk.2 x hx)
   show iK (vl D (at_.getD x 0)) _;rw[e];exact h.eqv x hl
 .have hm:∀l:List Nat,(∀x,x∈l->x<k)->∀y,y∈l.map (λx=>at_.getD x 0)->y∈at_:=λl hl y hy=>by
   obtain⟨x,hx,rfl⟩:=aI.1 hy;obtain⟨hl',e⟩:=key x (hl x hx);rw[e];exact ah hl'
  rcases aK.1 hj with hj|hj
  .have hlt:j<D.length:=by obtain⟨q,hq,rfl⟩:=aO.1 hj;exact h.lt q hq
   rw[oJ hlt]at hx;exact sJ _ (h.shut j side x hj hx)
  .obtain rfl:j=i:=by simpa using hj
   exact sJ _ (hw (λy=>y∈at_) (λa sd y ha hy=>h.shut a sd y ha hy) (hm _ hwk.1) (hm _ hwk.2) side x hx)
theorem JX(h:Ej D F at_)(hl:∀x,x∈l->x<k)(ha:at_.length=k):∀x,x∈l.map (λx=>at_.getD x 0)->Canon (vl D x):=by
 intro x hx;obtain⟨y,hy,rfl⟩:=aI.1 hx;have hlt:y<at_.length:=by have:=hl y hy;omega
 have e:at_.getD y 0=at_[y]:=by rw[aV,aa hlt];rfl
 rw[e];exact h.canon y hlt
end
end Go.Proofs.YteknjeohbcgpdaaGreatDoor