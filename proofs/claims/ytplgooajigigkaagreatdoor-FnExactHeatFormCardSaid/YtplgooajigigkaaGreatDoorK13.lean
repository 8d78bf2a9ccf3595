/- 13 -/
import Derived.Test.YtplgooajigigkaaGreatDoorK12
set_option maxRecDepth 100000
set_option maxHeartbeats 4000000
namespace Go.Proofs.YtplgooajigigkaaGreatDoor
open Tryz
section
open Go.RowKit
open bE (dh Nd vl Ge Gm Canon jc)
variable {w w':World} {kb:Nat}
def YK(pb:Nat)(vn vb:Value)(D:dh)(l r:List Nat)(w:World)(e:Ending)(w':World):Prop:=
 ∃uL wB D' i,e=.returned (.int .i64 ((i:Nat):Int))/\fB w' pb uL wB D'/\fJ (xE pb vn vb) w w'/\(∀b,xE pb uL wB b->xE pb vn vb b\/w.heap.size<=b)/\
  (∀b,iO w' uL D'.length b->iO w vn D.length b\/w.heap.size<=b)/\(∃E,D'=D++E/\E.length<=3)/\i<D'.length/\Canon (vl D' i)/\jc (vl D' i) (.mk (l.map (vl D)) (r.map (vl D)))/\Within D l r D' i
theorem iO.ord{po pb gn cn:Nat}{vb:Value}{D:dh}(hO:Ord w po pb kb (.slice (some ⟨gn,0,none⟩) D.length cn) vb D)(hg:w.grownBy w' (some kb)){b:Nat}(h:iO w' (.slice (some ⟨gn,0,none⟩) D.length cn) D.length b):iO w (.slice (some ⟨gn,0,none⟩) D.length cn) D.length b:=by
 obtain⟨i,g,cap,v,hi,he,hc,hv⟩:=h;obtain⟨L,R,h1,_,_⟩:=hO.Jw hi;obtain⟨a1,a2,_⟩:=h1 w (World.grownBy.refl _ _);obtain⟨b1,b2,_⟩:=h1 w' hg;have he':=he;simp only[il,bU,Addr.mk.injEq,and_true,true_and]at he;obtain⟨rfl,rfl⟩:=he;refine⟨i,gn,cn,v,hi,rfl,?_,hv⟩;rcases hc with hc|hc
 .exact .inl (by rw[a1,<-b1];exact hc)
 .exact .inr (by rw[a2,<-b2];exact hc)
theorem jA(g:w.grownBy w' (some kb)):fJ (λb=>b=kb) w w':=⟨g.os,g.tape,g.output,g.size,λk hk hn=>g.block k hk (by intro e;injection e with e;exact hn e)⟩
theorem Og(pb:Nat)(vn vb:Value)(D:dh)(v u:Value)(l r:List Nat)(w:World)(hB:fB w pb vn vb D)(hv:Ints w v (dB l))(hu:Ints w u (dB r))
 (hl:∀x,x∈l->x<D.length) (hr:∀x,x∈r->x<D.length) (hls:l.length<=1000000) (hrs:r.length<=1000000) (hroom:D.length+3<=1000000)
 (cl:∀x,x∈l->Canon (vl D x)) (cr:∀x,x∈r->Canon (vl D x)):
 Calls prog 68 #[.pointer (some ⟨pb,0,none⟩),v,u] w (YK pb vn vb D l r w):=by
 go_enter Tryz.func68,Tryz.ntmps68
 go_wp2_with (first
  |(go_at_call 114;refine(qN pb vn vb D _ _ l r _ hB hv hu hl hr hls hrs (by omega)).mono ?_;rintro e w1 ⟨rY,vb1,D1,i1,rfl,hB1,hK1,hS1,hQ1,hP1⟩)
  |(go_at_call 115;refine(LB pb rY vb1 D1 _ hB1).mono ?_;rintro e w2 ⟨po,kb,rfl,hO,hx2,hkb⟩))
 have hi1:i1<D1.length:=(df.1 hP1.1).1;have agG:D1[i1]=(bO l,bO r):=by have h:=hP1.1;rw[af hi1]at h;injection h
 obtain⟨gn,cn,_,_,rfl,_,_,_⟩:=hO.lists hi1;obtain⟨L,R,hG,hLk,hRk⟩:=hO.Jw hi1;have hG':=hG;rw[agG]at hG';obtain⟨gL,gR,iL,iR⟩:=hG' w2 (World.grownBy.refl _ _);have c0:=hO.at.cell0;have hds:=hO.at.small;obtain⟨aL,cL,rfl,-⟩:=id iL;obtain⟨aR,cR,rfl,-⟩:=id iR;have hlen1:=hP1.len;have hll:∀x,x∈bO l->x<D1.length:=λx hx=>by have:=hl x (cz.1 hx);omega
 have hrl:∀x,x∈bO r->x<D1.length:=λx hx=>by have:=hr x (cz.1 hx);omega
 have gd:w2.grownBy w2.drew (some kb):=⟨rfl,rfl,rfl,aJ _,λ_ _ _=>rfl⟩;have hkb2:=hO.QT;have JJ:w2.cell? ⟨pb,0,none⟩=some (.slice (some ⟨gn,0,none⟩) D1.length cn)/\w2.cell? ⟨gn,i1*2,none⟩=some (.slice aL (dB (bO l)).length cL)/\w2.cell? ⟨gn,i1*2+1,none⟩=some (.slice aR (dB (bO r)).length cR):=⟨c0,gL,gR⟩;go_wp2_with fail
 refine pQ (λw'=>w'.cell? ⟨pb,0,none⟩=some (.slice (some ⟨gn,0,none⟩) D1.length cn)/\w'.cell? ⟨gn,i1*2,none⟩=some (.slice aL (dB (bO l)).length cL)/\w'.cell? ⟨gn,i1*2+1,none⟩=some (.slice aR (dB (bO r)).length cR)) [23,24] (by kernel_rfl) JJ (λae=>?_);(refine nX 0 ae ?_;refine nX 1 ae ?_;refine nX 2 ae ?_;refine nX 3 ae ?_;refine nX 4 ae ?_;refine nX 5 ae ?_;refine nX 6 ae ?_;refine nX 7 ae ?_;refine nX 8 ae ?_;refine nX 9 ae ?_;refine nX 10 ae ?_;refine nX 12 ae ?_;refine nX 13 ae ?_;refine nX 14 ae ?_;refine nX 15 ae ?_;refine nX 16 ae ?_;refine nX 17 ae ?_;refine nX 18 ae ?_;refine nX 19 ae ?_;refine nX 20 ae ?_;refine nX 21 ae ?_);(refine stA (i:=11) λK hK=>?_;go_simp);have hw2:=hO.grown (w':=w2.drew) ⟨rfl,rfl,rfl,aJ _,λ_ _ _=>rfl⟩;refine(Fa po pb kb _ vb1 _ D1 i1 (bO l) true _ hw2 hi1 (hG' _ gd).2.2.1 hLk hll (lW (kC _))).mono ?_;rintro e w3 ⟨v3,x8,BL,rfl,xg,vM,hO3,alV,hf3⟩;have g3:=gd.trans alV;obtain⟨s3a,s3b,-,s3c⟩:=hG' w3 g3;(refine hK.out _ _ (λ_=>?_) ?_)
 .exact⟨hO3.at.cell0,s3a,s3b⟩
 clear hK K;(try simp only[nP]);(refine stA (i:=22) λK hK=>?_;go_simp);refine(Fa po pb kb _ vb1 _ D1 i1 (bO r) false _ hO3 hi1 s3c hRk hrl (lW (kC _))).mono ?_;rintro e w4 ⟨v4,xZ,BR,rfl,xe,vJ,hO4,BC,hf4⟩;have g4:=g3.trans BC;obtain⟨s4a,s4b,-,-⟩:=hG' w4 g4;(refine hK.out _ _ (λ_=>?_) ?_)
 .exact⟨hO4.at.cell0,s4a,s4b⟩
 clear hK K;(try simp only[nP]);have hB4:=hO4.at;have bl4:∀x,x∈bO BL->x<D1.length:=λx hx=>vM.lt x (vM.kept x (cz.1 hx)).1
 have br4:∀x,x∈bO BR->x<D1.length:=λx hx=>vJ.lt x (vJ.kept x (cz.1 hx)).1
 have nl4:(bO BL).length<=1000000:=by have:=sw BL;have:=vM.zC;have:=vM.len;omega
 have nr4:(bO BR).length<=1000000:=by have:=sw BR;have:=vJ.zC;have:=vJ.len;omega
 rw[lV]at xg xe;have amB:Ints w4 v3 (dB (bO BL)):=wW xg BC (λb hb=>by have h:=(hf3 b hb).1;have e:w2.drew.heap.size=w2.heap.size:=rfl;omega);refine tlA [23,24] [_,_] ?_
 go_wp2_with (first
  |(go_at_call 114;refine(qN pb _ vb1 D1 _ _ (bO BL) (bO BR) _ hB4 amB xe bl4 br4 nl4 nr4 (by omega)).mono ?_;rintro e w5 ⟨zS,qE,D2,i2,rfl,hB2,hK2,hS2,hQ2,hP2⟩)
  |(go_at_call 115;refine(LB pb zS qE D2 _ hB2).mono ?_;rintro e w6 ⟨po2,kb2,rfl,hO5,hx5,as6⟩
    have hi2:=hP2.lt;obtain⟨gn2,cn2,_,_,rfl,_,_,_⟩:=hO5.lists hi2;obtain⟨L2,R2,hG2,amx,amo⟩:=hO5.Jw hi2;rw[hP2.node,KL (kC BL),KL (kC BR)]at hG2;obtain⟨gL2,gR2,iL2,iR2⟩:=hG2 w6 (World.grownBy.refl _ _);have c02:=hO5.at.cell0;have atq:=hO5.at.small;obtain⟨JZ,JU,rfl,-⟩:=id iL2;obtain⟨Km,Kk,rfl,-⟩:=id iR2))
 obtain⟨xb,hxb⟩:=fu w6.heap.size;rw[<-hxb];obtain⟨W,hW⟩:=fu (w6.alloc (Obj.cells #[Value.slice JZ (dB (bO BL)).length JU,Value.slice Km (dB (bO BR)).length Kk] 91));rw[<-hW];have adC:=hO5.QT;have cW0:W.cell? ⟨xb,0,none⟩=some (.slice JZ (dB (bO BL)).length JU):=by rw[hW,hxb];exact World.cell?_alloc_at _ _ _ 0 (by simp)
 have cW1:W.cell? ⟨xb,1,none⟩=some (.slice Km (dB (bO BR)).length Kk):=by rw[hW,hxb];exact World.cell?_alloc_at _ _ _ 1 (by simp)
 have gW:w6.grownBy W none:=by rw[hW];exact World.grownBy_alloc _ _ _
 have gWd:W.grownBy W.drew none:=⟨rfl,rfl,rfl,aJ _,λ_ _ _=>rfl⟩;have hOW:=hO5.grown (gW.trans gWd);have hxk:xb≠kb2:=by omega
 clear hxb hW;have hlW:∀x,x∈bO BL->x<D2.length:=λx hx=>by have:=bl4 x hx;have:=hP2.len;omega
 have hrW:∀x,x∈bO BR->x<D2.length:=λx hx=>by have:=br4 x hx;have:=hP2.len;omega
 have gWk:w6.grownBy W.drew (some kb2):=(gW.trans gWd).but _;have ad5:W.cell? ⟨xb,0,none⟩=some (.slice JZ (dB (bO BL)).length JU)/\W.cell? ⟨xb,1,none⟩=some (.slice Km (dB (bO BR)).length Kk):=⟨cW0,cW1⟩;refine pQ (λw'=>w'.cell? ⟨xb,0,none⟩=some (.slice JZ (dB (bO BL)).length JU)/\w'.cell? ⟨xb,1,none⟩=some (.slice Km (dB (bO BR)).length Kk)) [15,16] (by kernel_rfl) ad5 (λae=>?_);(refine nX 0 ae ?_;refine nX 1 ae ?_;refine nX 2 ae ?_;refine nX 3 ae ?_;refine nX 4 ae ?_;refine nX 5 ae ?_;refine nX 8 ae ?_;refine nX 9 ae ?_;refine nX 10 ae ?_;refine nX 11 ae ?_;refine nX 12 ae ?_);(refine stA (i:=6) λK hK=>?_;go_simp);obtain⟨-,-,i7,-⟩:=hG2 _ gWk;refine(xC po2 pb kb2 _ qE _ D2 (bO BL) true _ hOW i7 amx hlW nl4).mono ?_;rintro e w7 ⟨v7,zL,rfl,hz7,hd7,hO7,Rb,hf7⟩;have g7:=gWk.trans Rb;have s7a:=Rb.cell ae.1 (by simpa using hxk);have s7b:=Rb.cell ae.2 (by simpa using hxk);(refine hK.out _ _ (λ_=>?_) ?_)
 .exact⟨s7a,s7b⟩
 clear hK K;(try simp only[nP]);(refine stA (i:=7) λK hK=>?_;go_simp);refine(zI _ _ _ _ _ (hG2 _ g7).2.2.1 hz7 (by rw[bG];omega)).mono ?_;rintro e w8 ⟨v8,rfl,hz8,Gi,hf8⟩;have g8:=g7.trans ((jX Gi).but _);have hO8:=hO7.grown (jX Gi);have s8a:=(jX Gi).cell s7a (by simp);have s8b:=(jX Gi).cell s7b (by simp);(refine hK.out _ _ (λ_=>?_) ?_)
 .exact⟨s8a,s8b⟩
 clear hK K;(try simp only[nP]);(refine stA (i:=13) λK hK=>?_;go_simp);refine(xC po2 pb kb2 _ qE _ D2 (bO BR) false _ hO8 (hG2 _ g8).2.2.2 amo hrW nr4).mono ?_;rintro e w9 ⟨v9,zR,rfl,hz9,hd9,hO9,Av,hf9⟩;have g9:=g8.trans Av;have s9a:=Av.cell s8a (by simpa using hxk);have s9b:=Av.cell s8b (by simpa using hxk);(refine hK.out _ _ (λ_=>?_) ?_)
 .exact⟨s9a,s9b⟩
 clear hK K;(try simp only[nP]);(refine stA (i:=14) λK hK=>?_;go_simp);refine(zI _ _ _ _ _ (hG2 _ g9).2.2.2 hz9 (by rw[bG];omega)).mono ?_;rintro e wa ⟨va,rfl,hza,hxa,hfa⟩;have ga:=g9.trans ((jX hxa).but _);have hOa:=hO9.grown (jX hxa);(refine hK.out _ _ (λ_=>?_) ?_)
 .exact⟨(jX hxa).cell s9a (by simp),(jX hxa).cell s9b (by simp)⟩
 clear hK K;(try simp only[nP]);rw[Az]at hz8 hza;have hBa:=hOa.at;have h8a:Ints wa v8 (dB (CZ (bO BL) zL)):=(wW hz8 Av (λb hb=>by have h:=(hf8 b hb).1;have h7:=Rb.size;have e:W.drew.heap.size=W.heap.size:=rfl;have h6:=gW.size;omega)).ext hxa;have wL:∀x,x∈CZ (bO BL) zL->x∈bO BL:=λx hx=>by obtain⟨i,h,rfl,_⟩:=DN.1 hx;exact ai h
 have wR:∀x,x∈CZ (bO BR) zR->x∈bO BR:=λx hx=>by obtain⟨i,h,rfl,_⟩:=DN.1 hx;exact ai h
 have wl1:(CZ (bO BL) zL).length<=1000000:=by have:=AA (dB (bO BL)) zL (dB (bO BL)).length;have e:=Az (bO BL) zL;unfold tC at e;rw[e,bG,bG]at this;omega
 have wr1:(CZ (bO BR) zR).length<=1000000:=by have:=AA (dB (bO BR)) zR (dB (bO BR)).length;have e:=Az (bO BR) zR;unfold tC at e;rw[e,bG,bG]at this;omega
 have Q8:=hP2.len;refine tlA [15,16] [_,_] ?_;go_wp2_with (go_at_call 114;refine(qN pb _ qE D2 _ _ (CZ (bO BL) zL) (CZ (bO BR) zR) _ hBa h8a hza (λx hx=>hlW x (wL x hx)) (λx hx=>hrW x (wR x hx)) wl1 wr1 (by omega)).mono ?_;rintro e w' ⟨vn3,vb3,D3,i3,rfl,hB3,hK3,CB,TD,hP3⟩)
 go_ret
 have z1:=hK1.size;have z2:=hx2.size;have z4:=g4.size;have z5:=hK2.size;have z6:=hx5.size;have za:=ga.size;have k2:fJ (xE pb vn vb) w w2:=hK1.trans (jR hx2) (λ_ _ h=>h);have k4:=k2.trans (jA g4) (λx hx h=>by subst h;omega);have k5:=k4.trans hK2 (λx hx h=>by rcases hS1 x h with h|h;exact h;omega);have k6:=k5.trans (jR (F:=λ_=>False) hx5) (λ_ _ h=>h.elim);have ka:=k6.trans (jA ga) (λx hx h=>by subst h;omega);have hSS:∀b,xE pb (.slice (some ⟨gn2,0,none⟩) D2.length cn2) qE b->xE pb vn vb b\/w.heap.size<=b:=λb hb=>by
  rcases hS2 b hb with h|h
  .exact hS1 b h
  .exact .inr (by omega)
 have k7:=ka.trans hK3 (λx hx h=>by rcases hSS x h with h|h;exact h;omega);have Rj:∀b,iO wa (.slice (some ⟨gn2,0,none⟩) D2.length cn2) D2.length b->iO w vn D.length b\/w.heap.size<=b:=λb hb=>by
  have h6:=iO.ord hO5 ga hb;rcases hQ2 b (iO.back hB2 hx5 h6)with h|h
  .have h2:=iO.ord hO g4 h
   rcases hQ1 b (iO.back hB1 hx2 h2)with h|h
   .exact .inl h
   .exact .inr h
  .exact .inr (by omega)
 refine⟨vn3,vb3,D3,i3,rfl,hB3,k7,?_,λb hb=>?_,Sr hB.good hO.at.good hO5.at.good hB3.good hP1 hP2 hP3 hl hr cl cr vM vJ hd7 hd9⟩
 .intro b hb
  rcases CB b hb with h|h
  .exact hSS b h
  .exact .inr (by omega)
 .rcases TD b hb with h|h
  .exact Rj b h
  .exact .inr (by omega)
end
section
open Go.RowKit
open bE (dh Nd vl)
variable {w w' w0:World} {pb b:Nat} {vn vb uL wB:Value} {D D':dh} {G:Nat->Prop}
structure qp(w0 w:World)(pb:Nat)(vn vb:Value)(D:dh):Prop where
 bk:fB w pb vn vb D
 sep:∀b,xE pb vn vb b->w0.heap.size<=b
 ext:Ext w0 w
structure fO(w w':World)(pb:Nat)(vn vb:Value)(D:dh)(uL wB:Value)(D':dh):Prop where
 keep:fJ (xE pb vn vb) w w'
 ins:∀b,xE pb uL wB b->xE pb vn vb b\/w.heap.size<=b
 lists:∀b,iO w' uL D'.length b->iO w vn D.length b\/w.heap.size<=b
 more:∃E,D'=D++E
theorem fO.len(h:fO w w' pb vn vb D uL wB D'):D.length<=D'.length:=by obtain⟨E,rfl⟩:=h.more;simp
theorem fO.refl(w:World)(pb:Nat)(vn vb:Value)(D:dh):fO w w pb vn vb D vn vb D:=⟨fJ.refl _ _,λ_ h=>.inl h,λ_ h=>.inl h,⟨[],by simp⟩⟩
theorem fO.trans{a b c:World}{pb:Nat}{v1 u1 v2 u2 v3 u3:Value}{D1 D2 D3:dh}(h:fO a b pb v1 u1 D1 v2 u2 D2)(k:fO b c pb v2 u2 D2 v3 u3 D3):fO a c pb v1 u1 D1 v3 u3 D3:=by
 have hz:=h.keep.size;refine⟨h.keep.trans k.keep (λx hx hi=>by rcases h.ins x hi with h|h;exact h;omega),λx hx=>?_,λx hx=>?_,?_⟩
 .rcases k.ins x hx with h1|h1
  .exact h.ins x h1
  .exact .inr (by omega)
 .rcases k.lists x hx with h1|h1
  .exact h.lists x h1
  .exact .inr (by omega)
 .obtain⟨E,rfl⟩:=h.more
  obtain⟨E',rfl⟩:=k.more;exact⟨E++E',by simp⟩
theorem fO.ext(hB:fB w pb vn vb D)(hx:Ext w w'):fO w w' pb vn vb D vn vb D:=⟨jR hx,λ_ h=>.inl h,λ_ h=>.inl (iO.back hB hx h),⟨[],by simp⟩⟩
theorem fO.zY{l r:List Nat}{i:Nat}(h1:fJ (xE pb vn vb) w w')(h2:∀b,xE pb uL wB b->xE pb vn vb b\/w.heap.size<=b)(h3:∀b,iO w' uL D'.length b->iO w vn D.length b\/w.heap.size<=b)(h4:jN D l r D' i):fO w w' pb vn vb D uL wB D':=
 ⟨h1,h2,h3,by obtain⟨E,h,_⟩:=h4.ext;exact⟨E,h⟩⟩
theorem fB.QX(h:fB w pb vn vb D)(hb:xE pb vn vb b):b<w.heap.size:=by
 obtain⟨xs,ho,_⟩:=h.nodes;rcases hb with rfl|hb|hb
 .exact h.lt
 .exact(ho.lt b hb).2
 .exact(h.born.lt b hb).2
theorem fB.Ae(h:fB w pb vn vb D)(hb:iO w vn D.length b):b<w.heap.size/\¬xE pb vn vb b:=by
 obtain⟨i,g,cap,v,hi,he,hc,hv⟩:=hb;obtain⟨g',cap',L,R,he',_,_,c1,c2,_,_,h5,h6⟩:=h.Ll hi;rw[he]at he';simp only[il,bU,Addr.mk.injEq,and_true,true_and]at he';obtain⟨rfl,rfl⟩:=he';rcases hc with hc|hc
 .rw[c1]at hc;injection hc with hc;subst hc;exact⟨(h5 b hv).2,(h5 b hv).1⟩
 .rw[c2]at hc;injection hc with hc;subst hc;exact⟨(h6 b hv).2,(h6 b hv).1⟩
theorem fB.oP(h:fB w pb vn vb D)(hk:fJ G w w')(h1:∀b,xE pb vn vb b->¬G b)(h2:∀b,iO w vn D.length b->¬G b):fB w' pb vn vb D:=by
 obtain⟨t,ht⟩:=h.cells;obtain⟨xs,ho,hn⟩:=h.nodes;have hz:=hk.size;refine⟨h.good,h.small,⟨t,?_⟩,bS h.born hk (λb hb=>h1 b (.inr (.inr hb))),⟨xs,bS ho hk (λb hb=>h1 b (.inr (.inl hb))),λi hi=>?_⟩,h.xy,h.F3,h.FZ⟩
 .rw[hk.block pb h.lt (h1 pb (.inl rfl))];exact ht
 .obtain⟨L,R,c1,c2,c3,c4,c5,c6⟩:=hn i hi
  obtain⟨g,cap,he,_,_,hcell⟩:=iy ho (by omega);have hl1:=ho.1;have b1:w.cell? ⟨g,i*2,none⟩=some L:=by rw[hcell _ (by omega),iY];exact c1
  have b2:w.cell? ⟨g,i*2+1,none⟩=some R:=by rw[hcell _ (by omega),iY];exact c2
  refine⟨L,R,c1,c2,sN c3 hk (λb hb=>h2 b ⟨i,g,cap,L,hi,he,.inl b1,hb⟩),sN c4 hk (λb hb=>h2 b ⟨i,g,cap,R,hi,he,.inr b2,hb⟩),λb hb=>⟨(c5 b hb).1,by have:=(c5 b hb).2;omega⟩,λb hb=>⟨(c6 b hb).1,by have:=(c6 b hb).2;omega⟩⟩
theorem iO.oP(h:fB w pb vn vb D)(hk:fJ G w w')(h1:∀b,xE pb vn vb b->¬G b)(hb:iO w' vn D.length b):iO w vn D.length b:=by
 obtain⟨i,g,cap,v,hi,he,hc,hv⟩:=hb;obtain⟨xs,ho,_⟩:=h.nodes;have hg:=(ho.lt g (by rw[he];rfl)).2;have e:=hk.block g hg (h1 g (.inr (.inl (by rw[he];rfl))));refine⟨i,g,cap,v,hi,he,?_,hv⟩;rcases hc with hc|hc
 .exact .inl (by rw[<-mP (w:=w) e];exact hc)
 .exact .inr (by rw[<-mP (w:=w) e];exact hc)
theorem qp.ext'(h:qp w0 w pb vn vb D)(hx:Ext w w'):qp w0 w' pb vn vb D:=⟨h.bk.ext hx,h.sep,ah h.ext hx⟩
theorem qp.go(h:qp w0 w pb vn vb D)(hB:fB w' pb uL wB D')(hg:fO w w' pb vn vb D uL wB D'):qp w0 w' pb uL wB D':=by
 have hz:=h.ext.size;refine⟨hB,λb hb=>?_,⟨hg.keep.os.trans h.ext.os,hg.keep.tape.trans h.ext.tape,hg.keep.output.trans h.ext.output,bZ hz hg.keep.size,λk hk=>?_⟩⟩
 .rcases hg.ins b hb with h1|h1
  .exact h.sep b h1
  .omega
 .rw[hg.keep.block k (by omega) (λhi=>by have:=h.sep k hi;omega)];exact h.ext.block k hk
structure Beside(w:World)(pb:Nat)(vn vb:Value)(D:dh)(b:Nat):Prop where
 ins:¬xE pb vn vb b
 lists:¬iO w vn D.length b
theorem Beside.go(h:Beside w pb vn vb D b)(hb:b<w.heap.size)(hg:fO w w' pb vn vb D uL wB D'):Beside w' pb uL wB D' b:=
 ⟨λk=>by rcases hg.ins b k with k|k;exact h.ins k;omega,λk=>by rcases hg.lists b k with k|k;exact h.lists k;omega⟩
theorem Beside.new(h:fB w pb vn vb D)(hb:w.heap.size<=b):Beside w pb vn vb D b:=
 ⟨λk=>by have:=h.QX k;omega,λk=>by have:=(h.Ae k).1;omega⟩
theorem Beside.Ki(h:Beside w pb vn vb D b)(hB:fB w pb vn vb D)(hx:Ext w w'):Beside w' pb vn vb D b:=⟨h.ins,λk=>h.lists (iO.back hB hx k)⟩
theorem Beside.row{X:World}{vn0 vb0:Value}{D0:dh}{v v':Value}(hG:fO w0 w pb vn0 vb0 D0 vn vb D)(hB:fB w pb vn vb D)(h:∀b,v.ownBlock=some b->w0.heap.size<=b/\Beside w pb vn vb D b)(hX:Ext w X)(hg:X.grownBy w' v.ownBlock)(hl:pX X v v'):
 fB w' pb vn vb D/\fO w0 w' pb vn0 vb0 D0 vn vb D/\(∀b,v'.ownBlock=some b->w0.heap.size<=b/\Beside w' pb vn vb D b)/\(∀b,Beside w pb vn vb D b->Beside w' pb vn vb D b):=by
 have hk:fJ (λb=>v.ownBlock=some b) w w':=⟨hg.os.trans hX.os,hg.tape.trans hX.tape,hg.output.trans hX.output,bZ hX.size hg.size,λk hk hn=>by rw[hg.block k (bg hk hX.size) (λe=>hn e.symm)];exact hX.block k hk⟩;have hB':=hB.oP hk (λb hb e=>(h b e).2.ins hb) (λb hb e=>(h b e).2.lists hb);have hL:∀b,iO w' vn D.length b->iO w vn D.length b:=λb hb=>iO.oP hB hk (λb hb e=>(h b e).2.ins hb) hb
 have hz:=hG.keep.size;have hzX:=hX.size;refine⟨hB',⟨hG.keep.trans hk (λx hx e=>by have:=(h x e).1;omega),hG.ins,λb hb=>hG.lists b (hL b hb),hG.more⟩,λb hb=>?_,λb hb=>⟨hb.ins,λk=>hb.lists (hL b k)⟩⟩;rcases hl with h1|⟨g,h1,h2⟩
 .rw[h1]at hb
  obtain⟨a,c⟩:=h b hb;exact⟨a,c.ins,λk=>c.lists (hL b k)⟩
 .rw[h1]at hb;injection hb with hb;subst hb
  exact⟨by omega,λk=>by have:=hB.QX k;omega,λk=>by have:=(hB.Ae (hL _ k)).1;omega⟩
end
section
open Go.RowKit
open bE (dh Nd vl Same)
variable {at_:List Nat} {k i:Nat} {D D' F:dh}
def RL(pb:Nat)(vn vb:Value)(D F:dh)(w:World)(e:Ending)(w':World):Prop:=
 ∃v' uL wB D' at_,e=.returned v'/\Ints w' v' (dB at_)/\fB w' pb uL wB D'/\fO w w' pb vn vb D uL wB D'/\D'.length<=D.length+F.length/\at_.length=F.length/\(∀i (h:i<at_.length),at_[i]<D'.length/\Same (vl D' at_[i]) (vl F i))
theorem JV{l:List Nat}{n:Nat}(hl:∀x,x∈l->x<k)(ha:at_.length=k)(hat:∀i (h:i<at_.length),at_[i]<n):∀x,x∈l.map (λx=>at_.getD x 0)->x<n:=by
 intro x hx;obtain⟨y,hy,rfl⟩:=az.1 hx;have:=hl y hy;rw[bD,af (by omega),kI];exact hat y (by omega)
theorem VC(g:bE.WF D)(g':bE.WF D')(hF:bE.WF F)(hk:k<F.length)(ha:at_.length=k)(hat:∀i (h:i<at_.length),at_[i]<D.length/\Same (vl D at_[i]) (vl F i))
 (hp:jN D ((F[k]).1.map λx=>at_.getD x 0) ((F[k]).2.map λx=>at_.getD x 0) D' i):Same (vl D' i) (vl F k):=by
 have dk:F[k]?=some F[k]:=af hk;have hw:=hF k _ dk;have key:∀x,x<k->at_.getD x 0<D.length/\Same (vl D' (at_.getD x 0)) (vl F x):=λx hx=>by
  have e:at_.getD x 0=at_[x]'(by omega):=by rw[bD,af (by omega)];rfl
  have h:=hat x (by omega);rw[e,hp.vl g g' h.1];exact h
 rw[bE.same_iff,bE.lI g' hp.1,bE.lH g' hp.1,bE.lI hF dk,bE.lH hF dk];refine⟨λy hy=>?_,λy hy=>?_,λy hy=>?_,λy hy=>?_⟩
 .obtain⟨x,hx,rfl⟩:=az.1 hy
  obtain⟨z,hz,rfl⟩:=az.1 (cz.1 hx);exact⟨_,aV hz,(key z (hw.1 z hz)).2⟩
 .obtain⟨z,hz,rfl⟩:=az.1 hy
  exact⟨_,aV (cz.2 (aV hz)),(key z (hw.1 z hz)).2⟩
 .obtain⟨x,hx,rfl⟩:=az.1 hy
  obtain⟨z,hz,rfl⟩:=az.1 (cz.1 hx);exact⟨_,aV hz,(key z (hw.2 z hz)).2⟩
 .obtain⟨z,hz,rfl⟩:=az.1 hy
  exact⟨_,aV (cz.2 (aV hz)),(key z (hw.2 z hz)).2⟩
theorem Sw(g:bE.WF D)(g':bE.WF D')(h:∃E,D'=D++E)(hat:∀i (h:i<at_.length),at_[i]<D.length/\Same (vl D at_[i]) (vl F i)):∀i (h:i<at_.length),at_[i]<D'.length/\Same (vl D' at_[i]) (vl F i):=by
 obtain⟨E,rfl⟩:=h;intro i hi;obtain⟨a,b⟩:=hat i hi;exact⟨by simp;omega,by rw[bE.jJ g g' _ a];exact b⟩
theorem xP{P:Nat->Nat->Prop}(h:∀j (h:j<at_.length),P at_[j] j)(hi:P i at_.length):∀j (h:j<(at_++[i]).length),P (at_++[i])[j] j:=by
 intro j hj;by_cases c:j<at_.length
 .rw[dM c];exact h j c
 .have e:j=at_.length:=by simp at hj;omega
  subst e;rw[eQ (aJ _)];simpa using hi
theorem MX(pb:Nat)(vn vb:Value)(D:dh)(vf:Value)(F:dh)(w0 w:World)(hB:qp w0 w pb vn vb D)(hf:dI w0 0 vf F)(hF:bE.WF F)(Fz:∀nd,nd∈F->bE.Asc nd.1/\bE.Asc nd.2)(hroom:D.length+F.length<=1000000):
 Calls prog 153 #[.pointer (some ⟨pb,0,none⟩),.agg #[vf]] w (RL pb vn vb D F w):=by
 obtain⟨i0,hi0,hz0,hz1,hz2⟩:=info_parts iU;obtain⟨aF,gH,rfl,-⟩:=id hf;have hGF:=jm hF Fz;clear Fz;go_enter Tryz.func153,Tryz.ntmps153
 go_wp2
 have hE2:Ext w ((w.alloc (.cells #[.slice aF F.length gH] 30)).alloc (.cells #[] 3)):=by go_grown
 go_loopw [5,6] (λav kk wr=>∃k uL wB D' at_,k<=F.length/\kk=.int .i64 ((k:Nat):Int)/\at_.length=k/\wr.ownsRow w.heap.size 3 1 av k ((dB at_).map (Value.int .i64))/\fB wr pb uL wB D'/\fO w wr pb vn vb D uL wB D'/\D'.length<=D.length+k/\
  (∀b,av.ownBlock=some b->w.heap.size<=b/\Beside wr pb uL wB D' b)/\wr.heap[w.heap.size]?=some (.cells #[.slice aF F.length gH] 30 (0,0))/\Beside wr pb uL wB D' w.heap.size/\av.ownBlock≠some w.heap.size/\Hid (∀i (h:i<at_.length),at_[i]<D'.length/\Same (vl D' at_[i]) (vl F i))) (λ_ kk _=>F.length-(intOf kk).toNat)
 case atStart=>
  refine⟨0,vn,vb,D,[],aU _,rfl,rfl,og w _ _ (aJ _) _,hB.bk.ext hE2,fO.ext hB.bk hE2,aJ _,λb hb=>?_,?_,?_,?_,λi h=>absurd h (by simp)⟩
  .simp[Value.ownBlock]at hb;subst hb
   exact⟨by omega,(Beside.new hB.bk (b:=w.heap.size+1) (by omega)).Ki hB.bk hE2⟩
  .rw[jo _ _ _ (by rw[fU];omega)];exact eu _ _
  .exact(Beside.new hB.bk (aJ _)).Ki hB.bk hE2
  .simp[Value.ownBlock]
 case round=>
  obtain⟨k,rY,vb1,D1,at_,hk,rfl,hal,hown,hB1,hG1,hD1,BI,xc,hbb,hne,HA⟩:=hrel;have JK:=hB.go hB1 hG1;have ang:=bQ wr w.heap.size 0 _ _ _ xc;by_cases hlt:k<F.length
  .have hlt':((k:Nat):Int)<(F.length:Int):=by omega
   obtain⟨bF,cF,aL,cL,aR,cR,he,Nh,cl,cr,xg,xe⟩:=hf.at hlt;simp only[il]at he;obtain⟨rfl,-,rfl⟩:=he;have gl:(F[k]).1.length<=k/\(F[k]).2.length<=k:=by
    have h:=hGF.out.2 _ (ai hlt);have hw:=hGF.out.1 k _ (af hlt);exact⟨jW (lW h.1) hw.1,jW (lW h.2) hw.2⟩
   have hwk:=hGF.out.1 k _ (af hlt)
   have mI:∀W,Ext w0 W->W.heap[w.heap.size]?=some (.cells #[.slice (some ⟨bF,0,none⟩) F.length gH] 30 (0,0))->W.cell? ⟨w.heap.size,0,none⟩=some (.slice (some ⟨bF,0,none⟩) F.length gH)/\W.cell? ⟨bF,k*2,none⟩=some (.slice aL (F[k]).1.length cL)/\W.cell? ⟨bF,k*2+1,none⟩=some (.slice aR (F[k]).2.length cR):=
    λW h1 h2=>⟨bQ W w.heap.size 0 _ _ _ h2,fw h1 cl,fw h1 cr⟩
   have hS0:=mI wr JK.ext xc;obtain⟨aA,cA,rfl,hcA,_⟩:=bT hown;have hx0:Ext wr wr.drew:=⟨rfl,rfl,rfl,aJ _,λ_ _=>rfl⟩;have Mr:=Ints.gm (l:=dB at_) hown (by rw[bG];have:=hB1.small;omega);have Qc:=aW Mr;have HOWN:=aW hown;have HB1:=aW hB1;have HG1:=aW hG1;have HBO:=aW JK;have Uv:=aW BI;have J9:=aW xc;have HNE:=aW hne;have zw:=aW hal;have HD1:=aW hD1;have HGL:=aW gl;have YS:=aW hwk;have HIL:=aW xg;have HIR:=aW xe;clear hown hB1 hG1 JK BI xc hne hal Mr xg xe cl cr Nh hD1 gl hwk;go_wp2_with fail
   refine pQ (λW=>W.cell? ⟨w.heap.size,0,none⟩=some (.slice (some ⟨bF,0,none⟩) F.length gH)/\W.cell? ⟨bF,k*2,none⟩=some (.slice aL (F[k]).1.length cL)/\W.cell? ⟨bF,k*2+1,none⟩=some (.slice aR (F[k]).2.length cR)) [20,21] (by kernel_rfl) hS0 (λae=>?_);(refine nX 0 ae ?_;refine nX 1 ae ?_;refine nX 2 ae ?_;refine nX 3 ae ?_;refine nX 4 ae ?_;refine nX 5 ae ?_;refine nX 6 ae ?_;refine nX 7 ae ?_;refine nX 8 ae ?_;refine nX 10 ae ?_;refine nX 11 ae ?_;refine nX 12 ae ?_;refine nX 13 ae ?_;refine nX 14 ae ?_;refine nX 15 ae ?_;refine nX 16 ae ?_);(refine stA (i:=9) λK hK=>?_;go_simp);have hlen1:(dB (F[k]).1).length<=1000000000:=(by rw[bG];have:=HGL.out.1;omega);have Q8:(dB (F[k]).2).length<=1000000000:=(by rw[bG];have:=HGL.out.2;omega);have Yu:∀x,x∈dB (F[k]).1->0<=x/\x<(dB at_).length:=λx hx=>by obtain⟨n,hn,rfl⟩:=o9 hx;have:=YS.out.1 n hn;rw[bG,zw.out];omega
   have PO:∀x,x∈dB (F[k]).2->0<=x/\x<(dB at_).length:=λx hx=>by obtain⟨n,hn,rfl⟩:=o9 hx;have:=YS.out.2 n hn;rw[bG,zw.out];omega
   refine(vw _ _ (dB at_) (dB (F[k]).1) _ (Qc.out.ext hx0) (HIL.out.ext (ah HBO.out.ext hx0)) Yu hlen1).mono ?_;rintro e w1 ⟨v1,rfl,hI1,hx1⟩;have Fu:=ah hx0 hx1;(refine hK.out _ _ (λ_=>?_) ?_)
   .exact mI _ (ah HBO.out.ext Fu) (by rw[Fu.block _ (bW J9.out)];exact J9.out)
   clear hK K;(try simp only[nP]);(refine stA (i:=17) λK hK=>?_;go_simp);refine(vw _ _ (dB at_) (dB (F[k]).2) _ (Qc.out.ext Fu) (HIR.out.ext (ah HBO.out.ext Fu)) PO Q8).mono ?_;rintro e w2 ⟨v2,rfl,hI2,hx2⟩;have vH:=ah Fu hx2;have BG:w2.heap[w.heap.size]?=some (.cells #[.slice (some ⟨bF,0,none⟩) F.length gH] 30 (0,0)):=(by rw[vH.block _ (bW J9.out)];exact J9.out);(refine hK.out _ _ (λ_=>?_) ?_)
   .exact mI _ (ah HBO.out.ext vH) BG
   clear hK K;(try simp only[nP]);have Pk:=hI1.ext hx2;rw[Er]at Pk hI2;have hB2:=HB1.out.ext vH;have XF:∀i (h:i<at_.length),at_[i]<D1.length:=λi h=>(HA.out i h).1
   have hG2:=HG1.out.trans (fO.ext HB1.out vH);have BH:∀b,Value.ownBlock (.slice aA k cA)=some b->w.heap.size<=b/\Beside w2 pb rY vb1 D1 b:=λb hb=>⟨(Uv.out b hb).1,(Uv.out b hb).2.Ki HB1.out vH⟩
   have GI:=hbb.Ki HB1.out vH;have hown2:=dD HOWN.out vH;(refine stA (i:=18) λK hK=>?_;go_simp);refine(qN pb rY vb1 D1 _ _ _ _ _ hB2 Pk hI2 (JV YS.out.1 zw.out XF) (JV YS.out.2 zw.out XF) (by simp;have:=HGL.out.1;omega) (by simp;have:=HGL.out.2;omega) (by have:=HD1.out;omega)).mono ?_;rintro e w3 ⟨zS,qE,D2,i2,rfl,hB3,hK3,CB,TD,hP3⟩;have iq:=fO.zY hK3 CB TD hP3;have rP:w3.heap[w.heap.size]?=some (.cells #[.slice (some ⟨bF,0,none⟩) F.length gH] 30 (0,0)):=(by rw[hK3.block _ (bW BG) GI.ins];exact BG);have hG3:=hG2.trans iq;have GM:=hB.go hB3 hG3;(refine hK.out _ _ (λ_=>?_) ?_)
   .exact mI _ GM.ext rP
   clear hK K;(try simp only[nP]);(refine stA (i:=19) λK hK=>?_;go_simp);have hx4:Ext w3 (w3.alloc (.cells #[.int .i64 ((i2:Nat):Int)] 3)):=(by go_grown);(refine hK.out _ _ (λ_=>?_) ?_)
   .exact mI _ (ah GM.ext hx4) (by rw[hx4.block _ (bW rP)];exact rP)
   clear hK K;(try simp only[nP]);have hown3:=bS hown2 hK3 (λb hb=>(BH b hb).2.ins);have Uz:=hG3.keep.size;refine tlA [20,21] [_,_] ?_;refine eO rfl (.tmp 15) (.tmp 34) 41 rfl w.heap.size 3 i0 (.int .i64 0) 1 8 underlying41 hi0 hz0 hz1 hz2 rfl (by decide) (.slice aA k cA) k ((dB at_).map (Value.int .i64)) rfl (dD hown3 hx4) _ 1 _ [.int .i64 ((i2:Nat):Int)] rfl rfl (.inr ⟨_,rfl,fD (dW _ _ _)⟩) one_cell (by unfold maxLen;omega) (by omega) (by rw[fU];omega) ?_;intro v5 w5 lq hg5 hl5;have vO:∀b,Value.ownBlock (.slice aA k cA)=some b->w.heap.size<=b/\Beside w3 pb zS qE D2 b:=λb hb=>⟨(BH b hb).1,(BH b hb).2.go (hown2.lt b hb).2 iq⟩
   have XE:=GI.go (bW BG) iq;obtain⟨Cc,FB,yn,hside⟩:=Beside.row hG3 hB3 vO hx4 hg5 hl5;have XD:=hside _ XE;have Me:w5.heap[w.heap.size]?=some (.cells #[.slice (some ⟨bF,0,none⟩) F.length gH] 30 (0,0)):=by
    rw[hg5.block _ (by rw[fU];have:=bW rP;omega) (λe=>HNE.out e.symm),hx4.block _ (bW rP)];exact rP
   have hne5:v5.ownBlock≠some w.heap.size:=by
    rcases hl5 with h|⟨g,h,h2⟩
    .rw[h];exact HNE.out
    .rw[h];intro e;injection e with e;rw[fU]at h2;have:=bW rP;omega
   have hlen:D2.length<=D.length+(k+1):=by have:=hP3.len;have:=HD1.out;omega
   have hsame:Hid (∀j (h:j<(at_++[i2]).length),(at_++[i2])[j]<D2.length/\Same (vl D2 (at_++[i2])[j]) (vl F j)):=
    xP (P:=λa j=>a<D2.length/\Same (vl D2 a) (vl F j)) (Sw HB1.out.good.wf hB3.good.wf iq.more HA.out) ⟨hP3.lt,by rw[zw.out];exact VC HB1.out.good.wf hB3.good.wf hGF.out.1 hlt zw.out HA.out hP3⟩
   have H5:=aW Cc;have H6:=aW FB;have H7:=aW yn;have H8:=aW Me;have H9:=aW XD;have H10:=aW hne5;have H11:=aW lq;have H12:=aW hlen;clear Cc FB yn Me XD hne5 lq hlen hg5 hl5 hside vO XE iq rP hG3 GM hx4 hown3 hB3 hK3 CB TD BH GI hown2 hG2 hB2 ae;(try simp only[nP]);go_wp2_with fail
   go_roundw
   case rel=>exact⟨k+1,zS,qE,D2,at_++[i2],by omega,by go_num,by rw[bu,zw.out];rfl,by simpa [dB]using H11.out,H5.out,H6.out,H12.out,H7.out,H8.out,H9.out,H10.out,hsame⟩
   case measure=>simp[intOf];omega
  .have hke:k=F.length:=by omega
   have hlt':¬(((k:Nat):Int)<(F.length:Int)):=(by omega);obtain⟨aA,cA,rfl,hcA,_⟩:=bT hown;have Mr:=Ints.gm (l:=dB at_) hown (by rw[bG];have:=hB1.small;omega);have Qc:=aW Mr;have HB1:=aW hB1;have HG1:=aW hG1;have YX:=aW hke;clear hown hB1 hG1 BI xc hne Mr hke;go_wp2
   go_ret
   exact⟨_,rY,vb1,D1,at_,rfl,Qc.out,HB1.out,HG1.out,by have:=YX.out;omega,by rw[hal];exact YX.out,HA.out⟩
theorem abq(pb:Nat)(vn vb:Value)(D:dh)(vf:Value)(F:dh)(w0 w:World)(hB:qp w0 w pb vn vb D)(hf:dI w0 0 vf F)(hF:bE.Good F)(hroom:D.length+F.length<=1000000):
 Calls prog 153 #[.pointer (some ⟨pb,0,none⟩),.agg #[vf]] w (RL pb vn vb D F w):=MX pb vn vb D vf F w0 w hB hf hF.wf hF.xD hroom
def M5(pb:Nat)(vn vb:Value)(D F:dh)(w:World)(e:Ending)(w':World):Prop:=
 ∃uL wB D' i,e=.returned (.int .i64 ((i:Nat):Int))/\fB w' pb uL wB D'/\fO w w' pb vn vb D uL wB D'/\D'.length<=D.length+F.length/\i<D'.length/\Same (vl D' i) (bE.bz F)
theorem Hy(pb:Nat)(vn vb:Value)(D:dh)(vf:Value)(F:dh)(w0 w:World)(hB:qp w0 w pb vn vb D)(hf:dI w0 0 vf F)(hF:bE.WF F)(Fz:∀nd,nd∈F->bE.Asc nd.1/\bE.Asc nd.2)(h0:0<F.length)(hroom:D.length+F.length<=1000000):
 Calls prog 112 #[.pointer (some ⟨pb,0,none⟩),.agg #[vf]] w (M5 pb vn vb D F w):=by
 obtain⟨aF,gH,rfl,-⟩:=id hf;have hx:Ext w (w.alloc (.cells #[.slice aF F.length gH] 30)):=by go_grown
 have hB1:=hB.ext' hx;go_enter Tryz.func112,Tryz.ntmps112
 have hwr:wrap64 ((F.length:Int)-1)=((F.length-1:Nat):Int):=by unfold wrap64;omega
 go_wp2_with (first
  |(go_at_call 153;refine(MX pb vn vb D _ F w0 _ hB1 hf hF Fz hroom).mono ?_;rintro e w1 ⟨v1,rY,vb1,D1,at_,rfl,hI,hB2,hG2,hD2,hal,hat⟩
    have e9:(dB at_).length=F.length:=(by rw[bG,hal]);obtain⟨a1,c1,rfl,hc1,hm1,hcell⟩:=hI;rw[e9]at hc1 hm1 hcell ⊢;obtain⟨b,off,rfl,hcc⟩:=hcell h0;have hc2:=hcc (F.length-1) (by omega);rw[iA (by omega)]at hc2))
 go_ret
 have hlast:=hat (F.length-1) (by omega);exact⟨rY,vb1,D1,_,rfl,hB2,(fO.ext hB.bk hx).trans hG2,hD2,hlast.1,hlast.2⟩
theorem KZ(pb:Nat)(vn vb:Value)(D:dh)(vf:Value)(F:dh)(w0 w:World)(hB:qp w0 w pb vn vb D)(hf:dI w0 0 vf F)(hF:bE.Good F)(h0:0<F.length)(hroom:D.length+F.length<=1000000):
 Calls prog 112 #[.pointer (some ⟨pb,0,none⟩),.agg #[vf]] w (M5 pb vn vb D F w):=Hy pb vn vb D vf F w0 w hB hf hF.wf hF.xD h0 hroom
end
section
open bE
variable {l at_:List Nat} {D F:dh} {k:Nat}
theorem X7{r:List Nat}{f g:Nat->Gm}(hl:∀x,x∈l->jc (f x) (g x))(hr:∀x,x∈r->jc (f x) (g x)):jc (.mk (l.map f) (r.map f)) (.mk (l.map g) (r.map g)):=by
 constructor
 .refine Dl (λy hy=>?_) (λy hy=>?_)
  .obtain⟨x,hx,rfl⟩:=az.1 hy;exact .inl ⟨g x,aV hx,(hr x hx).1⟩
  .obtain⟨x,hx,rfl⟩:=az.1 hy;exact .inl ⟨f x,aV hx,(hl x hx).1⟩
 .refine Dl (λy hy=>?_) (λy hy=>?_)
  .obtain⟨x,hx,rfl⟩:=az.1 hy;exact .inl ⟨f x,aV hx,(hr x hx).2⟩
  .obtain⟨x,hx,rfl⟩:=az.1 hy;exact .inl ⟨g x,aV hx,(hl x hx).2⟩
theorem Rw{n:Nat}{R:Nat->Nat->Prop}(h:∀i,i<n->∃j,j∈at_/\R i j)(hu:∀i i' j,i<n->i'<n->R i j->R i' j->i=i'):n<=at_.length:=by
 classical
 have h1:∀i,∃k,i<n->∃hk:k<at_.length,R i at_[k]:=λi=>by
  by_cases c:i<n
  .obtain⟨j,hj,hr⟩:=h i c
   obtain⟨k,hk,rfl⟩:=aQ.1 hj;exact⟨k,λ_=>⟨hk,hr⟩⟩
  .exact⟨0,λc'=>absurd c' c⟩
 have h2:((List.range n).map λi=>Classical.choose (h1 i)).Nodup:=by
  rw[List.Nodup,gU];refine fQ (R:=λa b=>a<b) ?_ sZ;intro a b ha hb hab e;have ha':=dz.1 ha;have hb':=dz.1 hb;obtain⟨k1,r1⟩:=Classical.choose_spec (h1 a) ha';obtain⟨k2,r2⟩:=Classical.choose_spec (h1 b) hb';have:a=b:=hu a b _ ha' hb' r1 (by simp only[e];exact r2);omega
 have h3:=jW (n:=at_.length) h2 (λx hx=>by
  obtain⟨i,hi,rfl⟩:=az.1 hx;exact(Classical.choose_spec (h1 i) (dz.1 hi)).1)
 simpa using h3
theorem Aj{F':dh}{root:Nat}(g:bE.Good D)(hr:root<D.length)(hF:bI F')(hs:Same (bz F') (vl D root))(hroot:root∈at_)(hc:∀j side x,j∈at_->x∈opt D side j->x∈at_):F'.length<=at_.length:=by
 have hin:∀j,bE.Reach D root j->j∈at_:=by
  intro j h
  induction h with
  |here=>exact hroot
  | @left j k nd _ hd hk ih=>exact hc j true k ih (by simp[opt,hd];exact hk)
  | @right j k nd _ hd hk ih=>exact hc j false k ih (by simp[opt,hd];exact hk)
 refine Rw (R:=λi j=>Same (vl F' i) (vl D j)) (λi hi=>?_) (λi i' j hi hi' h1 h2=>lX hF.good i i' hi hi' (dn h1 (dU h2)));obtain⟨j,_,rj,sj⟩:=wJ hF.good g hr hs (hF.reach i hi);exact⟨j,hin j rj,sj⟩
structure G6(D F:dh)(at_:List Nat):Prop where
 lt:∀i (h:i<at_.length),at_[i]<D.length
 canon:∀i (h:i<at_.length),Canon (vl D at_[i])
 eqv:∀i (h:i<at_.length),jc (vl D at_[i]) (vl F i)
 shut:∀j side x,j∈at_->x∈opt D side j->x∈at_
theorem G6.nil(F:dh):G6 [] F []:=⟨λi h=>absurd h (by simp),λi h=>absurd h (by simp),λi h=>absurd h (by simp),by simp⟩
theorem G6.next{D':dh}{i:Nat}(g:bE.WF D)(g':bE.WF D')(hF:WF F)(hk:k<F.length)(ha:at_.length=k)(h:G6 D F at_)(hE:∃E,D'=D++E/\E.length<=3)(hi:i<D'.length)(hc:Canon (vl D' i))
 (he:jc (vl D' i) (.mk (((F[k]).1.map λx=>at_.getD x 0).map (vl D)) (((F[k]).2.map λx=>at_.getD x 0).map (vl D)))) (hw:Within D ((F[k]).1.map λx=>at_.getD x 0) ((F[k]).2.map λx=>at_.getD x 0) D' i):G6 D' F (at_++[i]):=by
 obtain⟨E,rfl,_⟩:=hE;have dk:F[k]?=some F[k]:=af hk;have hwk:=hF k _ dk;have key:∀x,x<k->∃hx:x<at_.length,at_.getD x 0=at_[x]:=λx hx=>⟨by omega,by rw[bD,af (by omega)];rfl⟩
 refine⟨xP (P:=λa _=>a<(D++E).length) (λj hj=>by have:=h.lt j hj;simp;omega) hi,xP (P:=λa _=>Canon (vl (D++E) a)) (λj hj=>by rw[jJ g g' _ (h.lt j hj)];exact h.canon j hj) hc,
  xP (P:=λa j=>jc (vl (D++E) a) (vl F j)) (λj hj=>by rw[jJ g g' _ (h.lt j hj)];exact h.eqv j hj) ?_,λj side x hj hx=>?_⟩
 .rw[ha]
  refine he.trans ?_;rw[mJ hF dk,jg,jg];refine X7 (λx hx=>?_) (λx hx=>?_)
  .obtain⟨hl,e⟩:=key x (hwk.1 x hx)
   show jc (vl D (at_.getD x 0)) _;rw[e];exact h.eqv x hl
  .obtain⟨hl,e⟩:=key x (hwk.2 x hx)
   show jc (vl D (at_.getD x 0)) _;rw[e];exact h.eqv x hl
 .have hm:∀l:List Nat,(∀x,x∈l->x<k)->∀y,y∈l.map (λx=>at_.getD x 0)->y∈at_:=λl hl y hy=>by
   obtain⟨x,hx,rfl⟩:=az.1 hy;obtain⟨hl',e⟩:=key x (hl x hx);rw[e];exact ai hl'
  rcases bq.1 hj with hj|hj
  .have hlt:j<D.length:=by obtain⟨q,hq,rfl⟩:=aQ.1 hj;exact h.lt q hq
   rw[qO hlt]at hx;exact List.mem_append_left _ (h.shut j side x hj hx)
  .obtain rfl:j=i:=by simpa using hj
   exact List.mem_append_left _ (hw (λy=>y∈at_) (λa sd y ha hy=>h.shut a sd y ha hy) (hm _ hwk.1) (hm _ hwk.2) side x hx)
theorem MO(h:G6 D F at_)(hl:∀x,x∈l->x<k)(ha:at_.length=k):∀x,x∈l.map (λx=>at_.getD x 0)->Canon (vl D x):=by
 intro x hx;obtain⟨y,hy,rfl⟩:=az.1 hx;have hlt:y<at_.length:=by have:=hl y hy;omega
 have e:at_.getD y 0=at_[y]:=by rw[bD,af hlt];rfl
 rw[e];exact h.canon y hlt
end
