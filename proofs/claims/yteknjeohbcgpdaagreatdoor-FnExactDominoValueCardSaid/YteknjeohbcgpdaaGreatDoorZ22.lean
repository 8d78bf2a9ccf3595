/-
  A book that was made behind a world, and what is kept beside it. (2 texts.)
-/
import Derived.Test.YteknjeohbcgpdaaGreatDoorZ1
import Derived.Test.YteknjeohbcgpdaaGreatDoorZ11
import Derived.Test.YteknjeohbcgpdaaGreatDoorZ21
set_option maxRecDepth 100000
namespace Go.Proofs.YteknjeohbcgpdaaGreatDoor
open Tryz
section
open Go.RowKit
open Cgt (Dag Nd vl Ge Gm Canon Eqv)
def MZ (pb:Nat) (vn vb:Value) (D:Dag) (l r:List Nat) (w:World) (e:Ending) (w':World):Prop :=
 ∃ vn' vb' D' i,e=.returned (.int .i64 ((i:Nat):Int))∧bu w' pb vn' vb' D'∧bg (InS pb vn vb) w w'∧(∀ b,InS pb vn' vb' b→InS pb vn vb b∨w.heap.size≤b) ∧
   (∀ b,dm w' vn' D'.length b→dm w vn D.length b∨w.heap.size≤b)∧(∃ E,D'=D++E∧E.length≤3)∧i<D'.length∧Canon (vl D' i)∧Eqv (vl D' i) (.mk (l.map (vl D)) (r.map (vl D)))∧Within D l r D' i
theorem dm.ord {w w':World} {po pb kb gn cn:Nat} {vb:Value} {D:Dag} (hO:Ord w po pb kb (.slice (some ⟨gn,0,none⟩) D.length cn) vb D) (hg:w.grownBy w' (some kb)) {b:Nat} (h:dm w' (.slice (some ⟨gn,0,none⟩) D.length cn) D.length b):dm w (.slice (some ⟨gn,0,none⟩) D.length cn) D.length b:=by
 obtain⟨i,g,cap,v,hi,he,hc,hv⟩:=h
 obtain⟨L,R,h1,_,_⟩:=hO.yx hi
 obtain⟨a1,a2,_⟩:=h1 w (World.grownBy.refl _ _)
 obtain⟨b1,b2,_⟩:=h1 w' hg
 have he':=he
 simp only[Value.slice.injEq,Option.some.injEq,Addr.mk.injEq,and_true,true_and] at he
 obtain⟨rfl,rfl⟩:=he
 refine⟨i,gn,cn,v,hi,rfl,?_,hv⟩
 rcases hc with hc | hc
 · exact .inl (by rw[a1,← b1];exact hc)
 · exact .inr (by rw[a2,← b2];exact hc)
theorem dM {w w':World} {kb:Nat} (g:w.grownBy w' (some kb)):bg (fun b=>b=kb) w w':=⟨g.os,g.tape,g.output,g.size,fun k hk hn=>g.block k hk (by intro e;injection e with e;exact hn e)⟩
set_option maxHeartbeats 2000000 in
theorem F6 (pb:Nat) (vn vb:Value) (D:Dag) (v u:Value) (l r:List Nat) (w:World) (hB:bu w pb vn vb D) (hv:Ints w v (toZ l)) (hu:Ints w u (toZ r))
 (hl:∀ x,x∈l→x<D.length) (hr:∀ x,x∈r→x<D.length) (hls:l.length≤1000000) (hrs:r.length≤1000000) (hroom:D.length+3≤1000000)
 (cl:∀ x,x∈l→Canon (vl D x)) (cr:∀ x,x∈r→Canon (vl D x)) :
 Calls prog 131 #[.pointer (some ⟨pb,0,none⟩),v,u] w (MZ pb vn vb D l r w):=by
 go_enter Tryz.func131,Tryz.ntmps131
 go_wp2_with (first
  | (go_at_call 134;refine(oQ pb vn vb D _ _ l r _ hB hv hu hl hr hls hrs (by omega)).mono ?_;rintro e w1 ⟨vn1,vb1,D1,i1,rfl,hB1,hK1,hS1,hQ1,hP1⟩)
  | (go_at_call 173;refine(Cj pb vn1 vb1 D1 _ hB1).mono ?_;rintro e w2 ⟨po,kb,rfl,hO,hx2,hkb⟩))
 have hi1:i1<D1.length:=(List.getElem?_eq_some_iff.1 hP1.1).1
 have Bt:D1[i1]=(ai l,ai r):=by have h:=hP1.1;rw[List.getElem?_eq_getElem hi1] at h;injection h
 obtain⟨gn,cn,_,_,rfl,_,_,_⟩:=hO.lists hi1
 obtain⟨L,R,hG,hLk,hRk⟩:=hO.yx hi1
 have hG':=hG
 rw[Bt] at hG'
 obtain⟨gL,gR,iL,iR⟩:=hG' w2 (World.grownBy.refl _ _)
 have c0:=hO.at.cell0
 have hds:=hO.at.small
 obtain⟨aL,cL,rfl,-⟩:=id iL
 obtain⟨aR,cR,rfl,-⟩:=id iR
 have hlen1:=hP1.len
 have hll:∀ x,x∈ai l→x<D1.length:=fun x hx=>by have:=hl x (aK.1 hx);omega
 have hrl:∀ x,x∈ai r→x<D1.length:=fun x hx=>by have:=hr x (aK.1 hx);omega
 have gd:w2.grownBy w2.drew (some kb):=⟨rfl,rfl,rfl,Nat.le_refl _,fun _ _ _=>rfl⟩
 have hkb2:=hO.Bq
 have yK:w2.cell? ⟨pb,0,none⟩=some (.slice (some ⟨gn,0,none⟩) D1.length cn)∧w2.cell? ⟨gn,i1*2,none⟩=some (.slice aL (toZ (ai l)).length cL)∧w2.cell? ⟨gn,i1*2+1,none⟩=some (.slice aR (toZ (ai r)).length cR):=⟨c0,gL,gR⟩
 go_wp2_with fail
 refine fZ (fun w'=>w'.cell? ⟨pb,0,none⟩=some (.slice (some ⟨gn,0,none⟩) D1.length cn)∧w'.cell? ⟨gn,i1*2,none⟩=some (.slice aL (toZ (ai l)).length cL)∧w'.cell? ⟨gn,i1*2+1,none⟩=some (.slice aR (toZ (ai r)).length cR)) [23,24] (by kernel_rfl) yK (fun hHeld=>?_)
 ((refine tkA (i:=0) hHeld ?_);(try simp only[nP]);(refine tkA (i:=1) hHeld ?_);(try simp only[nP]);(refine tkA (i:=2) hHeld ?_);(try simp only[nP]);(refine tkA (i:=3) hHeld ?_);(try simp only[nP]);(refine tkA (i:=4) hHeld ?_);(try simp only[nP]);(refine tkA (i:=5) hHeld ?_);(try simp only[nP]);(refine tkA (i:=6) hHeld ?_);(try simp only[nP]);(refine tkA (i:=7) hHeld ?_);(try simp only[nP]);(refine tkA (i:=8) hHeld ?_);(try simp only[nP]);(refine tkA (i:=9) hHeld ?_);(try simp only[nP]);(refine tkA (i:=10) hHeld ?_);(try simp only[nP]);(refine tkA (i:=12) hHeld ?_);(try simp only[nP]);(refine tkA (i:=13) hHeld ?_);(try simp only[nP]);(refine tkA (i:=14) hHeld ?_);(try simp only[nP]);(refine tkA (i:=15) hHeld ?_);(try simp only[nP]);(refine tkA (i:=16) hHeld ?_);(try simp only[nP]);(refine tkA (i:=17) hHeld ?_);(try simp only[nP]);(refine tkA (i:=18) hHeld ?_);(try simp only[nP]);(refine tkA (i:=19) hHeld ?_);(try simp only[nP]);(refine tkA (i:=20) hHeld ?_);(try simp only[nP]);(refine tkA (i:=21) hHeld ?_);(try simp only[nP]))
 (refine stA (i:=11) fun K hK=>?_;go_simp)
 have hw2:=hO.grown (w':=w2.drew) ⟨rfl,rfl,rfl,Nat.le_refl _,fun _ _ _=>rfl⟩
 refine(yA po pb kb _ vb1 _ D1 i1 (ai l) true _ hw2 hi1 (hG' _ gd).2.2.1 hLk hll (iF (fB _))).mono ?_
 rintro e w3 ⟨v3,l6,BL,rfl,hIL,hiL,hO3,Tj,hf3⟩
 have g3:=gd.trans Tj
 obtain⟨s3a,s3b,-,s3c⟩:=hG' w3 g3
 (refine hK.out _ _ (fun _=>?_) ?_)
 · exact⟨hO3.at.cell0,s3a,s3b⟩
 clear hK K
 (try simp only[nP])
 (refine stA (i:=22) fun K hK=>?_;go_simp)
 refine(yA po pb kb _ vb1 _ D1 i1 (ai r) false _ hO3 hi1 s3c hRk hrl (iF (fB _))).mono ?_
 rintro e w4 ⟨v4,l5,BR,rfl,hIR,hiR,hO4,mh,hf4⟩
 have g4:=g3.trans mh
 obtain⟨s4a,s4b,-,-⟩:=hG' w4 g4
 (refine hK.out _ _ (fun _=>?_) ?_)
 · exact⟨hO4.at.cell0,s4a,s4b⟩
 clear hK K
 (try simp only[nP])
 have hB4:=hO4.at
 have bl4:∀ x,x∈ai BL→x<D1.length:=fun x hx=>hiL.lt x (hiL.kept x (aK.1 hx)).1
 have br4:∀ x,x∈ai BR→x<D1.length:=fun x hx=>hiR.lt x (hiR.kept x (aK.1 hx)).1
 have nl4:(ai BL).length≤1000000:=by have:=lM BL;have:=hiL.kR;have:=hiL.len;omega
 have nr4:(ai BR).length≤1000000:=by have:=lM BR;have:=hiR.kR;have:=hiR.len;omega
 rw[gD] at hIL hIR
 have TJ:Ints w4 v3 (toZ (ai BL)):=oG hIL mh (fun b hb=>by have h:=(hf3 b hb).1;have e:w2.drew.heap.size=w2.heap.size:=rfl;omega)
 refine tlA [23,24] [_,_] ?_
 go_wp2_with (first
  | (go_at_call 134;refine(oQ pb _ vb1 D1 _ _ (ai BL) (ai BR) _ hB4 TJ hIR bl4 br4 nl4 nr4 (by omega)).mono ?_;rintro e w5 ⟨vn2,vb2,D2,i2,rfl,hB2,hK2,hS2,hQ2,hP2⟩)
  | (go_at_call 173;refine(Cj pb vn2 vb2 D2 _ hB2).mono ?_;rintro e w6 ⟨po2,kb2,rfl,hO5,hx5,U2⟩
     have hi2:=hP2.lt
     obtain⟨gn2,cn2,_,_,rfl,_,_,_⟩:=hO5.lists hi2
     obtain⟨L2,R2,hG2,TF,TC⟩:=hO5.yx hi2
     rw[hP2.node,BG (fB BL),BG (fB BR)] at hG2
     obtain⟨gL2,gR2,iL2,iR2⟩:=hG2 w6 (World.grownBy.refl _ _)
     have c02:=hO5.at.cell0
     have U9:=hO5.at.small
     obtain⟨aL2,cL2,rfl,-⟩:=id iL2
     obtain⟨aR2,cR2,rfl,-⟩:=id iR2))
 obtain⟨xb,hxb⟩:∃ xb,xb=w6.heap.size:=⟨_,rfl⟩
 rw[← hxb]
 obtain⟨W,hW⟩:∃ W,W=w6.alloc (Obj.cells #[Value.slice aL2 (toZ (ai BL)).length cL2,Value.slice aR2 (toZ (ai BR)).length cR2] 89):=⟨_,rfl⟩
 rw[← hW]
 have U1:=hO5.Bq
 have cW0:W.cell? ⟨xb,0,none⟩=some (.slice aL2 (toZ (ai BL)).length cL2):=by rw[hW,hxb];exact World.cell?_alloc_at _ _ _ 0 (by simp)
 have cW1:W.cell? ⟨xb,1,none⟩=some (.slice aR2 (toZ (ai BR)).length cR2):=by rw[hW,hxb];exact World.cell?_alloc_at _ _ _ 1 (by simp)
 have gW:w6.grownBy W none:=by rw[hW];exact World.grownBy_alloc _ _ _
 have gWd:W.grownBy W.drew none:=⟨rfl,rfl,rfl,Nat.le_refl _,fun _ _ _=>rfl⟩
 have hOW:=hO5.grown (gW.trans gWd)
 have hxk:xb≠kb2:=by omega
 clear hxb hW
 have hlW:∀ x,x∈ai BL→x<D2.length:=fun x hx=>by have:=bl4 x hx;have:=hP2.len;omega
 have hrW:∀ x,x∈ai BR→x<D2.length:=fun x hx=>by have:=br4 x hx;have:=hP2.len;omega
 have gWk:w6.grownBy W.drew (some kb2):=(gW.trans gWd).but _
 have QG:W.cell? ⟨xb,0,none⟩=some (.slice aL2 (toZ (ai BL)).length cL2)∧W.cell? ⟨xb,1,none⟩=some (.slice aR2 (toZ (ai BR)).length cR2):=⟨cW0,cW1⟩
 refine fZ (fun w'=>w'.cell? ⟨xb,0,none⟩=some (.slice aL2 (toZ (ai BL)).length cL2)∧w'.cell? ⟨xb,1,none⟩=some (.slice aR2 (toZ (ai BR)).length cR2)) [15,16] (by kernel_rfl) QG (fun hHeld=>?_)
 ((refine tkA (i:=0) hHeld ?_);(try simp only[nP]);(refine tkA (i:=1) hHeld ?_);(try simp only[nP]);(refine tkA (i:=2) hHeld ?_);(try simp only[nP]);(refine tkA (i:=3) hHeld ?_);(try simp only[nP]);(refine tkA (i:=4) hHeld ?_);(try simp only[nP]);(refine tkA (i:=5) hHeld ?_);(try simp only[nP]);(refine tkA (i:=8) hHeld ?_);(try simp only[nP]);(refine tkA (i:=9) hHeld ?_);(try simp only[nP]);(refine tkA (i:=10) hHeld ?_);(try simp only[nP]);(refine tkA (i:=11) hHeld ?_);(try simp only[nP]);(refine tkA (i:=12) hHeld ?_);(try simp only[nP]))
 (refine stA (i:=6) fun K hK=>?_;go_simp)
 obtain⟨-,-,i7,-⟩:=hG2 _ gWk
 refine(qp po2 pb kb2 _ vb2 _ D2 (ai BL) true _ hOW i7 TF hlW nl4).mono ?_
 rintro e w7 ⟨v7,zL,rfl,hz7,hd7,hO7,hg7,hf7⟩
 have g7:=gWk.trans hg7
 have s7a:=hg7.cell hHeld.1 (by simpa using hxk)
 have s7b:=hg7.cell hHeld.2 (by simpa using hxk)
 (refine hK.out _ _ (fun _=>?_) ?_)
 · exact⟨s7a,s7b⟩
 clear hK K
 (try simp only[nP])
 (refine stA (i:=7) fun K hK=>?_;go_simp)
 refine(tQ _ _ _ _ _ (hG2 _ g7).2.2.1 hz7 (by rw[aj];omega)).mono ?_
 rintro e w8 ⟨v8,rfl,hz8,hx8,hf8⟩
 have g8:=g7.trans ((eZ hx8).but _)
 have hO8:=hO7.grown (eZ hx8)
 have s8a:=(eZ hx8).cell s7a (by simp)
 have s8b:=(eZ hx8).cell s7b (by simp)
 (refine hK.out _ _ (fun _=>?_) ?_)
 · exact⟨s8a,s8b⟩
 clear hK K
 (try simp only[nP])
 (refine stA (i:=13) fun K hK=>?_;go_simp)
 refine(qp po2 pb kb2 _ vb2 _ D2 (ai BR) false _ hO8 (hG2 _ g8).2.2.2 TC hrW nr4).mono ?_
 rintro e w9 ⟨v9,zR,rfl,hz9,hd9,hO9,hg9,hf9⟩
 have g9:=g8.trans hg9
 have s9a:=hg9.cell s8a (by simpa using hxk)
 have s9b:=hg9.cell s8b (by simpa using hxk)
 (refine hK.out _ _ (fun _=>?_) ?_)
 · exact⟨s9a,s9b⟩
 clear hK K
 (try simp only[nP])
 (refine stA (i:=14) fun K hK=>?_;go_simp)
 refine(tQ _ _ _ _ _ (hG2 _ g9).2.2.2 hz9 (by rw[aj];omega)).mono ?_
 rintro e wa ⟨va,rfl,hza,hxa,hfa⟩
 have ga:=g9.trans ((eZ hxa).but _)
 have hOa:=hO9.grown (eZ hxa)
 (refine hK.out _ _ (fun _=>?_) ?_)
 · exact⟨(eZ hxa).cell s9a (by simp),(eZ hxa).cell s9b (by simp)⟩
 clear hK K
 (try simp only[nP])
 rw[qZ] at hz8 hza
 have hBa:=hOa.at
 have h8a:Ints wa v8 (toZ (woN (ai BL) zL)):=(oG hz8 hg9 (fun b hb=>by have h:=(hf8 b hb).1;have h7:=hg7.size;have e:W.drew.heap.size=W.heap.size:=rfl;have h6:=gW.size;omega)).ext hxa
 have wL:∀ x,x∈woN (ai BL) zL→x∈ai BL:=fun x hx=>by obtain⟨i,h,rfl,_⟩:=vF.1 hx;exact List.getElem_mem h
 have wR:∀ x,x∈woN (ai BR) zR→x∈ai BR:=fun x hx=>by obtain⟨i,h,rfl,_⟩:=vF.1 hx;exact List.getElem_mem h
 have wl1:(woN (ai BL) zL).length≤1000000:=by have:=rf (toZ (ai BL)) zL (toZ (ai BL)).length;have e:=qZ (ai BL) zL;unfold lh at e;rw[e,aj,aj] at this;omega
 have wr1:(woN (ai BR) zR).length≤1000000:=by have:=rf (toZ (ai BR)) zR (toZ (ai BR)).length;have e:=qZ (ai BR) zR;unfold lh at e;rw[e,aj,aj] at this;omega
 have qA:=hP2.len
 refine tlA [15,16] [_,_] ?_
 go_wp2_with (go_at_call 134;refine(oQ pb _ vb2 D2 _ _ (woN (ai BL) zL) (woN (ai BR) zR) _ hBa h8a hza (fun x hx=>hlW x (wL x hx)) (fun x hx=>hrW x (wR x hx)) wl1 wr1 (by omega)).mono ?_;rintro e w' ⟨vn3,vb3,D3,i3,rfl,hB3,hK3,hS3,hQ3,hP3⟩)
 go_ret
 have z1:=hK1.size
 have z2:=hx2.size
 have z4:=g4.size
 have z5:=hK2.size
 have z6:=hx5.size
 have za:=ga.size
 have k2:bg (InS pb vn vb) w w2:=hK1.trans (bZ hx2) (fun _ _ h=>h)
 have k4:=k2.trans (dM g4) (fun x hx h=>by subst h;omega)
 have k5:=k4.trans hK2 (fun x hx h=>by rcases hS1 x h with h | h;exact h;omega)
 have k6:=k5.trans (bZ (F:=fun _=>False) hx5) (fun _ _ h=>h.elim)
 have ka:=k6.trans (dM ga) (fun x hx h=>by subst h;omega)
 have hSS:∀ b,InS pb (.slice (some ⟨gn2,0,none⟩) D2.length cn2) vb2 b→InS pb vn vb b∨w.heap.size≤b:=fun b hb=>by
  rcases hS2 b hb with h | h
  · exact hS1 b h
  · exact .inr (by omega)
 have k7:=ka.trans hK3 (fun x hx h=>by rcases hSS x h with h | h;exact h;omega)
 have hLL:∀ b,dm wa (.slice (some ⟨gn2,0,none⟩) D2.length cn2) D2.length b→dm w vn D.length b∨w.heap.size≤b:=fun b hb=>by
  have h6:=dm.ord hO5 ga hb
  rcases hQ2 b (dm.back hB2 hx5 h6) with h | h
  · have h2:=dm.ord hO g4 h
    rcases hQ1 b (dm.back hB1 hx2 h2) with h | h
    · exact .inl h
    · exact .inr h
  · exact .inr (by omega)
 refine⟨vn3,vb3,D3,i3,rfl,hB3,k7,?_,fun b hb=>?_,Jc hB.good hO.at.good hO5.at.good hB3.good hP1 hP2 hP3 hl hr cl cr hiL hiR hd7 hd9⟩
 · intro b hb
   rcases hS3 b hb with h | h
   · exact hSS b h
   · exact .inr (by omega)
 · rcases hQ3 b hb with h | h
   · exact hLL b h
   · exact .inr (by omega)
end
section
open Go.RowKit
open Cgt (Dag Nd vl)
structure kz (w0 w:World) (pb:Nat) (vn vb:Value) (D:Dag):Prop where
 bk:bu w pb vn vb D
 sep:∀ b,InS pb vn vb b→w0.heap.size≤b
 ext:Ext w0 w
structure dz (w w':World) (pb:Nat) (vn vb:Value) (D:Dag) (vn' vb':Value) (D':Dag):Prop where
 keep:bg (InS pb vn vb) w w'
 ins:∀ b,InS pb vn' vb' b→InS pb vn vb b∨w.heap.size≤b
 lists:∀ b,dm w' vn' D'.length b→dm w vn D.length b∨w.heap.size≤b
 more:∃ E,D'=D++E
theorem dz.len {w w':World} {pb:Nat} {vn vb vn' vb':Value} {D D':Dag} (h:dz w w' pb vn vb D vn' vb' D'):D.length≤D'.length:=by obtain⟨E,rfl⟩:=h.more;simp
theorem dz.refl (w:World) (pb:Nat) (vn vb:Value) (D:Dag):dz w w pb vn vb D vn vb D:=⟨bg.refl _ _,fun _ h=>.inl h,fun _ h=>.inl h,⟨[],by simp⟩⟩
theorem dz.trans {a b c:World} {pb:Nat} {v1 u1 v2 u2 v3 u3:Value} {D1 D2 D3:Dag} (h:dz a b pb v1 u1 D1 v2 u2 D2) (k:dz b c pb v2 u2 D2 v3 u3 D3):dz a c pb v1 u1 D1 v3 u3 D3:=by
 have hz:=h.keep.size
 refine⟨h.keep.trans k.keep (fun x hx hi=>by rcases h.ins x hi with h | h;exact h;omega),fun x hx=>?_,fun x hx=>?_,?_⟩
 · rcases k.ins x hx with h1 | h1
   · exact h.ins x h1
   · exact .inr (by omega)
 · rcases k.lists x hx with h1 | h1
   · exact h.lists x h1
   · exact .inr (by omega)
 · obtain⟨E,rfl⟩:=h.more
   obtain⟨E',rfl⟩:=k.more
   exact⟨E++E',by simp⟩
theorem dz.ext {w w':World} {pb:Nat} {vn vb:Value} {D:Dag} (hB:bu w pb vn vb D) (hx:Ext w w'):dz w w' pb vn vb D vn vb D:=⟨bZ hx,fun _ h=>.inl h,fun _ h=>.inl (dm.back hB hx h),⟨[],by simp⟩⟩
theorem dz.BX {w w':World} {pb:Nat} {vn vb vn' vb':Value} {D D':Dag} {l r:List Nat} {i:Nat} (h1:bg (InS pb vn vb) w w') (h2:∀ b,InS pb vn' vb' b→InS pb vn vb b∨w.heap.size≤b) (h3:∀ b,dm w' vn' D'.length b→dm w vn D.length b∨w.heap.size≤b) (h4:eT D l r D' i):dz w w' pb vn vb D vn' vb' D' :=
 ⟨h1,h2,h3,by obtain⟨E,h,_⟩:=h4.ext;exact⟨E,h⟩⟩
theorem bu.ma {w:World} {pb:Nat} {vn vb:Value} {D:Dag} (h:bu w pb vn vb D) {b:Nat} (hb:InS pb vn vb b):b<w.heap.size:=by
 obtain⟨xs,ho,_⟩:=h.nodes
 rcases hb with rfl | hb | hb
 · exact h.lt
 · exact(ho.lt b hb).2
 · exact(h.born.lt b hb).2
theorem bu.pI {w:World} {pb:Nat} {vn vb:Value} {D:Dag} (h:bu w pb vn vb D) {b:Nat} (hb:dm w vn D.length b):b<w.heap.size∧¬ InS pb vn vb b:=by
 obtain⟨i,g,cap,v,hi,he,hc,hv⟩:=hb
 obtain⟨g',cap',L,R,he',_,_,c1,c2,_,_,h5,h6⟩:=h.Ca hi
 rw[he] at he'
 simp only[Value.slice.injEq,Option.some.injEq,Addr.mk.injEq,and_true,true_and] at he'
 obtain⟨rfl,rfl⟩:=he'
 rcases hc with hc | hc
 · rw[c1] at hc;injection hc with hc;subst hc;exact⟨(h5 b hv).2,(h5 b hv).1⟩
 · rw[c2] at hc;injection hc with hc;subst hc;exact⟨(h6 b hv).2,(h6 b hv).1⟩
theorem bu.qw {w w':World} {pb:Nat} {vn vb:Value} {D:Dag} {G:Nat→Prop} (h:bu w pb vn vb D) (hk:bg G w w') (h1:∀ b,InS pb vn vb b→¬ G b) (h2:∀ b,dm w vn D.length b→¬ G b):bu w' pb vn vb D:=by
 obtain⟨t,ht⟩:=h.cells
 obtain⟨xs,ho,hn⟩:=h.nodes
 have hz:=hk.size
 refine⟨h.good,h.small,⟨t,?_⟩,aI h.born hk (fun b hb=>h1 b (.inr (.inr hb))),⟨xs,aI ho hk (fun b hb=>h1 b (.inr (.inl hb))),fun i hi=>?_⟩,h.fM,h.gX,h.gV⟩
 · rw[hk.block pb h.lt (h1 pb (.inl rfl))];exact ht
 · obtain⟨L,R,c1,c2,c3,c4,c5,c6⟩:=hn i hi
   obtain⟨g,cap,he,_,_,hcell⟩:=dC ho (by omega)
   have hl1:=ho.1
   have b1:w.cell? ⟨g,i*2,none⟩=some L:=by rw[hcell _ (by omega),Nat.mul_comm];exact c1
   have b2:w.cell? ⟨g,i*2+1,none⟩=some R:=by rw[hcell _ (by omega),Nat.mul_comm];exact c2
   refine⟨L,R,c1,c2,qx c3 hk (fun b hb=>h2 b ⟨i,g,cap,L,hi,he,.inl b1,hb⟩),qx c4 hk (fun b hb=>h2 b ⟨i,g,cap,R,hi,he,.inr b2,hb⟩),fun b hb=>⟨(c5 b hb).1,by have:=(c5 b hb).2;omega⟩,fun b hb=>⟨(c6 b hb).1,by have:=(c6 b hb).2;omega⟩⟩
theorem dm.qw {w w':World} {pb:Nat} {vn vb:Value} {D:Dag} {G:Nat→Prop} (h:bu w pb vn vb D) (hk:bg G w w') (h1:∀ b,InS pb vn vb b→¬ G b) {b:Nat} (hb:dm w' vn D.length b):dm w vn D.length b:=by
 obtain⟨i,g,cap,v,hi,he,hc,hv⟩:=hb
 obtain⟨xs,ho,_⟩:=h.nodes
 have hg:=(ho.lt g (by rw[he];rfl)).2
 have e:=hk.block g hg (h1 g (.inr (.inl (by rw[he];rfl))))
 refine⟨i,g,cap,v,hi,he,?_,hv⟩
 rcases hc with hc | hc
 · exact .inl (by rw[← World.cell?_of_block (w:=w) e];exact hc)
 · exact .inr (by rw[← World.cell?_of_block (w:=w) e];exact hc)
theorem kz.ext' {w0 w w':World} {pb:Nat} {vn vb:Value} {D:Dag} (h:kz w0 w pb vn vb D) (hx:Ext w w'):kz w0 w' pb vn vb D:=⟨h.bk.ext hx,h.sep,aa h.ext hx⟩
theorem kz.go {w0 w w':World} {pb:Nat} {vn vb vn' vb':Value} {D D':Dag} (h:kz w0 w pb vn vb D) (hB:bu w' pb vn' vb' D') (hg:dz w w' pb vn vb D vn' vb' D'):kz w0 w' pb vn' vb' D':=by
 have hz:=h.ext.size
 refine⟨hB,fun b hb=>?_,⟨hg.keep.os.trans h.ext.os,hg.keep.tape.trans h.ext.tape,hg.keep.output.trans h.ext.output,Nat.le_trans hz hg.keep.size,fun k hk=>?_⟩⟩
 · rcases hg.ins b hb with h1 | h1
   · exact h.sep b h1
   · omega
 · rw[hg.keep.block k (by omega) (fun hi=>by have:=h.sep k hi;omega)];exact h.ext.block k hk
structure Beside (w:World) (pb:Nat) (vn vb:Value) (D:Dag) (b:Nat):Prop where
 ins:¬ InS pb vn vb b
 lists:¬ dm w vn D.length b
theorem Beside.go {w w':World} {pb:Nat} {vn vb vn' vb':Value} {D D':Dag} {b:Nat} (h:Beside w pb vn vb D b) (hb:b<w.heap.size) (hg:dz w w' pb vn vb D vn' vb' D'):Beside w' pb vn' vb' D' b :=
 ⟨fun k=>by rcases hg.ins b k with k | k;exact h.ins k;omega,fun k=>by rcases hg.lists b k with k | k;exact h.lists k;omega⟩
theorem Beside.new {w:World} {pb:Nat} {vn vb:Value} {D:Dag} (h:bu w pb vn vb D) {b:Nat} (hb:w.heap.size≤b):Beside w pb vn vb D b :=
 ⟨fun k=>by have:=h.ma k;omega,fun k=>by have:=(h.pI k).1;omega⟩
theorem Beside.goE {w w':World} {pb:Nat} {vn vb:Value} {D:Dag} {b:Nat} (h:Beside w pb vn vb D b) (hB:bu w pb vn vb D) (hx:Ext w w'):Beside w' pb vn vb D b:=⟨h.ins,fun k=>h.lists (dm.back hB hx k)⟩
theorem Beside.row {w0 w w' X:World} {pb:Nat} {vn0 vb0 vn vb:Value} {D0 D:Dag} {v v':Value} (hG:dz w0 w pb vn0 vb0 D0 vn vb D) (hB:bu w pb vn vb D) (h:∀ b,v.ownBlock=some b→w0.heap.size≤b∧Beside w pb vn vb D b) (hX:Ext w X) (hg:X.grownBy w' v.ownBlock) (hl:eU X v v') :
 bu w' pb vn vb D∧dz w0 w' pb vn0 vb0 D0 vn vb D∧(∀ b,v'.ownBlock=some b→w0.heap.size≤b∧Beside w' pb vn vb D b)∧(∀ b,Beside w pb vn vb D b→Beside w' pb vn vb D b):=by
 have hk:bg (fun b=>v.ownBlock=some b) w w':=⟨hg.os.trans hX.os,hg.tape.trans hX.tape,hg.output.trans hX.output,Nat.le_trans hX.size hg.size,fun k hk hn=>by rw[hg.block k (Nat.lt_of_lt_of_le hk hX.size) (fun e=>hn e.symm)];exact hX.block k hk⟩
 have hB':=hB.qw hk (fun b hb e=>(h b e).2.ins hb) (fun b hb e=>(h b e).2.lists hb)
 have hL:∀ b,dm w' vn D.length b→dm w vn D.length b:=fun b hb=>dm.qw hB hk (fun b hb e=>(h b e).2.ins hb) hb
 have hz:=hG.keep.size
 have hzX:=hX.size
 refine⟨hB',⟨hG.keep.trans hk (fun x hx e=>by have:=(h x e).1;omega),hG.ins,fun b hb=>hG.lists b (hL b hb),hG.more⟩,fun b hb=>?_,fun b hb=>⟨hb.ins,fun k=>hb.lists (hL b k)⟩⟩
 rcases hl with h1 | ⟨g,h1,h2⟩
 · rw[h1] at hb
   obtain⟨a,c⟩:=h b hb
   exact⟨a,c.ins,fun k=>c.lists (hL b k)⟩
 · rw[h1] at hb;injection hb with hb;subst hb
   exact⟨by omega,fun k=>by have:=hB.ma k;omega,fun k=>by have:=(hB.pI (hL _ k)).1;omega⟩
end
end Go.Proofs.YteknjeohbcgpdaaGreatDoor