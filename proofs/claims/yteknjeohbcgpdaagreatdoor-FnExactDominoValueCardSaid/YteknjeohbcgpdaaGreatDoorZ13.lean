/-
  Contract of the reference's l5Zero. (8 texts.)
-/
import Derived.Test.YteknjeohbcgpdaaGreatDoorZ1
import Derived.Test.YteknjeohbcgpdaaGreatDoorZ2
import Derived.Test.YteknjeohbcgpdaaGreatDoorZ12
import Derived.Lib.SlicesS
import Derived.Deep.DeepCutAuto
import Derived.Deep.CutBlock
import Derived.Laws.Rows
set_option maxRecDepth 100000
namespace Go.Proofs.YteknjeohbcgpdaaGreatDoor
open Tryz
section
open Go.RowKit
open Cgt (Dag Nd vl nc cl)
theorem zJ:∀ l m:List Nat,clZ (toZ l) (toZ m)=cl l m
 | [],[]=>rfl
 | [],_ :: _=>rfl
 | _ :: _,[]=>rfl
 | a :: l,b :: m=>by
   have ih:=zJ l m
   simp only[toZ,List.map_cons] at ih ⊢
   simp only[clZ,cl,ih]
   by_cases h:a<b
   · rw[if_pos h,if_pos (by omega)]
   · rw[if_neg h,if_neg (by omega)]
     by_cases k:b<a
     · rw[if_pos k,if_pos (by omega)]
     · rw[if_neg k,if_neg (by omega)]
theorem tN (v1 v2 u1 u2:Value) (a b:Nd) (w:World) (h1:Ints w v1 (toZ a.1)) (h2:Ints w v2 (toZ a.2)) (k1:Ints w u1 (toZ b.1)) (k2:Ints w u2 (toZ b.2)) :
 Calls prog 179 #[.agg #[v1,v2],.agg #[u1,u2]] w fun e w'=>e=.returned (.bool (decide (nc a b<0)))∧Ext w w':=by
 obtain⟨_,_,rfl,-⟩:=id h1
 obtain⟨_,_,rfl,-⟩:=id h2
 obtain⟨_,_,rfl,-⟩:=id k1
 obtain⟨_,_,rfl,-⟩:=id k2
 have hcl:=zJ a.1 b.1
 have hcr:=zJ a.2 b.2
 have hn:nc a b=if cl a.1 b.1≠0 then cl a.1 b.1 else cl a.2 b.2:=rfl
 go_enter Tryz.func179,Tryz.ntmps179
 by_cases h0:cl a.1 b.1=0
 · have hN:Hid (nc a b=cl a.2 b.2):=by rw[Hid,hn,if_neg (by simpa using h0)]
   clear hn
   go_wp2_with (first
    | (go_at_call 209;refine(sJ _ _ (toZ a.1) (toZ b.1) _ (by refine h1.ext ?_;first | (go_grown;done) | (refine bN ?_ _;go_grown;done)) (by refine k1.ext ?_;first | (go_grown;done) | (refine bN ?_ _;go_grown;done))).mono ?_;rintro e w1 ⟨rfl,n1,rfl⟩;rw[hcl])
    | (go_at_call 209;refine(sJ _ _ (toZ a.2) (toZ b.2) _ (by refine h2.ext ?_;first | (go_grown;done) | (refine bN ?_ _;go_grown;done)) (by refine k2.ext ?_;first | (go_grown;done) | (refine bN ?_ _;go_grown;done))).mono ?_;rintro e w1 ⟨rfl,n2,rfl⟩;rw[hcr]))
   go_ret
   refine⟨by rw[hN.out];rfl,?_⟩
   first | (refine bN ?_ _;go_grown;done) | (refine bN ?_ _;refine bN ?_ _;go_grown;done)
 · have hN:Hid (nc a b=cl a.1 b.1):=by rw[Hid,hn,if_pos h0]
   have hb:(cl a.1 b.1 == 0)=false:=by simpa using h0
   clear hn
   go_wp2_with (go_at_call 209;refine(sJ _ _ (toZ a.1) (toZ b.1) _ (by refine h1.ext ?_;first | (go_grown;done) | (refine bN ?_ _;go_grown;done)) (by refine k1.ext ?_;first | (go_grown;done) | (refine bN ?_ _;go_grown;done))).mono ?_;rintro e w1 ⟨rfl,n1,rfl⟩;rw[hcl])
   go_ret
   refine⟨by rw[hN.out];rfl,?_⟩
   refine bN ?_ _;go_grown
end
section
open Go.RowKit
open Cgt (Dag Nd vl)
def eD (w:World) (xs:List Value) (F:Dag) (base:Nat) (K:Nat→Prop):Prop :=
 ∀ i (h:i<F.length),∃ L R,xs[i*2]?=some L∧xs[i*2+1]?=some R∧Ints w L (toZ (F[i]).1)∧Ints w R (toZ (F[i]).2) ∧
   (∀ b,L.ownBlock=some b→base≤b∧b<w.heap.size∧¬ K b)∧(∀ b,R.ownBlock=some b→base≤b∧b<w.heap.size∧¬ K b)
theorem eD.nil (w:World) (base:Nat) (K:Nat→Prop):eD w [] [] base K:=fun i h=>absurd h (by simp)
theorem qx {w w':World} {G:Nat→Prop} {v:Value} {l:List Int} (h:Ints w v l) (hk:bg G w w') (hn:∀ b,v.ownBlock=some b→¬ G b):Ints w' v l :=
 h.keep fun b hl hb=>hk.block b (h.blk hl hb) (hn b hb)
theorem eD.keep {w w':World} {xs:List Value} {F:Dag} {base:Nat} {K K' G:Nat→Prop} (h:eD w xs F base K) (hk:bg G w w') (hG:∀ b,G b→K b) (hK:∀ b,K' b→K b∨w.heap.size≤b):eD w' xs F base K':=by
 intro i hi
 obtain⟨L,R,h1,h2,h3,h4,h5,h6⟩:=h i hi
 have hz:=hk.size
 exact⟨L,R,h1,h2,qx h3 hk (fun b hb g=>(h5 b hb).2.2 (hG b g)),qx h4 hk (fun b hb g=>(h6 b hb).2.2 (hG b g)),
  fun b hb=>⟨(h5 b hb).1,by have:=(h5 b hb).2.1;omega,fun k=>by rcases hK b k with k | k;exact(h5 b hb).2.2 k;have:=(h5 b hb).2.1;omega⟩,
  fun b hb=>⟨(h6 b hb).1,by have:=(h6 b hb).2.1;omega,fun k=>by rcases hK b k with k | k;exact(h6 b hb).2.2 k;have:=(h6 b hb).2.1;omega⟩⟩
theorem eD.ext {w w':World} {xs:List Value} {F:Dag} {base:Nat} {K:Nat→Prop} (h:eD w xs F base K) (hx:Ext w w'):eD w' xs F base K :=
 h.keep (bZ (F:=fun _=>False) hx) (fun _ g=>g.elim) (fun _ k=>.inl k)
theorem getElem?_pairs {xs:List Value} {n:Nat} (hx:xs.length=n*2) {L R:Value} {i:Nat} (hi:i≤n) (j:Nat) :
 (xs.take (i*2)++([L,R]++xs.drop (i*2)))[j]?=if j<i*2 then xs[j]? else if j=i*2 then some L else if j=i*2+1 then some R else xs[j-2]?:=by
 have hl:(xs.take (i*2)).length=i*2:=by rw[List.length_take];omega
 by_cases h1:j<i*2
 · rw[if_pos h1,List.getElem?_append_left (by omega),List.getElem?_take,if_pos h1]
 · rw[if_neg h1,List.getElem?_append_right (by omega),hl]
   by_cases h2:j=i*2
   · rw[if_pos h2,show j-i*2=0 by omega];rfl
   · rw[if_neg h2]
     by_cases h3:j=i*2+1
     · rw[if_pos h3,show j-i*2=1 by omega];rfl
     · rw[if_neg h3,List.getElem?_append_right (by simp;omega),List.getElem?_drop]
       congr 1;simp;omega
theorem eD.insert {w:World} {xs:List Value} {F:Dag} {base:Nat} {K:Nat→Prop} (h:eD w xs F base K) (hx:xs.length=F.length*2) {nd:Nd} {L R:Value} {i:Nat} (hi:i≤F.length)
 (hL:Ints w L (toZ nd.1)) (hR:Ints w R (toZ nd.2)) (bL:∀ b,L.ownBlock=some b→base≤b∧b<w.heap.size∧¬ K b) (bR:∀ b,R.ownBlock=some b→base≤b∧b<w.heap.size∧¬ K b) :
 eD w (xs.take (i*2)++([L,R]++xs.drop (i*2))) (F.take i++nd :: F.drop i) base K:=by
 intro j hj
 have hlt:(F.take i).length=i:=by rw[List.length_take];omega
 have hjl:j<F.length+1:=by simp at hj;omega
 rcases Nat.lt_trichotomy j i with c | c | c
 · obtain⟨L',R',h1,h2,h3⟩:=h j (by omega)
   refine⟨L',R',?_,?_,?_⟩
   · rw[getElem?_pairs hx hi,if_pos (by omega)];exact h1
   · rw[getElem?_pairs hx hi,if_pos (by omega)];exact h2
   · rw[List.getElem_append_left (by omega),List.getElem_take];exact h3
 · subst c
   refine⟨L,R,?_,?_,?_⟩
   · rw[getElem?_pairs hx hi,if_neg (by omega),if_pos rfl]
   · rw[getElem?_pairs hx hi,if_neg (by omega),if_neg (by omega),if_pos rfl]
   · rw[List.getElem_append_right (by omega)]
     simp only[hlt,Nat.sub_self,List.getElem_cons_zero]
     exact⟨hL,hR,bL,bR⟩
 · obtain⟨L',R',h1,h2,h3⟩:=h (j-1) (by omega)
   refine⟨L',R',?_,?_,?_⟩
   · rw[getElem?_pairs hx hi,if_neg (by omega),if_neg (by omega),if_neg (by omega),show j*2-2=(j-1)*2 by omega];exact h1
   · rw[getElem?_pairs hx hi,if_neg (by omega),if_neg (by omega),if_neg (by omega),show j*2+1-2=(j-1)*2+1 by omega];exact h2
   · rw[List.getElem_append_right (by omega)]
     have e:j-(F.take i).length=(j-1-i)+1:=by omega
     simp only[e,List.getElem_cons_succ,List.getElem_drop]
     have e2:i+(j-1-i)=j-1:=by omega
     simp only[e2]
     exact h3
def bP (w:World) (base:Nat) (v:Value) (F:Dag):Prop:=∃ a cap,v=.slice a F.length cap∧F.length≤cap∧F.length≤maxLen ∧
 (0<F.length→∃ b,a=some ⟨b,0,none⟩∧base≤b∧∀ i (h:i<F.length),∃ L R,w.cell? ⟨b,i*2,none⟩=some L∧w.cell? ⟨b,i*2+1,none⟩=some R∧Ints w L (toZ (F[i]).1)∧Ints w R (toZ (F[i]).2) ∧
  (∀ b,L.ownBlock=some b→base≤b∧b<w.heap.size)∧(∀ b,R.ownBlock=some b→base≤b∧b<w.heap.size))
theorem bP.ext {w w':World} {base:Nat} {v:Value} {F:Dag} (h:bP w base v F) (hx:Ext w w'):bP w' base v F:=by
 obtain⟨a,cap,rfl,h1,h2,h3⟩:=h
 refine⟨a,cap,rfl,h1,h2,fun h0=>?_⟩
 obtain⟨b,rfl,hb,hc⟩:=h3 h0
 refine⟨b,rfl,hb,fun i hi=>?_⟩
 obtain⟨L,R,c1,c2,c3,c4,c5,c6⟩:=hc i hi
 have hz:=hx.size
 exact⟨L,R,(hx.cell (lt_of_cell c1)).trans c1,(hx.cell (lt_of_cell c2)).trans c2,c3.ext hx,c4.ext hx,fun b hb=>⟨(c5 b hb).1,by have:=(c5 b hb).2;omega⟩,fun b hb=>⟨(c6 b hb).1,by have:=(c6 b hb).2;omega⟩⟩
theorem bP.bG {w:World} {base e:Nat} {v:Value} {xs:List Value} {F:Dag} {K:Nat→Prop} (h:w.ownsRow base e 2 v F.length xs) (hn:eD w xs F base K):bP w base v F:=by
 rcases Nat.eq_zero_or_pos F.length with h0 | h0
 · obtain⟨a,cap,rfl,h1,h2⟩:=az h
   exact⟨a,cap,rfl,h1,by omega,fun k=>absurd k (by omega)⟩
 · obtain⟨g,cap,rfl,h1,h2,h3⟩:=dC h h0
   refine⟨_,cap,rfl,h1,by omega,fun _=>⟨g,rfl,(h.lt g rfl).1,fun i hi=>?_⟩⟩
   obtain⟨L,R,c1,c2,c3,c4,c5,c6⟩:=hn i hi
   exact⟨L,R,by rw[h3 _ (by omega)];exact c1,by rw[h3 _ (by omega)];exact c2,c3,c4,fun b hb=>⟨(c5 b hb).1,(c5 b hb).2.1⟩,fun b hb=>⟨(c6 b hb).1,(c6 b hb).2.1⟩⟩
theorem bP.weaken {w:World} {base base':Nat} {v:Value} {F:Dag} (h:bP w base v F) (hb:base'≤base):bP w base' v F:=by
 obtain⟨a,cap,rfl,h1,h2,h3⟩:=h
 refine⟨a,cap,rfl,h1,h2,fun h0=>?_⟩
 obtain⟨b,rfl,hb',hc⟩:=h3 h0
 refine⟨b,rfl,by omega,fun i hi=>?_⟩
 obtain⟨L,R,c1,c2,c3,c4,c5,c6⟩:=hc i hi
 exact⟨L,R,c1,c2,c3,c4,fun b hb=>⟨by have:=(c5 b hb).1;omega,(c5 b hb).2⟩,fun b hb=>⟨by have:=(c6 b hb).1;omega,(c6 b hb).2⟩⟩
theorem bP.at {w:World} {base:Nat} {v:Value} {F:Dag} (h:bP w base v F) {i:Nat} (hi:i<F.length) :
 ∃ b cap aL cL aR cR,v=.slice (some ⟨b,0,none⟩) F.length cap∧F.length≤cap∧w.cell? ⟨b,i*2,none⟩=some (.slice aL (F[i]).1.length cL)∧w.cell? ⟨b,i*2+1,none⟩=some (.slice aR (F[i]).2.length cR) ∧
   Ints w (.slice aL (F[i]).1.length cL) (toZ (F[i]).1)∧Ints w (.slice aR (F[i]).2.length cR) (toZ (F[i]).2):=by
 obtain⟨a,cap,rfl,h1,h2,h3⟩:=h
 obtain⟨b,rfl,hb,hc⟩:=h3 (by omega)
 obtain⟨L,R,c1,c2,c3,c4,c5,c6⟩:=hc i hi
 obtain⟨aL,cL,rfl,-⟩:=id c3
 obtain⟨aR,cR,rfl,-⟩:=id c4
 rw[aj] at c1 c2 c3 c4
 exact⟨b,cap,aL,cL,aR,cR,rfl,h1,c1,c2,c3,c4⟩
theorem bP.slice {w:World} {base:Nat} {v:Value} {F:Dag} (h:bP w base v F):∃ a c,v=.slice a F.length c:=by
 obtain⟨a,c,h,_⟩:=h;exact⟨a,c,h⟩
end
section
open Go.RowKit
open Cgt (Dag Nd vl)
theorem aI {w w':World} {G:Nat→Prop} {B e size n:Nat} {v:Value} {xs:List Value} (h:w.ownsRow B e size v n xs) (hk:bg G w w') (hn:∀ b,v.ownBlock=some b→¬ G b):w'.ownsRow B e size v n xs:=by
 obtain⟨hl,h⟩:=h
 refine⟨hl,?_⟩
 rcases h with h | ⟨g,cap,cur,rfl,hb,hg,h1⟩
 · exact .inl h
 · exact .inr ⟨g,cap,cur,rfl,hb,by rw[hk.block g (Array.getElem?_eq_some_iff.1 hg).1 (hn g rfl)];exact hg,h1⟩
def KF (w:World) (o gat:Nat) (vN:Value) (b:Nat):Prop:=b=o∨b=gat∨b=w.heap.size∨vN.ownBlock=some b
structure kT (w wr:World) (o gat:Nat) (vN:Value) (root:Nat) (F:Dag) (at_:List Nat):Prop where
 ext:Ext w wr
 res:wr.heap[w.heap.size]?=some (.cells #[.slice none 0 0] 28 (0,0))
 atr:wr.ownsRow w.heap.size 3 1 (.slice (some ⟨gat,0,none⟩) (root+1) (root+1)) (root+1) ((toZ at_).map (Value.int .i64))
 out:wr.heap[o]?=some (.cells #[vN] 28 (0,0))
 nodes:∃ xs,wr.ownsRow w.heap.size 89 2 vN F.length xs∧eD wr xs F w.heap.size (KF w o gat vN)
 a1:vN.ownBlock≠some o
 a2:vN.ownBlock≠some gat
 a3:vN.ownBlock≠some w.heap.size
 a4:o≠gat
 a5:o≠w.heap.size
 a6:gat≠w.heap.size
 a7:w.heap.size≤o
theorem ah {w:World} {b:Nat} {x:Obj} (h:w.heap[b]?=some x):b<w.heap.size:=(Array.getElem?_eq_some_iff.1 h).1
theorem kT.ext' {w wr w':World} {o gat:Nat} {vN:Value} {root:Nat} {F:Dag} {at_:List Nat} (h:kT w wr o gat vN root F at_) (hx:Ext wr w'):kT w w' o gat vN root F at_:=by
 obtain⟨xs,h1,h2⟩:=h.nodes
 exact⟨aa h.ext hx,by rw[hx.block _ (ah h.res)];exact h.res,aJ h.atr hx,by rw[hx.block _ (ah h.out)];exact h.out,⟨xs,aJ h1 hx,h2.ext hx⟩,h.a1,h.a2,h.a3,h.a4,h.a5,h.a6,h.a7⟩
theorem bJ {w:World} {p:Addr} {v:Value}:bg (fun b=>b=p.block) w (w.setCell p v):=⟨rfl,rfl,rfl,by simp,fun k _ hn=>heap_setCell_other _ _ _ _ hn⟩
theorem kT.setAt {w wr:World} {o gat:Nat} {vN:Value} {root:Nat} {F:Dag} {at_:List Nat} (h:kT w wr o gat vN root F at_) (k x:Nat) :
 kT w (wr.setCell ⟨gat,k,none⟩ (.int .i64 (x:Int))) o gat vN root F (at_.set k x)∧bg (KF w o gat vN) wr (wr.setCell ⟨gat,k,none⟩ (.int .i64 (x:Int))):=by
 have hk:=bJ (w:=wr) (p:=⟨gat,k,none⟩) (v:=.int .i64 (x:Int))
 obtain⟨xs,h1,h2⟩:=h.nodes
 have hs:=h.atr.stored k (.int .i64 (x:Int))
 have hge:=(h.atr.lt gat rfl).1
 refine⟨⟨h.ext.setCell (p:=⟨gat,k,none⟩) hge _,?_,?_,?_,⟨xs,aI h1 hk (fun b hb e=>h.a2 (by rw[hb,e])),h2.keep hk (fun b e=>.inr (.inl e)) (fun b k=>.inl k)⟩,h.a1,h.a2,h.a3,h.a4,h.a5,h.a6,h.a7⟩,?_⟩
 · rw[heap_setCell_other _ _ _ _ (by exact h.a6.symm)];exact h.res
 · have e:(toZ (at_.set k x)).map (Value.int .i64)=((toZ at_).map (Value.int .i64)).set k (.int .i64 (x:Int)):=by simp[toZ,List.map_set]
   rw[e];exact hs.1
 · rw[heap_setCell_other _ _ _ _ (by exact h.a4)];exact h.out
 · exact⟨hk.os,hk.tape,hk.output,hk.size,fun b hb hn=>hk.block b hb (fun e=>hn (.inr (.inl e)))⟩
theorem kT.push {w wr wd w1:World} {o gat:Nat} {vN vN':Value} {root:Nat} {F:Dag} {at_:List Nat} {xs:List Value} {nd:Nd} {L R:Value} (h:kT w wr o gat vN root F at_)
 (h2:eD wr xs F w.heap.size (KF w o gat vN)) (hxl:xs.length=F.length*2) (hd:Ext wr wd) (hdz:wd.heap.size=wr.heap.size)
 (hL:Ints wr L (toZ nd.1)) (hR:Ints wr R (toZ nd.2)) (bL:∀ b,L.ownBlock=some b→w.heap.size≤b∧b<wr.heap.size∧¬ KF w o gat vN b) (bR:∀ b,R.ownBlock=some b→w.heap.size≤b∧b<wr.heap.size∧¬ KF w o gat vN b)
 (hg1:(wd.alloc (.cells #[L,R] 89)).grownBy w1 vN.ownBlock) (ho1:w1.ownsRow w.heap.size 89 2 vN' (F.length+1) (xs++[L,R])) (hl1:eU (wd.alloc (.cells #[L,R] 89)) vN vN') :
 kT w (w1.setCell ⟨o,0,none⟩ vN') o gat vN' root (F++[nd]) at_∧bg (KF w o gat vN) wr (w1.setCell ⟨o,0,none⟩ vN')∧(∀ b,KF w o gat vN' b→KF w o gat vN b∨wr.heap.size≤b):=by
 have hgx:Ext wr (wd.alloc (.cells #[L,R] 89)):=aa hd (by go_grown)
 have z1:=hg1.size
 rw[sA_,hdz] at z1
 have hk1:bg (KF w o gat vN) wr w1:=by
  refine⟨hg1.os.trans hgx.os,hg1.tape.trans hgx.tape,hg1.output.trans hgx.output,by omega,fun k hk hn=>?_⟩
  rw[hg1.block k (by rw[sA_];omega) (fun e=>hn (.inr (.inr (.inr e.symm))))]
  exact hgx.block k hk
 have hk2:bg (KF w o gat vN) wr (w1.setCell ⟨o,0,none⟩ vN'):=by
  refine⟨hk1.os,hk1.tape,hk1.output,by rw[World.size_setCell];exact hk1.size,fun k hk hn=>?_⟩
  rw[heap_setCell_other _ _ _ _ (fun e=>hn (.inl e))];exact hk1.block k hk hn
 have hK:∀ b,KF w o gat vN' b→KF w o gat vN b∨wr.heap.size≤b:=by
  rintro b (e | e | e | e)
  · exact .inl (.inl e)
  · exact .inl (.inr (.inl e))
  · exact .inl (.inr (.inr (.inl e)))
  · rcases hl1 with h' | ⟨g,h',k⟩
    · exact .inl (.inr (.inr (.inr (by rw[← h'];exact e))))
    · rw[h'] at e;injection e with e;rw[sA_,hdz] at k;exact .inr (by omega)
 have zo:=ah h.out
 have zr:=ah h.res
 have zg:=(h.atr.lt gat rfl)
 have ap:∀ b,b<wr.heap.size→vN.ownBlock≠some b→vN'.ownBlock≠some b:=by
  intro b hb hn e
  rcases hl1 with h' | ⟨g,h',k⟩
  · exact hn (by rw[← h'];exact e)
  · rw[h'] at e;injection e with e;rw[sA_,hdz] at k;omega
 have b1:∀ k,k<wr.heap.size→vN.ownBlock≠some k→w1.heap[k]?=wr.heap[k]?:=by
  intro k hk hn
  rw[hg1.block k (by rw[sA_];omega) (fun e=>hn e.symm)]
  exact hgx.block k hk
 have ho:w1.heap[o]?=some (.cells #[vN] 28 (0,0)):=by rw[b1 o zo h.a1];exact h.out
 have hks:=bJ (w:=w1) (p:=⟨o,0,none⟩) (v:=vN')
 refine⟨⟨⟨hk2.os.trans h.ext.os,hk2.tape.trans h.ext.tape,hk2.output.trans h.ext.output,Nat.le_trans h.ext.size hk2.size,fun k hk=>?_⟩,?_,?_,?_,⟨xs++[L,R],?_,?_⟩,ap o zo h.a1,ap gat zg.2 h.a2,ap _ zr h.a3,h.a4,h.a5,h.a6,h.a7⟩,hk2,hK⟩
 · have hz:=h.ext.size
   have:¬ KF w o gat vN k:=by
    rintro(e | e | e | e)
    · have:=h.a7;omega
    · omega
    · omega
    · obtain⟨xs',ho',_⟩:=h.nodes
      have:=(ho'.lt k e).1;omega
   rw[hk2.block k (by omega) this];exact h.ext.block k hk
 · rw[heap_setCell_other _ _ _ _ (by exact h.a5.symm),b1 _ zr h.a3];exact h.res
 · refine aI (aI h.atr (w':=w1) (G:=fun b=>vN.ownBlock=some b) ⟨hk1.os,hk1.tape,hk1.output,hk1.size,b1⟩ (fun b hb e=>?_)) hks (fun b hb e=>?_)
   · simp[Value.ownBlock] at hb;subst hb;exact h.a2 e
   · simp[Value.ownBlock] at hb;subst hb;exact h.a4 e.symm
 · exact heap_setCell_same _ _ _ _ _ _ ho
 · refine aI (by simpa using ho1) hks (fun b hb e=>ap o zo h.a1 (by rw[hb,e]))
 · have hr2:=h2.insert hxl (Nat.le_refl _) hL hR bL bR
   rw[List.take_of_length_le (by omega),List.drop_of_length_le (by omega),List.append_nil,List.take_of_length_le (Nat.le_refl _),List.drop_of_length_le (Nat.le_refl _)] at hr2
   exact hr2.keep hk2 (fun b k=>k) hK
structure tH (w wr:World) (K:Nat→Prop) (lv fv:Value) (from_:List Nat) (X:Nat→Nd):Prop where
 rows:∃ xs,wr.ownsRow w.heap.size 89 2 lv from_.length xs∧eD wr xs (from_.map X) w.heap.size K
 Bu:wr.ownsRow w.heap.size 3 1 fv from_.length ((toZ from_).map (Value.int .i64))
 k1:∀ b,lv.ownBlock=some b→¬ K b
 k2:∀ b,fv.ownBlock=some b→¬ K b
 s1:∃ g cap,lv=.slice (some ⟨g,0,none⟩) from_.length cap
 s2:∃ g cap,fv=.slice (some ⟨g,0,none⟩) from_.length cap
theorem tH.keep {w wr w':World} {K K' G:Nat→Prop} {lv fv:Value} {from_:List Nat} {X:Nat→Nd} (h:tH w wr K lv fv from_ X) (hk:bg G wr w') (hG:∀ b,G b→K b) (hK:∀ b,K' b→K b∨wr.heap.size≤b):tH w w' K' lv fv from_ X:=by
 obtain⟨xs,h1,h2⟩:=h.rows
 refine⟨⟨xs,aI h1 hk (fun b hb g=>h.k1 b hb (hG b g)),h2.keep hk hG hK⟩,aI h.Bu hk (fun b hb g=>h.k2 b hb (hG b g)),fun b hb k=>?_,fun b hb k=>?_,h.s1,h.s2⟩
 · rcases hK b k with k | k
   · exact h.k1 b hb k
   · have:=(h1.lt b hb).2;omega
 · rcases hK b k with k | k
   · exact h.k2 b hb k
   · have:=(h.Bu.lt b hb).2;omega
theorem tH.ext {w wr w':World} {K:Nat→Prop} {lv fv:Value} {from_:List Nat} {X:Nat→Nd} (h:tH w wr K lv fv from_ X) (hx:Ext wr w'):tH w w' K lv fv from_ X :=
 h.keep (bZ (F:=fun _=>False) hx) (fun _ g=>g.elim) (fun _ k=>.inl k)
theorem kT.klt {w wr:World} {o gat:Nat} {vN:Value} {root:Nat} {F:Dag} {at_:List Nat} (h:kT w wr o gat vN root F at_):∀ b,KF w o gat vN b→b<wr.heap.size:=by
 obtain⟨xs,ho,_⟩:=h.nodes
 rintro b (rfl | rfl | rfl | e)
 · exact ah h.out
 · exact(h.atr.lt _ rfl).2
 · exact ah h.res
 · exact(ho.lt b e).2
theorem xh {w:World} {B B' e size n:Nat} {v:Value} {xs:List Value} (h:w.ownsRow B e size v n xs) (hb:B'≤B):w.ownsRow B' e size v n xs:=by
 obtain⟨hl,h⟩:=h
 refine⟨hl,?_⟩
 rcases h with h | ⟨g,cap,cur,h1,hb',h2⟩
 · exact .inl h
 · exact .inr ⟨g,cap,cur,h1,by omega,h2⟩
theorem iG {w W:World} {B e size g n cap:Nat} {xs:List Value} (h:w.ownsRow B e size (.slice (some ⟨g,0,none⟩) n cap) n xs) (hE:Ext w W) (s m:Nat) (hsm:s+m≤n*size) :
 ∀ j u,((xs.drop s).take m)[j]?=some u→W.cell? ((⟨g,s,none⟩:Addr).add j)=some u:=by
 intro j u hu
 rw[List.getElem?_take] at hu
 split at hu
 · rename_i hj
   rw[List.getElem?_drop] at hu
   have hc:=(aJ h hE).cellAt (s+j) (by omega)
   have e:(⟨g,s,none⟩:Addr).add j=⟨g,s+j,none⟩:=by simp[Addr.add]
   rw[e,hc,hu]
 · cases hu
theorem eD.one {w:World} {xs:List Value} {F:Dag} {base:Nat} {K:Nat→Prop} (h:eD w xs F base K) (hx:xs.length=F.length*2):∀ u∈xs,u.oneCell'=true:=by
 intro u hu
 obtain⟨j,hj,rfl⟩:=List.mem_iff_getElem.1 hu
 obtain⟨L,R,h1,h2,h3,h4,_⟩:=h (j / 2) (by omega)
 rcases Nat.mod_two_eq_zero_or_one j with c | c
 · rw[show j / 2*2=j by omega,List.getElem?_eq_getElem hj] at h1
   injection h1 with h1
   obtain⟨a,cap,e,_⟩:=h3
   rw[h1,e];rfl
 · rw[show j / 2*2+1=j by omega,List.getElem?_eq_getElem hj] at h2
   injection h2 with h2
   obtain⟨a,cap,e,_⟩:=h4
   rw[h2,e];rfl
theorem RF {w w':World} {B e size n:Nat} {v:Value} {xs:List Value} (h:w.ownsRow B e size v n xs) (hx:Ext w w'):w'.ownsRow B e size v n xs:=aJ h hx
end
section
open Go.RowKit
theorem yM (v u:Value) (l m:List Int) (w:World) (h:Ints w v l) (g:Ints w u m) :
 Calls prog 151 #[v,u] w fun e w'=>e=.returned (.bool (iT l m))∧RD w w':=by
 obtain⟨a,cap,rfl,hlc,hcap,hc⟩:=h
 obtain⟨a',cap',rfl,CO,yJ,hc'⟩:=g
 by_cases hll:l.length=m.length
 · have hb:((l.length:Int) == m.length)=true:=by simp[hll]
   have hb':((l.length:Int) != m.length)=false:=by simp[hll]
   have HL:=Hd_ hll
   have hle:m.length≤l.length:=by omega
   have SN:l.length≤m.length:=by omega
   clear hll
   go_enter Tryz.func151,Tryz.ntmps151
   go_wp2
   go_loopw [5] (fun i wr=>∃ k:Nat,k≤l.length∧i=.int .i64 k∧RD w wr∧Hid (l.take k=m.take k)) (fun i _=>l.length-(intOf i).toNat)
   case atStart=>exact⟨0,Nat.zero_le _,rfl,rd0 _,by simp[Hid]⟩
   case round =>
    obtain⟨k,hk,rfl,⟨n,rfl⟩,HN⟩:=hrel
    by_cases hlt:k<l.length
    · have CL:k<m.length:=by omega
      obtain⟨b,off,rfl,hcell⟩:=hc (by omega)
      obtain⟨b',off',rfl,hcell'⟩:=hc' (by omega)
      have hck:=hcell k hlt
      have zF:=hcell' k CL
      clear hcell hc hcell' hc'
      go_wp2
      go_quiet (fail)
      go_wp2
      · have hne:(zat l k != zat m k)=true:=by assumption
        go_ret
        refine⟨bQ ?_,(by first | exact rd0 _ | exact rd1 _ _ | exact rd2 _ _ _ | exact rd3 _ _ _ _)⟩
        have:l≠m:=fun e=>by rw[e] at hne;simp at hne
        simp[iT,this]
      · have hne:(zat l k != zat m k)=false:=by assumption
        go_roundw
        case rel =>
         refine⟨k+1,by omega,by go_num,(by first | exact rd0 _ | exact rd1 _ _ | exact rd2 _ _ _ | exact rd3 _ _ _ _),?_⟩
         show _=_
         rw[jB hlt,jB CL,HN.out]
         simp at hne
         rw[hne]
        case measure=>simp[intOf];omega
    · go_wp2
      go_ret
      refine⟨bQ ?_,(by first | exact rd0 _ | exact rd1 _ _ | exact rd2 _ _ _ | exact rd3 _ _ _ _)⟩
      have:=HN.out
      rw[List.take_of_length_le (by omega),List.take_of_length_le (by omega)] at this
      simp[iT,this]
 · have hb:((l.length:Int) == m.length)=false:=by simp;omega
   have hb':((l.length:Int) != m.length)=true:=by simp;omega
   have HL:=Hd_ hll
   clear hll
   go_enter Tryz.func151,Tryz.ntmps151
   go_wp2
   go_ret
   refine⟨bQ ?_,rd0 _⟩
   have:l≠m:=fun e=>HL.out (by rw[e])
   simp[iT,this]
theorem yh (l:List Int):iT l l=true:=by simp[iT]
end
section
open Go.RowKit
def dQ (k:Int):Nat→List Int
 | 0=>[]
 | n+1=>k :: dQ (k+1) n
theorem fF (k:Int) (n:Nat):(dQ k n).length=n:=by
 induction n generalizing k with
 | zero=>rfl
 | succ n ih=>simp[dQ,ih]
theorem BJ (k:Int) (n:Nat):dQ k (n+1)=dQ k n++[k+n]:=by
 induction n generalizing k with
 | zero=>simp[dQ]
 | succ n ih =>
   rw[dQ,ih (k+1),dQ]
   simp;omega
theorem DL (k:Int) (n i:Nat) (h:i<n):zat (dQ k n) i=k+i:=by
 induction n generalizing k i with
 | zero=>omega
 | succ n ih =>
   cases i with
   | zero=>simp[dQ,zat]
   | succ i =>
     have:=ih (k+1) i (by omega)
     simp[dQ,zat] at this ⊢
     rw[this];omega
theorem uL (v:Value) (n:Nat) (k:Int) (w:World) (h:Ints w v (dQ k n)) (h0:0≤k) (h1:k+n≤4611686018427387904) :
 Calls prog 91 #[v,.int .i64 k] w fun e w'=>e=.returned (.int .i64 (k+n))∧RD w w':=by
 obtain⟨a,cap,rfl,hlc,hcap,hc⟩:=h
 rw[fF] at hlc hc ⊢
 go_enter Tryz.func91,Tryz.ntmps91
 go_wp2
 go_loop [1,5] (fun kk i=>∃ j:Nat,j≤n∧i=.int .i64 j∧kk=.int .i64 (k+j)) (fun _ i=>n-(intOf i).toNat)
 case atStart=>exact⟨0,Nat.zero_le _,rfl,by simp⟩
 case round =>
  obtain⟨j,hj,rfl,rfl⟩:=hrel
  by_cases hlt:j<n
  · obtain⟨b,off,rfl,hcell⟩:=hc (by omega)
    have hck:=hcell j hlt
    rw[DL k n j hlt] at hck
    clear hcell hc
    go_wp2
    go_round
    case rel=>exact⟨j+1,by omega,by go_num,by congr 1;omega⟩
    case measure=>simp[intOf];omega
  · go_wp2
    go_ret
    exact⟨fw (by omega),rd0 _⟩
end
section
open Go.RowKit
open Cgt (Dag Nd vl Same)
theorem Ct {w:World} {base e g n cap:Nat} {l:List Int} (h:w.ownsRow base e 1 (.slice (some ⟨g,0,none⟩) n cap) n (l.map (Value.int .i64))) {k:Nat} (hk:k<n):w.cell? ⟨g,k,none⟩=some (.int .i64 (zat l k)):=by
 have hl:=h.1
 rw[h.cellAt k (by omega)]
 have:k<l.length:=by rw[List.length_map] at hl;omega
 simp[zat,this]
theorem Ov {w:World} {base e g n cap:Nat} {l:List Int} (h:w.ownsRow base e 1 (.slice (some ⟨g,0,none⟩) n cap) n (l.map (Value.int .i64))) (k:Nat) (x:Int) :
 (w.setCell ⟨g,k,none⟩ (.int .i64 x)).ownsRow base e 1 (.slice (some ⟨g,0,none⟩) n cap) n ((l.set k x).map (Value.int .i64)):=by
 have:=(h.stored k (.int .i64 x)).1;rw[List.map_set];exact this
set_option maxHeartbeats 1000000 in
theorem uo (v:Value) (l:List Int) (k:Int) (B:Nat) (w:World) (h:w.ownsRow B 3 1 v l.length (l.map (Value.int .i64))) (h0:0≤k) (h1:k+l.length≤4611686018427387904) :
 Calls prog 90 #[v,.int .i64 k] w fun e w'=>e=.returned (.int .i64 (k+l.length))∧w'.ownsRow B 3 1 v l.length ((dQ k l.length).map (Value.int .i64))∧bg (fun b=>v.ownBlock=some b) w w':=by
 rcases Nat.eq_zero_or_pos l.length with hz | hz
 · obtain⟨a,cap,rfl,hc,_⟩:=az h
   have:l=[]:=List.eq_nil_of_length_eq_zero hz
   subst this
   go_enter Tryz.func90,Tryz.ntmps90
   go_wp2
   go_loopw [1,5] (fun kk ii wr=>wr=w∧ii=.int .i64 0∧kk=.int .i64 k) (fun _ _ _=>0)
   case atStart=>exact⟨rfl,rfl,rfl⟩
   case round =>
    obtain⟨rfl,rfl,rfl⟩:=hrel
    go_wp2
    go_ret
    exact⟨fw (by simp),h,bg.refl _ _⟩
 · obtain⟨g,cap,rfl,hc,hcm,-⟩:=dC h hz
   generalize hn:l.length=n at *
   go_enter Tryz.func90,Tryz.ntmps90
   go_wp2
   go_loopw [1,5] (fun kk ii wr=>∃ j,j≤n∧ii=.int .i64 ((j:Nat):Int)∧kk=.int .i64 (k+((j:Nat):Int))∧bg (fun b=>b=g) w wr∧wr.ownsRow B 3 1 (.slice (some ⟨g,0,none⟩) n cap) n ((dQ k j++l.drop j).map (Value.int .i64))) (fun _ ii _=>n-(intOf ii).toNat)
   case atStart=>exact⟨0,Nat.zero_le _,rfl,by simp,bg.refl _ _,by simpa [dQ] using h⟩
   case round =>
    obtain⟨j,hj,rfl,rfl,hK,ho⟩:=hrel
    by_cases hlt:j<n
    · have h2:((j:Nat):Int)<(n:Int):=by omega
      have cj:=Ct ho hlt
      have fj:=ho.frozenAt j
      have hs:=Ov ho j (k+(j:Int))
      have hl2:(dQ k j++l.drop j).set j (k+(j:Int))=dQ k (j+1)++l.drop (j+1):=by
       rw[BJ,List.set_append_right _ _ (by rw[fF];exact Nat.le_refl _),fF,Nat.sub_self,List.drop_eq_getElem_cons (by omega),List.set_cons_zero,List.append_assoc];rfl
      rw[hl2] at hs
      have HS:=Hd_ hs
      have HX:=Hd_ (hK.trans (bJ (w:=wr) (p:=⟨g,j,none⟩) (v:=.int .i64 (k+(j:Int)))) (fun x _ e=>e))
      clear hl2 hs ho hK
      go_wp2
      go_roundw
      case rel=>exact⟨j+1,by omega,by go_num,by congr 1;omega,HX.out,HS.out⟩
      case measure=>simp[intOf];omega
    · have h2:¬ (((j:Nat):Int)<(n:Int)):=by omega
      have hje:j=n:=by omega
      have ho2:wr.ownsRow B 3 1 (.slice (some ⟨g,0,none⟩) n cap) n ((dQ k n).map (Value.int .i64)):=by
       rw[hje,List.drop_of_length_le (by omega),List.append_nil] at ho;exact ho
      have HO:=Hd_ ho2
      clear ho ho2 hje
      go_wp2
      go_ret
      exact⟨fw (by omega),HO.out,⟨hK.os,hK.tape,hK.output,hK.size,fun b hb hn=>hK.block b hb (fun e=>hn (by subst e;rfl))⟩⟩
end
section
open Go.RowKit
open Cgt (Dag Nd vl Same)
theorem GZ (vl1 vr1 vl2 vr2:Value) (l r:List Int) (w:World) (h1:Ints w vl1 l) (h2:Ints w vr1 r) (h3:Ints w vl2 l) (h4:Ints w vr2 r) :
 Calls prog 88 #[.agg #[vl1,vr1],.agg #[vl2,vr2]] w fun e w'=>e=.returned (.bool true)∧Ext w w':=by
 obtain⟨a1,c1,rfl,-⟩:=id h1
 obtain⟨a2,c2,rfl,-⟩:=id h2
 obtain⟨a3,c3,rfl,-⟩:=id h3
 obtain⟨a4,c4,rfl,-⟩:=id h4
 have hE:Ext w ((w.alloc (.cells #[.slice a1 l.length c1,.slice a2 r.length c2] 89)).alloc (.cells #[.slice a3 l.length c3,.slice a4 r.length c4] 89)):=by go_grown
 have b0:((w.alloc (.cells #[.slice a1 l.length c1,.slice a2 r.length c2] 89)).alloc (.cells #[.slice a3 l.length c3,.slice a4 r.length c4] 89)).heap[w.heap.size]?=some (.cells #[.slice a1 l.length c1,.slice a2 r.length c2] 89 (0,0)):=by
  rw[Below.heap_alloc _ _ _ (by simp)];exact heap_alloc_new _ _
 have b1:((w.alloc (.cells #[.slice a1 l.length c1,.slice a2 r.length c2] 89)).alloc (.cells #[.slice a3 l.length c3,.slice a4 r.length c4] 89)).heap[w.heap.size+1]?=some (.cells #[.slice a3 l.length c3,.slice a4 r.length c4] 89 (0,0)):=by
  have h:=heap_alloc_new (w.alloc (.cells #[.slice a1 l.length c1,.slice a2 r.length c2] 89)) (.cells #[.slice a3 l.length c3,.slice a4 r.length c4] 89);rw[sA_] at h;exact h
 go_enter Tryz.func88,Tryz.ntmps88
 go_upto_region 1 with fail
 generalize (w.alloc (.cells #[.slice a1 l.length c1,.slice a2 r.length c2] 89)).alloc (.cells #[.slice a3 l.length c3,.slice a4 r.length c4] 89)=W at *
 have c00:=cell_of_row W w.heap.size 0 _ _ _ b0
 have c01:=cell_of_row W w.heap.size 1 _ _ _ b0
 have c10:=cell_of_row W (w.heap.size+1) 0 _ _ _ b1
 have c11:=cell_of_row W (w.heap.size+1) 1 _ _ _ b1
 go_upto_region 3 with (go_at_call 151;refine(yM _ _ l l _ (h1.ext hE) (h3.ext hE)).mono ?_;rintro e w1 ⟨he,n,rfl⟩;rw[yh] at he;subst he)
 go_wp2_with (go_at_call 151;refine(yM _ _ r r _ (eX (h2.ext hE) _) (eX (h4.ext hE) _)).mono ?_;rintro e w1 ⟨he,m,rfl⟩;rw[yh] at he;subst he)
 go_ret
 exact⟨rfl,by first | exact bN hE _ | exact bN (bN hE _) _⟩
set_option maxHeartbeats 1000000 in
theorem Ec (v u:Value) (F:Dag) (w:World) (h:bP w 0 v F) (k:bP w 0 u F) :
 Calls prog 46 #[v,u] w fun e w'=>e=.returned (.bool true)∧Ext w w':=by
 obtain⟨a,cap,rfl,hc1,hm1,-⟩:=id h
 obtain⟨a2,cap2,rfl,hc2,hm2,-⟩:=id k
 have hbn:(((F.length:Nat):Int) != ((F.length:Nat):Int))=false:=by simp
 have hml:maxLen=9223372036854775807:=by simp[maxLen]
 go_enter Tryz.func46,Tryz.ntmps46
 go_wp2
 go_loopw [5] (fun ii wr=>∃ i,i≤F.length∧ii=.int .i64 ((i:Nat):Int)∧Ext w wr) (fun ii _=>F.length-(intOf ii).toNat)
 case atStart=>exact⟨0,Nat.zero_le _,rfl,Below.refl _ _⟩
 case round =>
  obtain⟨i,hi,rfl,hE⟩:=hrel
  by_cases hlt:i<F.length
  · have h1:((i:Nat):Int)<(F.length:Int):=by omega
    obtain⟨b1,d1,aL,cL,aR,cR,he1,-,l1,r1,iL,iR⟩:=(h.ext hE).at hlt
    obtain⟨b2,d2,aL2,cL2,aR2,cR2,he2,-,l2,r2,iL2,iR2⟩:=(k.ext hE).at hlt
    simp only[Value.slice.injEq] at he1 he2
    obtain⟨rfl,-,rfl⟩:=he1
    obtain⟨rfl,-,rfl⟩:=he2
    have hSx:∀ W:World,Ext wr W→W.cell? ⟨b1,i*2,none⟩=some (.slice aL (F[i]).1.length cL)∧W.cell? ⟨b1,i*2+1,none⟩=some (.slice aR (F[i]).2.length cR)∧W.cell? ⟨b2,i*2,none⟩=some (.slice aL2 (F[i]).1.length cL2)∧W.cell? ⟨b2,i*2+1,none⟩=some (.slice aR2 (F[i]).2.length cR2):=fun W hW =>
     ⟨(hW.cell (lt_of_cell l1)).trans l1,(hW.cell (lt_of_cell r1)).trans r1,(hW.cell (lt_of_cell l2)).trans l2,(hW.cell (lt_of_cell r2)).trans r2⟩
    have hxd:Ext wr wr.drew:=⟨rfl,rfl,rfl,Nat.le_refl _,fun _ _=>rfl⟩
    have HE:=Hd_ hE
    clear l1 r1 l2 r2 hE
    go_wp2_with fail
    refine fZ (fun W=>W.cell? ⟨b1,i*2,none⟩=some (.slice aL (F[i]).1.length cL)∧W.cell? ⟨b1,i*2+1,none⟩=some (.slice aR (F[i]).2.length cR)∧W.cell? ⟨b2,i*2,none⟩=some (.slice aL2 (F[i]).1.length cL2)∧W.cell? ⟨b2,i*2+1,none⟩=some (.slice aR2 (F[i]).2.length cR2)) [9] (by kernel_rfl) (hSx _ hxd) (fun hHeld=>?_)
    ((refine tkA (i:=0) hHeld ?_);(try simp only[nP]);(refine tkA (i:=1) hHeld ?_);(try simp only[nP]);(refine tkA (i:=2) hHeld ?_);(try simp only[nP]);(refine tkA (i:=3) hHeld ?_);(try simp only[nP]);(refine tkA (i:=4) hHeld ?_);(try simp only[nP]);(refine tkA (i:=5) hHeld ?_);(try simp only[nP]);(refine tkA (i:=6) hHeld ?_);(try simp only[nP]);(refine tkA (i:=7) hHeld ?_);(try simp only[nP]))
    (refine stA (i:=8) fun K hK=>?_;go_simp)
    refine(GZ _ _ _ _ _ _ _ (iL.ext hxd) (iR.ext hxd) (iL2.ext hxd) (iR2.ext hxd)).mono ?_
    rintro e w1 ⟨rfl,hx⟩
    have hx2:=aa hxd hx
    have hHeld:=hSx _ hx2
    refine hK.out _ _ (fun _=>hHeld) ?_
    clear hK K
    (try simp only[nP])
    refine tlA [9] [_] ?_
    go_wp2_with fail
    go_roundw
    case rel=>exact⟨i+1,by omega,by go_num,aa HE.out hx2⟩
    case measure=>simp[intOf];omega
  · have h1:¬ (((i:Nat):Int)<(F.length:Int)):=by omega
    go_wp2
    go_ret
    exact⟨rfl,hE⟩
theorem sU (v u:Value) (F:Dag) (w:World) (h:bP w 0 v F) (k:bP w 0 u F) :
 Calls prog 11 #[.agg #[v],.agg #[u]] w fun e w'=>e=.returned (.bool true)∧Ext w w':=by
 obtain⟨a,c,rfl⟩:=h.slice
 obtain⟨a2,c2,rfl⟩:=k.slice
 have hE:Ext w ((w.alloc (.cells #[.slice a (List.length F) c] 28)).alloc (.cells #[.slice a2 (List.length F) c2] 28)):=by go_grown
 have b0:((w.alloc (.cells #[.slice a (List.length F) c] 28)).alloc (.cells #[.slice a2 (List.length F) c2] 28)).heap[w.heap.size]?=some (.cells #[.slice a (List.length F) c] 28 (0,0)):=by
  rw[Below.heap_alloc _ _ _ (by simp)];exact heap_alloc_new _ _
 have b1:((w.alloc (.cells #[.slice a (List.length F) c] 28)).alloc (.cells #[.slice a2 (List.length F) c2] 28)).heap[w.heap.size+1]?=some (.cells #[.slice a2 (List.length F) c2] 28 (0,0)):=by
  have h:=heap_alloc_new (w.alloc (.cells #[.slice a (List.length F) c] 28)) (.cells #[.slice a2 (List.length F) c2] 28);rw[sA_] at h;exact h
 go_enter Tryz.func11,Tryz.ntmps11
 go_upto_region 1 with fail
 generalize (w.alloc (.cells #[.slice a (List.length F) c] 28)).alloc (.cells #[.slice a2 (List.length F) c2] 28)=W at *
 have c00:=cell_of_row W w.heap.size 0 _ _ _ b0
 have c10:=cell_of_row W (w.heap.size+1) 0 _ _ _ b1
 go_wp2_with (go_at_call 46;refine(Ec _ _ F _ (h.ext hE) (k.ext hE)).mono ?_;rintro e w1 ⟨rfl,hx⟩)
 go_ret
 exact⟨rfl,aa hE hx⟩
end
section
open Go.RowKit
open Cgt (Dag Nd vl Same)
theorem F7 (w:World):Calls prog 76 #[] w fun e w'=>∃ vN,e=.returned (.agg #[vN])∧bP w' w.heap.size vN [([],[])]∧Ext w w':=by
 have hb1:((w.alloc (.cells #[.slice (some ⟨w.heap.size+1,0,none⟩) 1 1] 28)).alloc (.cells #[.slice none 0 0,.slice none 0 0] 89)).heap[w.heap.size]?=some (.cells #[.slice (some ⟨w.heap.size+1,0,none⟩) 1 1] 28 (0,0)):=by
  rw[Below.heap_alloc _ _ _ (by simp)];exact heap_alloc_new _ _
 have hb2:((w.alloc (.cells #[.slice (some ⟨w.heap.size+1,0,none⟩) 1 1] 28)).alloc (.cells #[.slice none 0 0,.slice none 0 0] 89)).heap[w.heap.size+1]?=some (.cells #[.slice none 0 0,.slice none 0 0] 89 (0,0)):=by
  have h:=heap_alloc_new (w.alloc (.cells #[.slice (some ⟨w.heap.size+1,0,none⟩) 1 1] 28)) (.cells #[.slice none 0 0,.slice none 0 0] 89);rw[sA_] at h;exact h
 have hx:Ext w ((w.alloc (.cells #[.slice (some ⟨w.heap.size+1,0,none⟩) 1 1] 28)).alloc (.cells #[.slice none 0 0,.slice none 0 0] 89)):=by go_grown
 go_enter Tryz.func76,Tryz.ntmps76
 go_wp2
 (try simp only[Exit.inBlock,Exit.then])
 refine bodyPost_ret (results_cell_row rfl _ _ w.heap.size 28 _ (0,0) _ rfl hb1 underlying28 rfl (by kernel_rfl)) rfl ?_
 refine⟨_,rfl,⟨_,1,rfl,Nat.le_refl _,by unfold maxLen;simp,fun _=>⟨w.heap.size+1,rfl,by omega,fun i hi=>?_⟩⟩,hx⟩
 have hi0:i=0:=by simp at hi;omega
 subst hi0
 refine⟨.slice none 0 0,.slice none 0 0,cell_of_row _ _ 0 _ _ _ hb2,cell_of_row _ _ 1 _ _ _ hb2,Ints.nil _ _ _,Ints.nil _ _ _,fun b hb=>?_,fun b hb=>?_⟩
 · simp[Value.ownBlock] at hb
 · simp[Value.ownBlock] at hb
end
end Go.Proofs.YteknjeohbcgpdaaGreatDoor