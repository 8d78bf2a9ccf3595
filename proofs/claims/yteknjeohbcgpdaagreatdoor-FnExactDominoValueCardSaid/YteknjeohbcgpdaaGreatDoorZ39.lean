/-
  Plain law of the reference's book of boards: forms of the boards behind the moves, sums over the parts; no condition. (2 texts.)
-/
import Derived.Test.YteknjeohbcgpdaaGreatDoorZ4
import Derived.Test.YteknjeohbcgpdaaGreatDoorZ38
set_option maxRecDepth 100000
namespace Go.Proofs.YteknjeohbcgpdaaGreatDoor
section
open Go.RowKit
open Cgt (Brd GB bD Cs fr Grown sub cup pX none_ nC rQ Bd)
theorem Items.Rh {α:Type} {R:World→List Value→α→Prop} {w wr w1 w5:World} {v v5:Value} {size base e n:Nat} {xs ys zs:List Value} {Ts:List α} {t:α} {X:Obj} (hit:Items R (KS w wr v) size xs Ts wr) (z0:w.heap.size≤wr.heap.size) (hx:Ext wr w1) (ho:wr.ownsRow base e size v n zs) (hy:ys.length=size)
 (hn:Sup (fun b=>wr.heap.size≤b∧b<w1.heap.size) (fun W=>R W ys t) w1) (hg:(w1.alloc X).grownBy w5 v.ownBlock) (hl:eU (w1.alloc X) v v5):Items R (KS w w5 v5) size (xs++ys) (Ts++[t]) w5:=by
 have z1:=hx.size
 have z5:=hg.size
 rw[sA_] at z5
 have key:∀ b,KS w w1 v b→KS w w5 v5 b:=fun b hb=>⟨hb.1,by have:=hb.2.1;omega,fun e=>by
  rcases hl with h | ⟨q,h,h2⟩
  · exact hb.2.2 (by rw[← h];exact e)
  · rw[h] at e;injection e with e;rw[sA_] at h2;have:=hb.2.1;omega⟩
 have h1:Items R (KS w w1 v) size (xs++ys) (Ts++[t]) w1 :=
  Items.snoc ((hit.ext hx).mono (fun b hb=>⟨hb.1,by have:=hb.2.1;omega,hb.2.2⟩) (fun b hb=>hb.2.1)) hy (hn.mono (fun b hb=>⟨by omega,hb.2,fun e=>by have:=(ho.lt b e).2;omega⟩) (fun b hb=>hb.2.1) (fun _ h=>h))
 exact((h1.ext (aM (Below.refl _ _) X)).keep (G:=fun b=>v.ownBlock=some b) ⟨hg.os,hg.tape,hg.output,hg.size,fun k hk hn=>hg.block k hk (fun e=>hn e.symm)⟩ (fun b hb=>hb.2.2)).mono key (fun b hb=>hb.2.1)
def rR (P:Cs) (y:Brd):Prop:=Bd P∧(∃ r c,P r c=true)∧(∃ h w,GB y h w)∧∃ a b,(∀ r c,P r c=true→a≤r∧b≤c)∧∀ r c,fr y r c=P (r+a) (c+b)
structure jL (S U:Cs) (PL:List (Cs × Brd)):Prop where
 shut:rQ S U
 parts:nC (PL.map (·.1)).reverse
 all:pX (PL.map (·.1)).reverse=U
 ok:∀ p,p∈PL→rR p.1 p.2
theorem jL.start (S:Cs):jL S none_ []:=⟨Cgt.IG S,trivial,rfl,fun p hp=>by cases hp⟩
theorem jL.add {S U P:Cs} {PL:List (Cs × Brd)} {y:Brd} (h:jL S U PL) (hP:Grown (sub S U) none_ P) (ho:rR P y):jL S (cup U P) (PL++[(P,y)]):=by
 obtain⟨h1,h2⟩:=Cgt.Fp h.shut hP
 have e:((PL++[(P,y)]).map (·.1)).reverse=P :: (PL.map (·.1)).reverse:=by simp
 refine⟨h1,?_,?_,fun p hp=>?_⟩
 · rw[e];exact⟨by rw[h.all];exact h2,h.parts⟩
 · rw[e,pX,h.all]
 · rcases List.mem_append.1 hp with hp | hp
   · exact h.ok p hp
   · simp only[List.mem_singleton] at hp;subst hp;exact ho
theorem Od {pl:Cl} {hh ww t bo f o:Nat} (s:Sz pl hh ww) (h1:1≤hh∧hh≤8) (w1:1≤ww∧ww≤8) (hB:qJ (gcs pl) t bo f o):rR (gcs pl) (ni (eH pl) t bo f o):=by
 have hB':=hB
 rw[← qF] at hB'
 have hg:=AV s h1 w1
 obtain⟨g1,-⟩:=zI hg hB'
 obtain⟨c,hc⟩:=hB.top
 refine⟨JH s h1.2 w1.2,⟨t,c,hc⟩,⟨_,_,g1⟩,t,f,fun r c h=>?_,fun r c=>?_⟩
 · have:=hB.all r c h;omega
 · rw[OB hB',qF]
def vE (hh ww:Nat):Cl:=List.replicate hh (List.replicate ww false)
theorem Kg (hh ww:Nat):Sz (vE hh ww) hh ww:=⟨by simp[vE],fun r hr=>by rw[List.eq_of_mem_replicate hr];simp⟩
theorem Kh (hh ww:Nat):gcs (vE hh ww)=none_:=by
 funext r c
 unfold gcs gat vE none_
 rw[List.getD_eq_getElem?_getD (l:=List.replicate _ _),List.getElem?_replicate]
 by_cases h:r<hh
 · rw[if_pos h,Option.getD_some,List.getD_eq_getElem?_getD,List.getElem?_replicate]
   by_cases k:c<ww <;> simp[k]
 · rw[if_neg h];rfl
theorem F4 (n:Nat):(madeCells #[Value.bool false] n).toList=(List.replicate n false).map Value.bool:=by
 apply List.ext_getElem?
 intro i
 by_cases h:i<n
 · simp[madeCells,h,Nat.mod_one]
 · simp[madeCells,h]
structure PaM (w w1 wr:World) (box cv:Value) (sl:Nat→Value) (hh ww:Nat) (cl:Cl) (ov:Value) (xs:List Value) (bs:List Brd):Prop where
 bx:wr.heap[w.heap.size]?=some (.cells #[box] 31 (0,0))
 grid:Gr wr (w.heap.size+2) cv sl cl
 sz:Sz cl hh ww
 own:wr.ownsRow (w.heap.size+1) 31 1 ov bs.length xs
 sep:∀ b,ov.ownBlock=some b→b=w.heap.size+1∨w1.heap.size≤b
 it:Items ow (KS w1 wr ov) 1 xs bs wr
 ext:Ext w wr
 lt:∀ b,GrA cv sl hh b→b<w1.heap.size
 z1:w1.heap.size≤wr.heap.size
section
variable {w w1 wr w2:World} {box cv ov:Value} {sl:Nat→Value} {hh ww:Nat} {cl:Cl} {xs:List Value} {bs:List Brd}
theorem PaM.ext' (m:PaM w w1 wr box cv sl hh ww cl ov xs bs) (hx:Ext wr w2):PaM w w1 w2 box cv sl hh ww cl ov xs bs :=
 ⟨(hx.block _ (ah m.bx)).trans m.bx,m.grid.ext hx,m.sz,aJ m.own hx,m.sep,(m.it.ext hx).mono (fun b hb=>⟨hb.1,Nat.lt_of_lt_of_le hb.2.1 hx.size,hb.2.2⟩) fun b hb=>by exact hb.2.1,aa m.ext hx,m.lt,Nat.le_trans m.z1 hx.size⟩
theorem PaM.mark (m:PaM w w1 wr box cv sl hh ww cl ov xs bs) {i k g c:Nat} (hi:i<hh) (hk:k<ww) (e:sl i=.slice (some ⟨g,0,none⟩) ww c) (x:Bool) :
 PaM w w1 (wr.setCell ⟨g,k,none⟩ (.bool x)) box cv sl hh ww (iM cl i k x) ov xs bs∧bg (fun b=>b=g) wr (wr.setCell ⟨g,k,none⟩ (.bool x))∧g<w1.heap.size:=by
 obtain⟨h1,h2,h3⟩:=m.grid.mark m.sz hi hk e x
 have hgl:g<w1.heap.size:=m.lt g (.inr ⟨i,hi,by rw[e];rfl⟩)
 have hks:=bJ (w:=wr) (p:=⟨g,k,none⟩) (v:=.bool x)
 have hk':bg (fun b=>b=g) wr (wr.setCell ⟨g,k,none⟩ (.bool x)):=⟨hks.os,hks.tape,hks.output,hks.size,hks.block⟩
 have hl:cl.length=hh:=m.sz.hgt
 refine⟨⟨(hk'.block _ (ah m.bx) (by omega)).trans m.bx,h1,h2,aI m.own hk' (fun b hb q=>?_),m.sep,(m.it.keep hk' fun b hb q=>by have:=hb.1;omega).mono (fun b hb=>⟨hb.1,by rw[World.size_setCell];exact hb.2.1,hb.2.2⟩) fun b hb=>hb.2.1,iD m.ext hk' fun b q=>by omega,m.lt,by rw[World.size_setCell];exact m.z1⟩,hk',hgl⟩
 rcases m.sep b hb with q1 | q1 <;> omega
theorem PaM.push {w4 w5:World} {v' v5:Value} {ss':List ByteArray} {y:Brd} {X:Obj} (m:PaM w w1 wr box cv sl hh ww cl ov xs bs) (hx:Ext wr w4)
 (hr:w4.ownsRow wr.heap.size 9 1 v' ss'.length (ss'.map Value.string)) (hy:bd ss'=y) (h8:ss'.length≤8)
 (ho:w5.ownsRow (w.heap.size+1) 31 1 v5 (bs.length+1) (xs++[v'])) (hg:(w4.alloc X).grownBy w5 ov.ownBlock) (hl:eU (w4.alloc X) ov v5):PaM w w1 w5 box cv sl hh ww cl v5 (xs++[v']) (bs++[y]):=by
 have hz:(w4.alloc X).heap.size=w4.heap.size+1:=sA_ _ _
 have z1:=m.z1
 have z4:=hx.size
 have zg:=hg.size
 have hcl:cl.length=hh:=m.sz.hgt
 obtain⟨a,c,rfl,-,-⟩:=az hr
 have hk:bg (fun b=>ov.ownBlock=some b) wr w5:=⟨hg.os.trans hx.os,hg.tape.trans hx.tape,hg.output.trans hx.output,by omega,fun b hb hn=>by
  rw[hg.block b (by omega) (fun e=>hn e.symm),Below.heap_alloc _ _ _ (by omega),hx.block b hb]⟩
 refine⟨(hk.block _ (ah m.bx) (fun e=>?_)).trans m.bx,m.grid.keep hk (fun b hb e=>?_),m.sz,by rw[List.length_append];exact ho,fun b hb=>?_,Items.Rh m.it z1 hx m.own rfl ⟨fun b hb=>hb.2,fun W hW=>⟨a,c,ss',rfl,?_,hy⟩⟩ hg hl,iD m.ext hk fun b e=>?_,m.lt,by omega⟩
 · have:=(m.own.lt _ e).1;omega
 · have h1:=m.lt b (by rw[← hcl];exact hb)
   have h2:=(m.grid.lt hb).1
   rcases m.sep b e with q | q <;> omega
 · rcases hl with e | ⟨q,e,k⟩
   · exact m.sep b (by rw[← e];exact hb)
   · rw[e] at hb;injection hb with hb;exact .inr (by omega)
 · have:Strs w4 (.slice a ss'.length c) ss':=Strs.bG hr (by omega)
   exact gH.keep this fun b _ hb=>hW b ⟨(hr.lt b hb).1,(hr.lt b hb).2⟩
 · have:=(m.own.lt b e).1;omega
end
end
section
open Cgt (Dag Gm Canon Eqv dH bE Same plus Brd GB Cs Bd fr gB cnt bS kB bV gQ can pX cup nC none_ vw lay)
def jO (bs:List Brd) (k:Nat) (Fs:List Dag):Prop:=∀ i (h:i<Fs.length),∃ b,bs[i]?=some b∧dU Fs[i] (gB (fr b))∧(Fs[i]).length≤k
theorem jO.nil (bs:List Brd) (k:Nat):jO bs k []:=fun i h=>absurd h (by simp)
theorem jO.snoc {bs:List Brd} {k:Nat} {Fs:List Dag} {F:Dag} {b:Brd} (h:jO bs k Fs) (he:bs[Fs.length]?=some b) (hF:dU F (gB (fr b))) (hl:F.length≤k):jO bs k (Fs++[F]):=by
 intro i hi
 by_cases c:i<Fs.length
 · rw[List.getElem_append_left c];exact h i c
 · have e:i=Fs.length:=by simp at hi;omega
   subst e
   rw[List.getElem_append_right (Nat.le_refl _)];simpa using ⟨_,he,hF,hl⟩
theorem Aa {k:Nat}:∀ {Fs:List Dag},(∀ F,F∈Fs→F.length≤k)→sizes Fs≤Fs.length*k:=by
 intro Fs
 induction Fs with
 | nil=>intro _;simp[sizes]
 | cons F Fs ih =>
   intro h
   have:=ih fun G hG=>h G (by simp[hG])
   have:=h F (by simp)
   simp only[sizes,List.map_cons,List.sum_cons,List.length_cons,Nat.add_mul] at *
   omega
theorem jO.good {bs:List Brd} {k:Nat} {Fs:List Dag} (h:jO bs k Fs):∀ F,F∈Fs→Cgt.Good F∧0<F.length:=by
 intro F hF
 obtain⟨i,hi,rfl⟩:=List.mem_iff_getElem.1 hF
 obtain⟨e,_,h2,_⟩:=h i hi
 exact⟨h2.1.good,List.length_pos_iff.2 h2.1.ne⟩
theorem jO.lens {bs:List Brd} {k:Nat} {Fs:List Dag} (h:jO bs k Fs):∀ F,F∈Fs→F.length≤k:=by
 intro F hF
 obtain⟨i,hi,rfl⟩:=List.mem_iff_getElem.1 hF
 obtain⟨e,_,_,h2⟩:=h i hi
 exact h2
theorem jO.eqv {bs:List Brd} {k:Nat} {Fs:List Dag} (h:jO bs k Fs) (hl:Fs.length=bs.length) :
 (∀ x,x∈Fs.map bE→∃ y,y∈bs.map (fun b=>gB (fr b))∧Eqv x y)∧(∀ y,y∈bs.map (fun b=>gB (fr b))→∃ x,x∈Fs.map bE∧Eqv x y):=by
 refine⟨fun x hx=>?_,fun y hy=>?_⟩
 · obtain⟨F,hF,rfl⟩:=List.mem_map.1 hx
   obtain⟨i,hi,rfl⟩:=List.mem_iff_getElem.1 hF
   obtain⟨e,he,h1,_⟩:=h i hi
   exact⟨_,List.mem_map_of_mem (List.mem_of_getElem? he),h1.eqv⟩
 · obtain⟨e,he,rfl⟩:=List.mem_map.1 hy
   obtain⟨i,hi,rfl⟩:=List.mem_iff_getElem.1 he
   obtain⟨e,he,h1,_⟩:=h i (by omega)
   rw[List.getElem?_eq_getElem hi] at he
   injection he with he
   subst he
   exact⟨_,List.mem_map_of_mem (List.getElem_mem (by omega)),h1.eqv⟩
theorem JM {L L' R R':List Gm} (h1:∀ x,x∈L→∃ y,y∈L'∧Eqv x y) (h2:∀ y,y∈L'→∃ x,x∈L∧Eqv x y) (h3:∀ x,x∈R→∃ y,y∈R'∧Eqv x y) (h4:∀ y,y∈R'→∃ x,x∈R∧Eqv x y):Eqv (.mk L R) (.mk L' R'):=by
 constructor
 · refine Cgt.qE (fun r hr=>?_) (fun l hl=>?_)
   · obtain⟨y,hy,e⟩:=h3 r hr;exact .inl ⟨y,hy,e.1⟩
   · obtain⟨x,hx,e⟩:=h2 l hl;exact .inl ⟨x,hx,e.1⟩
 · refine Cgt.qE (fun r hr=>?_) (fun l hl=>?_)
   · obtain⟨x,hx,e⟩:=h4 r hr;exact .inl ⟨x,hx,e.2⟩
   · obtain⟨y,hy,e⟩:=h1 l hl;exact .inl ⟨y,hy,e.2⟩
theorem uX {b:Brd} {h w k:Nat} (g:GB b h w) {Ls Rs:List Dag} (hL:jO (bV true b w h) k Ls) (hR:jO (bV false b w h) k Rs) (lL:Ls.length=(bV true b w h).length) (lR:Rs.length=(bV false b w h).length) {F1 F2:Dag} {x:Gm}
 (s1:Same (bE F1) (.mk (Ls.map bE) (Rs.map bE))) (i2:dH F2) (s2:Same (bE F2) x) (c2:Canon x) (e2:Eqv x (bE F1)):dU F2 (gB (fr b)):=by
 refine⟨i2,x,s2,c2,e2.trans (s1.eqv.trans ?_)⟩
 have e:Eqv (.mk ((bV true b w h).map fun b=>gB (fr b)) ((bV false b w h).map fun b=>gB (fr b))) (gB (fr b)):=by
  have h1:=fun x=>Cgt.xQ g true (x:=x)
  have h2:=fun x=>Cgt.xQ g false (x:=x)
  simp only[if_true,Bool.false_eq_true,if_false] at h1 h2
  generalize gB (fr b)=G at *
  cases G with
  | mk l r =>
    simp only[Cgt.Gm.l,Cgt.Gm.r] at h1 h2
    refine JM (fun x hx=>?_) (fun y hy=>?_) (fun x hx=>?_) (fun y hy=>?_)
    · obtain⟨y,hy,rfl⟩:=List.mem_map.1 hx;exact⟨_,(h1 _).2 ⟨y,hy,rfl⟩,Eqv.refl _⟩
    · obtain⟨z,hz,rfl⟩:=(h1 y).1 hy;exact⟨_,List.mem_map_of_mem hz,Eqv.refl _⟩
    · obtain⟨y,hy,rfl⟩:=List.mem_map.1 hx;exact⟨_,(h2 _).2 ⟨y,hy,rfl⟩,Eqv.refl _⟩
    · obtain⟨z,hz,rfl⟩:=(h2 y).1 hy;exact⟨_,List.mem_map_of_mem hz,Eqv.refl _⟩
 exact Eqv.trans (JM (hL.eqv lL).1 (hL.eqv lL).2 (hR.eqv lR).1 (hR.eqv lR).2) e
theorem om {b y:Brd} {h w:Nat} {left:Bool} (g:GB b h w) (hy:y∈bV left b w h):GB y h w∧bS y+2=bS b:=by
 obtain⟨r,c,k,rfl⟩:=(Cgt.pF g).1 hy
 have g':=g.plc left r c
 refine⟨g',?_⟩
 rw[← Cgt.yO g',← Cgt.yO g,Cgt.Db g k]
 exact Cgt.o6 g.bd k
theorem GY {α:Type} {p q:α→Bool} (h:∀ x,p x=true→q x=true) (l:List α):(l.filter p).length≤l.countP q:=by
 rw[← List.countP_eq_length_filter];exact List.countP_mono_left fun x _ k=>h x k
theorem DR (r:List UInt8) (k:Nat) (hk:k≤r.length):(List.range k).countP (fun c=>r.getD c 0 == 46)=(r.take k).countP (· == 46):=by
 induction k with
 | zero=>simp
 | succ k ih =>
   rw[List.range_succ,List.countP_append,ih (by omega),List.take_succ_eq_append_getElem (by omega),List.countP_append]
   congr 1
   simp[List.countP_cons,List.getD_eq_getElem?_getD,List.getElem?_eq_getElem (show k<r.length by omega)]
theorem K7 {b:Brd} {h w:Nat} (g:GB b h w) (left:Bool) {r:Nat} (hr:r<b.length):(gQ left b r w).length≤(b[r]).countP (· == 46):=by
 have hl:=(g.row _ (List.getElem_mem hr)).1
 unfold gQ
 rw[List.length_map]
 refine Nat.le_trans (GY (q:=fun c=>(b[r]).getD c 0 == 46) (fun c k=>?_) _) ?_
 · have:=(Cgt.gz.1 k).1
   unfold fr at this
   rw[Cgt.yV hr] at this;exact this
 · rw[DR _ _ (by omega),List.take_of_length_le (by omega)];exact Nat.le_refl _
theorem sG {b:Brd} {h w:Nat} (g:GB b h w) (left:Bool):(bV left b w h).length≤bS b:=by
 have key:∀ k,k≤b.length→(bV left b w k).length≤((b.take k).map fun r=>r.countP (· == 46)).sum:=by
  intro k
  induction k with
  | zero=>intro _;simp[bV]
  | succ k ih =>
    intro hk
    have:=ih (by omega)
    have:=K7 g left (r:=k) (by omega)
    rw[Cgt.nU,List.length_append,List.take_succ_eq_append_getElem (by omega),List.map_append,List.sum_append]
    simp only[List.map_cons,List.map_nil,List.sum_cons,List.sum_nil];omega
 have:=key b.length (Nat.le_refl _)
 rw[List.take_of_length_le (Nat.le_refl _),g.hgt] at this
 exact this
theorem ql {b:Brd} {h w:Nat} (g:GB b h w) (left:Bool) (h2:bS b<2):(bV left b w h).length=0:=by
 cases e:bV left b w h with
 | nil=>rfl
 | cons y l=>have:=(om g (left:=left) (y:=y) (by rw[e];simp)).2;omega
theorem EP {n l r s:Nat} (hl:l≤n) (hr:r≤n) (h0:n<2→l=0∧r=0) (hs:s≤(l+r)*kB (n-2)):s+1≤kB n:=by
 match n with
 | 0=>obtain⟨rfl,rfl⟩:=h0 (by omega);simp at hs;subst hs;decide
 | 1=>obtain⟨rfl,rfl⟩:=h0 (by omega);simp at hs;subst hs;decide
 | n+2 =>
   rw[Nat.add_sub_cancel] at hs
   have:=Nat.mul_le_mul_right (kB n) (show l+r≤2*(n+2) by omega)
   rw[kB];omega
theorem Ho {b:Brd} {h w:Nat} (g:GB b h w) {Ls Rs:List Dag} (hL:jO (bV true b w h) (kB (bS b-2)) Ls) (hR:jO (bV false b w h) (kB (bS b-2)) Rs) (lL:Ls.length=(bV true b w h).length) (lR:Rs.length=(bV false b w h).length):sizes Ls+sizes Rs+1≤kB (bS b):=by
 have a:=Aa hL.lens
 have c:=Aa hR.lens
 refine EP (l:=Ls.length) (r:=Rs.length) (by rw[lL];exact sG g true) (by rw[lR];exact sG g false) (fun h2=>⟨by rw[lL];exact ql g true h2,by rw[lR];exact ql g false h2⟩) ?_
 rw[Nat.add_mul];omega
def kC (n:Nat):Nat:=if n=0 then 0 else kB n
theorem Pp {a b:Nat} (h:a+b≤9) (hb:0<b):kC a+kB b≤kC (a+b):=by
 unfold kC
 rw[if_neg (show ¬ a+b=0 by omega)]
 by_cases h0:a=0
 · subst h0;simp
 · rw[if_neg h0];exact Cgt.Ps h (by omega) hb
theorem Nu (n:Nat):kC n≤kB n:=by unfold kC;split <;> omega
def jg (PL:List (Cs × Brd)) (i:Nat):Cs:=pX ((PL.take i).map (·.1)).reverse
theorem AO (PL:List (Cs × Brd)):jg PL 0=none_:=rfl
theorem uT {PL:List (Cs × Brd)} {i:Nat} (h:i<PL.length):jg PL (i+1)=cup (jg PL i) (PL[i]).1:=by
 unfold jg
 rw[List.take_succ_eq_append_getElem h,List.map_append,List.reverse_append];rfl
theorem AL:∀ (m l:List Cs) (x y:Nat),pX l x y=true→pX (m++l) x y=true
 | [],_,_,_,h=>h
 | _ :: m,l,x,y,h=>Cgt.jw.2 (.inl (AL m l x y h))
theorem ym:∀ (m l:List Cs),nC (m++l)→nC l
 | [],_,h=>h
 | _ :: m,l,h=>ym m l h.2
theorem Ah (PL:List (Cs × Brd)) (i:Nat):(PL.map (·.1)).reverse=((PL.drop i).map (·.1)).reverse++((PL.take i).map (·.1)).reverse:=by
 rw[← List.reverse_append,← List.map_append,List.take_append_drop]
theorem jL.EZ {S U:Cs} {PL:List (Cs × Brd)} (h:jL S U PL) (i:Nat):cnt (jg PL i)≤cnt U:=by
 refine Cgt.cnt_mono fun x y k=>?_
 rw[← h.all,Ah PL i]
 exact AL _ _ x y k
theorem jL.apart {S U:Cs} {PL:List (Cs × Brd)} (h:jL S U PL) {i:Nat} (hi:i<PL.length):Cgt.Apart (jg PL i) (PL[i]).1:=by
 have:=h.parts
 rw[Ah PL (i+1),List.take_succ_eq_append_getElem hi,List.map_append,List.reverse_append] at this
 exact(ym _ _ this).1
theorem jL.bd {S U:Cs} {PL:List (Cs × Brd)} (h:jL S U PL) (i:Nat):Bd (jg PL i):=Cgt.EY fun P hP=>by
 rw[List.mem_reverse] at hP
 obtain⟨p,hp,rfl⟩:=List.mem_map.1 hP
 exact(h.ok p (List.mem_of_mem_take hp)).1
theorem MJ (P:Cs):cup none_ P=P:=by funext x y;simp[cup,none_]
theorem rR.eqv {P:Cs} {y:Brd} (h:rR P y):Eqv (gB (fr y)) (gB P)∧bS y=cnt P∧0<cnt P:=by
 obtain⟨h1,⟨r,c,h2⟩,⟨hh,ww,g⟩,a,b,h3,h4⟩:=h
 refine⟨(Cgt.Fq _ (Nat.le_refl _) h1 g.bd h3 h4).eqv,?_,Cgt.o5 h1 h2⟩
 rw[← Cgt.yO g];exact Cgt.JR h1 h3 h4
def fA (PL:List (Cs × Brd)) (i:Nat) (F:Dag):Prop:=dU F (gB (jg PL i))∧F.length≤kB (cnt (jg PL i))
theorem JJ:dU [([],[])] vw:=by
 have hw:Cgt.WF [([],[])]:=fun i nd h=>by
  cases i with
  | zero=>simp at h;subst h;exact⟨fun k hk=>(by cases hk),fun k hk=>(by cases hk)⟩
  | succ i=>simp at h
 have no:∀ {x:Gm},x∈([]:List Gm)→False:=fun h=>by cases h
 refine⟨⟨⟨hw,fun nd h=>?_,by simp⟩,by simp,fun i j h hj=>by simp at hj;omega,fun i hi=>?_⟩,vw,?_,?_,Eqv.refl _⟩
 · simp at h;subst h;exact⟨List.Pairwise.nil,List.Pairwise.nil⟩
 · have:i=0:=by simp at hi;omega
   subst this;exact Cgt.Reach.here
 · have e:bE [([],[])]=vw:=rfl
   rw[e];exact Cgt.fO _
 · exact Canon.mk _ ⟨fun _ _ h=>(no h).elim,fun _ _ h=>(no h).elim,fun _ h=>(no h).elim,fun _ h=>(no h).elim⟩ (fun _ h=>(no h).elim) (fun _ h=>(no h).elim)
theorem fA.zero (PL:List (Cs × Brd)):fA PL 0 [([],[])]:=by
 unfold fA
 rw[AO,Cgt.OA,Cgt.Di]
 exact⟨JJ,by decide⟩
theorem jL.Dh {S U:Cs} {PL:List (Cs × Brd)} (h:jL S U PL) {i:Nat} (hi:i<PL.length):cnt (jg PL (i+1))=cnt (jg PL i)+bS (PL[i]).2∧0<bS (PL[i]).2:=by
 obtain⟨-,h2,h3⟩:=(h.ok _ (List.getElem_mem hi)).eqv
 rw[uT hi,Cgt.OG (h.apart hi),h2];exact⟨rfl,h3⟩
theorem fA.first {S U:Cs} {PL:List (Cs × Brd)} (h:jL S U PL) (hi:0<PL.length) {F:Dag} (hF:dU F (gB (fr (PL[0]).2))) (hl:F.length≤kB (bS (PL[0]).2)):fA PL 1 F:=by
 obtain⟨h1,h2,h3⟩:=(h.ok _ (List.getElem_mem hi)).eqv
 unfold fA
 rw[uT hi,AO,MJ]
 exact⟨hF.to h1,by rw[← h2];exact hl⟩
theorem fA.next {S U:Cs} {PL:List (Cs × Brd)} (h:jL S U PL) {i:Nat} (hi:i<PL.length) (h9:cnt U≤9) {F G H F':Dag} {g:Gm} (hF:fA PL i F) (hG:dU G (gB (fr (PL[i]).2))) (hl:G.length≤kB (bS (PL[i]).2))
 (hH:Same (bE H) (plus (bE F) (bE G))) (hHl:H.length≤F.length*G.length) (i':dH F') (s:Same (bE F') g) (c:Canon g) (e:Eqv g (bE H)) (hl':F'.length≤H.length):fA PL (i+1) F':=by
 obtain⟨h1,h2,h3⟩:=(h.ok _ (List.getElem_mem hi)).eqv
 have hc:=(h.Dh hi).1
 have h9':=h.EZ (i+1)
 unfold fA
 refine⟨(hF.1.sum (hG.to h1) hH i' s c e).to ?_,?_⟩
 · rw[uT hi]
   exact(Cgt.MI _ (Nat.le_refl _) (h.bd i) (h.ok _ (List.getElem_mem hi)).1 (h.apart hi)).eqv.symm
 · rw[hc]
   refine Nat.le_trans hl' (Nat.le_trans hHl (Nat.le_trans (Nat.mul_le_mul hF.2 hl) (Cgt.Jp (by omega))))
theorem fA.last {S:Cs} {PL:List (Cs × Brd)} (h:jL S S PL) {F:Dag} (hF:fA PL PL.length F):dU F (gB S)∧F.length≤kB (cnt S):=by
 have e:jg PL PL.length=S:=by unfold jg;rw[List.take_of_length_le (Nat.le_refl _)];exact h.all
 unfold fA at hF
 rw[e] at hF;exact hF
end
end Go.Proofs.YteknjeohbcgpdaaGreatDoor