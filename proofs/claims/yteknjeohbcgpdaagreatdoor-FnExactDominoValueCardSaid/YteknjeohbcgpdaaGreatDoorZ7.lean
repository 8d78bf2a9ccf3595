/-
  Contract of the reference's book of games: put.
-/
import Derived.Test.YteknjeohbcgpdaaGreatDoorZ6
import Derived.Deep.AppendLies
import Derived.OneCell
set_option maxRecDepth 100000
namespace Go.Proofs.YteknjeohbcgpdaaGreatDoor
open Tryz
open Go.RowKit
open Cgt (Dag Nd vl)
def eT (D:Dag) (l r:List Nat) (D':Dag) (i:Nat):Prop :=
 D'[i]?=some (ai l,ai r)∧(D'=D∨D'=D++[(ai l,ai r)])
def dm (w:World) (vn:Value) (n:Nat) (b:Nat):Prop:=∃ i g cap v,i<n∧vn=.slice (some ⟨g,0,none⟩) n cap∧(w.cell? ⟨g,i*2,none⟩=some v∨w.cell? ⟨g,i*2+1,none⟩=some v)∧v.ownBlock=some b
def zO (pb:Nat) (vn vb:Value) (D:Dag) (l r:List Nat) (w:World) (e:Ending) (w':World):Prop :=
 ∃ vn' vb' D' i,e=.returned (.int .i64 ((i:Nat):Int))∧bu w' pb vn' vb' D'∧bg (InS pb vn vb) w w'∧(∀ b,InS pb vn' vb' b→InS pb vn vb b∨w.heap.size≤b)∧(∀ b,dm w' vn' D'.length b→dm w vn D.length b∨w.heap.size≤b)∧eT D l r D' i
def dh (D:Dag) (l:List Nat):Int:=l.foldl (fun m x=>max m ((Cgt.born (vl D x):Int)+1)) 0
theorem bu.p9 {w:World} {pb:Nat} {vn vb:Value} {D:Dag} (h:bu w pb vn vb D) {x:Nat} (hx:x<D.length) :
 ∃ g cap,vb=.slice (some ⟨g,0,none⟩) D.length cap∧D.length≤cap∧cap≤maxLen∧w.cell? ⟨g,x,none⟩=some (.int .i64 (Cgt.born (vl D x))):=by
 obtain⟨g,cap,h1,h2,h3,h4⟩:=dC h.born (by omega)
 refine⟨g,cap,h1,h2,h3,?_⟩
 rw[h4 x (by omega)]
 simp[hx]
theorem bu.nQ {w:World} {pb:Nat} {vn vb:Value} {D:Dag} (h:bu w pb vn vb D) {i:Nat} (hi:i<D.length) :
 ∃ g cap L R,vn=.slice (some ⟨g,0,none⟩) D.length cap∧D.length≤cap∧cap≤maxLen∧w.cell? ⟨g,i*2,none⟩=some L∧w.cell? ⟨g,i*2+1,none⟩=some R∧Ints w L (toZ (D[i]).1)∧Ints w R (toZ (D[i]).2):=by
 obtain⟨xs,ho,hn⟩:=h.nodes
 obtain⟨g,cap,h1,h2,h3,h4⟩:=dC ho (by omega)
 obtain⟨L,R,e1,e2,e3,e4,_⟩:=hn i hi
 exact⟨g,cap,L,R,h1,h2,h3,by rw[h4 _ (by omega),Nat.mul_comm];exact e1,by rw[h4 _ (by omega),Nat.mul_comm];exact e2,e3,e4⟩
theorem bu.Ca {w:World} {pb:Nat} {vn vb:Value} {D:Dag} (h:bu w pb vn vb D) {i:Nat} (hi:i<D.length) :
 ∃ g cap L R,vn=.slice (some ⟨g,0,none⟩) D.length cap∧D.length≤cap∧cap≤maxLen∧w.cell? ⟨g,i*2,none⟩=some L∧w.cell? ⟨g,i*2+1,none⟩=some R∧Ints w L (toZ (D[i]).1)∧Ints w R (toZ (D[i]).2) ∧
   (∀ b,L.ownBlock=some b→¬ InS pb vn vb b∧b<w.heap.size)∧(∀ b,R.ownBlock=some b→¬ InS pb vn vb b∧b<w.heap.size):=by
 obtain⟨xs,ho,hn⟩:=h.nodes
 obtain⟨g,cap,h1,h2,h3,h4⟩:=dC ho (by omega)
 obtain⟨L,R,e1,e2,e3,e4,e5,e6⟩:=hn i hi
 exact⟨g,cap,L,R,h1,h2,h3,by rw[h4 _ (by omega),Nat.mul_comm];exact e1,by rw[h4 _ (by omega),Nat.mul_comm];exact e2,e3,e4,e5,e6⟩
theorem dm.back {w w':World} {pb:Nat} {vn vb:Value} {D:Dag} (hB:bu w pb vn vb D) (hx:Ext w w') {b:Nat} (h:dm w' vn D.length b):dm w vn D.length b:=by
 obtain⟨i,g,cap,v,hi,he,hc,hv⟩:=h
 obtain⟨g',cap',L,R,he',_,_,c1,c2,_⟩:=hB.nQ hi
 rw[he] at he'
 simp only[Value.slice.injEq,Option.some.injEq,Addr.mk.injEq,and_true,true_and] at he'
 obtain⟨rfl,rfl⟩:=he'
 refine⟨i,g,cap,v,hi,he,?_,hv⟩
 rcases hc with hc | hc
 · exact .inl (by rw[← hx.cell (lt_of_cell c1)];exact hc)
 · exact .inr (by rw[← hx.cell (lt_of_cell c2)];exact hc)
theorem wU (D:Dag) {l:List Nat} {k:Nat} (h:k<l.length):dh D (l.take (k+1))=max (dh D (l.take k)) ((Cgt.born (vl D l[k]):Int)+1):=by
 rw[List.take_succ_eq_append_getElem h,dh,List.foldl_append];rfl
theorem uW (D:Dag) (l:List Nat) {r:List Nat} {k:Nat} (h:k<r.length):dh D (l++r.take (k+1))=max (dh D (l++r.take k)) ((Cgt.born (vl D r[k]):Int)+1):=by
 rw[List.take_succ_eq_append_getElem h,← List.append_assoc,dh,List.foldl_append];rfl
theorem ko {D:Dag} (hD:Cgt.WF D) (l:List Nat) (hl:∀ x,x∈l→x<D.length):0≤dh D l∧dh D l≤D.length:=by
 have main:∀ (l:List Nat) (m:Int),0≤m→m≤D.length→(∀ x,x∈l→x<D.length)→0≤l.foldl (fun m x=>max m ((Cgt.born (vl D x):Int)+1)) m∧l.foldl (fun m x=>max m ((Cgt.born (vl D x):Int)+1)) m≤D.length:=by
  intro l
  induction l with
  | nil=>intro m h1 h2 _;exact⟨h1,h2⟩
  | cons x l ih =>
    intro m h1 h2 hx
    have h3:=Cgt.kJ hD x
    have h4:=hx x (by simp)
    exact ih _ (by show 0≤max _ _;omega) (by show max _ _≤_;omega) (fun y hy=>hx y (by simp[hy]))
 exact main l 0 (by omega) (by omega) hl
theorem Jh {l:List Nat} {k:Nat} {D:Dag} (hl:∀ x,x∈l→x<D.length):∀ x,x∈l.take k→x<D.length:=fun x hx=>hl x (List.mem_of_mem_take hx)
theorem zZ {l:List Nat} {k:Nat} (h:k<l.length):dO (toZ (l.take (k+1)))=iW (dO (toZ (l.take k))) (l[k]:Int):=by
 rw[List.take_succ_eq_append_getElem h,toZ,List.map_append];exact rV _ _
theorem uE:(prog.info? 89).map (fun i=>(i.zero,i.size,i.bytes))=some (some (.agg #[.slice none 0 0,.slice none 0 0]),2,48):=by kernel_rfl
theorem ze {w:World} {x y:Value} {e:TypeId}:∀ j u,([x,y]:List Value)[j]?=some u→(w.alloc (.cells #[x,y] e)).cell? ((⟨w.heap.size,0,none⟩:Addr).add j)=some u:=by
 intro j u h
 match j with
 | 0=>simp at h;subst h;exact(World.cell?_alloc_at (w:=w) #[x,y] e _ 0 rfl)
 | 1=>simp at h;subst h;exact(World.cell?_alloc_at (w:=w) #[x,y] e _ 1 rfl)
 | n+2=>simp at h
theorem bU {w:World} {a:Addr} {v:Value} (h:w.cell? a=some v) (o:Obj):(w.alloc o).cell? a=some v:=(World.cell?_alloc_lt w o a (lt_of_cell h)).trans h
theorem oO {w:World} {a:Addr} (o:Obj) (h:a.block<w.heap.size):(w.alloc o).frozen? a=w.frozen? a:=World.frozen?_alloc_old w o a (by omega)
theorem ll {a b:Option Addr} {n m c d:Nat}:∀ u∈([Value.slice a n c,Value.slice b m d]:List Value),u.oneCell'=true:=by
 intro u h;simp at h;rcases h with rfl | rfl <;> rfl
theorem eX {w:World} {v:Value} {l:List Int} (h:Ints w v l) (n:Nat):Ints (w.drewN n) v l:=h.ext (dw ⟨n,rfl⟩)
theorem KJ {wp w1:World} {pb n:Nat} {vn vb L R:Value} {D:Dag} (hB:bu wp pb vn vb D) (hg:((wp.drewN n).alloc (.cells #[L,R] 89)).grownBy w1 vn.ownBlock) :
 w1.cell? ⟨pb,0,none⟩=some vn∧w1.cell? ⟨pb,1,none⟩=some vb∧w1.frozen? ⟨pb,0,none⟩=false∧w1.frozen? ⟨pb,1,none⟩=false∧pb<w1.heap.size ∧
  w1.ownsRow 0 3 1 vb D.length ((D.mapIdx fun i _=>(Cgt.born (vl D i):Int)).map (Value.int .i64)):=by
 have hlt:pb<(wp.drewN n).heap.size:=hB.lt
 have hl1:pb<((wp.drewN n).alloc (.cells #[L,R] 89)).heap.size:=by rw[sA_];omega
 refine⟨hg.cell (bU (w:=wp.drewN n) hB.cell0 _) hB.fM.symm,hg.cell (bU (w:=wp.drewN n) hB.cell1 _) hB.fM.symm,?_,?_,Nat.lt_of_lt_of_le hl1 hg.size,?_⟩
 · exact(hg.frozen_far ⟨pb,0,none⟩ hl1 hB.fM.symm).trans ((oO (w:=wp.drewN n) _ hlt).trans (hB.free 0))
 · exact(hg.frozen_far ⟨pb,1,none⟩ hl1 hB.fM.symm).trans ((oO (w:=wp.drewN n) _ hlt).trans (hB.free 1))
 · refine World.ownsRow.kept ((own_drewN hB.born n).alloc _) hg ?_
   cases h:vb.ownBlock with
   | none=>exact .inl rfl
   | some b=>exact .inr (fun e=>hB.gV b e.symm h)
theorem pz (w:World) (a:Addr) (u v:Value) (e:TypeId):((w.setCell a u).alloc (.cells #[v] e)).cell? ⟨w.heap.size,0,none⟩=some v:=by
 have:=aO (w.setCell a u) v e
 rw[World.size_setCell] at this;exact this
theorem KI {w1 w2:World} {pb:Nat} {vn1 vb x:Value} (q2:w1.cell? ⟨pb,1,none⟩=some vb) (q4:w1.frozen? ⟨pb,1,none⟩=false) {u:Value} (q1:w1.cell? ⟨pb,0,none⟩=some u) (ha:vb.ownBlock≠some pb) {e:TypeId} (hg:((w1.setCell ⟨pb,0,none⟩ vn1).alloc (.cells #[x] e)).grownBy w2 vb.ownBlock) :
 w2.cell? ⟨pb,0,none⟩=some vn1∧w2.cell? ⟨pb,1,none⟩=some vb∧w2.frozen? ⟨pb,1,none⟩=false:=by
 have c0:(w1.setCell ⟨pb,0,none⟩ vn1).cell? ⟨pb,0,none⟩=some vn1:=World.cell?_setCell_same _ _ _ q1
 have c1:(w1.setCell ⟨pb,0,none⟩ vn1).cell? ⟨pb,1,none⟩=some vb:=(World.cell?_setCell_other _ _ _ _ (by simp)).trans q2
 refine⟨hg.cell (bU c0 _) ha.symm,hg.cell (bU c1 _) ha.symm,?_⟩
 have hl:pb<(w1.setCell ⟨pb,0,none⟩ vn1).heap.size:=lt_of_cell c0
 exact(hg.frozen_far ⟨pb,1,none⟩ (by rw[sA_];exact Nat.lt_succ_of_lt hl) ha.symm).trans ((oO _ hl).trans (by rw[World.frozen?_setCell];exact q4))
theorem InS.EH {pb N M:Nat} {vn vb vn1 vb2:Value} {b:Nat} (h1:vn1.ownBlock=vn.ownBlock∨∃ g,vn1.ownBlock=some g∧N≤g) (h2:vb2.ownBlock=vb.ownBlock∨∃ g,vb2.ownBlock=some g∧M≤g) (hMN:N≤M) (h:InS pb vn1 vb2 b):InS pb vn vb b∨N≤b:=by
 rcases h with h | h | h
 · exact .inl (.inl h)
 · rcases h1 with h1 | ⟨g,h1,h3⟩
   · exact .inl (.inr (.inl (h1 ▸ h)))
   · rw[h1] at h;injection h with h;exact .inr (by omega)
 · rcases h2 with h2 | ⟨g,h2,h3⟩
   · exact .inl (.inr (.inr (h2 ▸ h)))
   · rw[h2] at h;injection h with h;exact .inr (by omega)
theorem JY (D:Dag) (l:List Nat) (n:Nat):dh D l≤n↔∀ x,x∈l→Cgt.born (vl D x)<n:=by
 have main:∀ (l:List Nat) (m:Int),l.foldl (fun m x=>max m ((Cgt.born (vl D x):Int)+1)) m≤n↔m≤n∧∀ x,x∈l→Cgt.born (vl D x)<n:=by
  intro l
  induction l with
  | nil=>intro m;simp
  | cons x l ih =>
    intro m
    simp only[List.foldl_cons,ih,List.mem_cons]
    constructor
    · rintro⟨h1,h2⟩
      exact⟨by omega,fun y hy=>by rcases hy with rfl | hy;omega;exact h2 y hy⟩
    · rintro⟨h1,h2⟩
      have:=h2 x (.inl rfl)
      exact⟨by omega,fun y hy=>h2 y (.inr hy)⟩
 have:=main l 0
 unfold dh
 rw[this];simp
theorem qX {D:Dag} (h:Cgt.WF D) {k:Nat} {l r l' r':List Nat} (hd:D[k]?=some (l',r')) (hl:∀ x,x∈l'↔x∈l) (hr:∀ x,x∈r'↔x∈r) (h0:0≤dh D (l++r)) :
 (Cgt.born (vl D k):Int)=dh D (l++r):=by
 have e:∀ n:Nat,Cgt.born (vl D k)≤n↔dh D (l++r)≤n:=by
  intro n
  rw[Cgt.lX,JY,Cgt.ib h hd,Cgt.gZ h hd]
  simp only[List.forall_mem_map,hl,hr,List.mem_append]
  constructor
  · rintro⟨a,b⟩ x (hx | hx)
    · exact a x hx
    · exact b x hx
  · intro a;exact⟨fun x hx=>a x (.inl hx),fun x hx=>a x (.inr hx)⟩
 have h1:=(e (Cgt.born (vl D k))).1 (Nat.le_refl _)
 have h2:=(e (dh D (l++r)).toNat).2 (by omega)
 omega
set_option maxHeartbeats 1000000 in
theorem Oc {w wp w1 w2:World} {pb n:Nat} {vn vb vn1 vb2 L R:Value} {D:Dag} {l r:List Nat} {xs:List Value} (hBw:bu w pb vn vb D) (hE:Ext w wp) (hown:wp.ownsRow 0 89 2 vn D.length xs)
 (hnd:∀ i (h:i<D.length),∃ L R,xs[2*i]?=some L∧xs[2*i+1]?=some R∧Ints wp L (toZ (D[i]).1)∧Ints wp R (toZ (D[i]).2)∧(∀ b,L.ownBlock=some b→¬ InS pb vn vb b∧b<wp.heap.size)∧(∀ b,R.ownBlock=some b→¬ InS pb vn vb b∧b<wp.heap.size))
 (hg1:((wp.drewN n).alloc (.cells #[L,R] 89)).grownBy w1 vn.ownBlock) (ho1:w1.ownsRow 0 89 2 vn1 (D.length+1) (xs++[L,R])) (hl1:eU ((wp.drewN n).alloc (.cells #[L,R] 89)) vn vn1)
 (hg2:((w1.setCell ⟨pb,0,none⟩ vn1).alloc (.cells #[.int .i64 (dh D (l++r))] 3)).grownBy w2 vb.ownBlock) (ho2:w2.ownsRow 0 3 1 vb2 (D.length+1) ((D.mapIdx fun i _=>(Cgt.born (vl D i):Int)).map (Value.int .i64)++[.int .i64 (dh D (l++r))]))
 (hl2:eU ((w1.setCell ⟨pb,0,none⟩ vn1).alloc (.cells #[.int .i64 (dh D (l++r))] 3)) vb vb2)
 (hL:Ints wp L (toZ (ai l))) (hR:Ints wp R (toZ (ai r))) (fL:∀ b,L.ownBlock=some b→w.heap.size≤b∧b<wp.heap.size) (fR:∀ b,R.ownBlock=some b→w.heap.size≤b∧b<wp.heap.size)
 (hl:∀ x,x∈l→x<D.length) (hr:∀ x,x∈r→x<D.length) (hN:∀ j (h:j<D.length),j<D.length→D[j]≠(ai l,ai r)) (hsm:D.length+1≤1000000) :
 zO pb vn vb D l r w (.returned (.int .i64 ((D.length:Nat):Int))) (w2.setCell ⟨pb,1,none⟩ vb2):=by
 have hB:=hBw.ext hE
 have hpb:=hBw.lt
 have hsz:=hE.size
 have z1:=hg1.size
 have z2:=hg2.size
 rw[sA_] at z1 z2
 rw[World.size_setCell] at z2
 have z0:(wp.drewN n).heap.size=wp.heap.size:=rfl
 rw[z0] at z1
 have hvb:=hBw.born.lt
 obtain⟨xs0,Ro,_⟩:=hBw.nodes
 have hvn:=Ro.lt
 have hv1:=ho1.lt
 have hv2:=ho2.lt
 have L1:vn1.ownBlock=vn.ownBlock∨∃ g,vn1.ownBlock=some g∧wp.heap.size+1≤g:=by
  rcases hl1 with h | ⟨g,h,k⟩
  · exact .inl h
  · rw[sA_,z0] at k;exact .inr ⟨g,h,k⟩
 have L2:vb2.ownBlock=vb.ownBlock∨∃ g,vb2.ownBlock=some g∧w1.heap.size+1≤g:=by
  rcases hl2 with h | ⟨g,h,k⟩
  · exact .inl h
  · rw[sA_,World.size_setCell] at k;exact .inr ⟨g,h,k⟩
 have hblk:∀ k,k<wp.heap.size→k≠pb→vn.ownBlock≠some k→vb.ownBlock≠some k→(w2.setCell ⟨pb,1,none⟩ vb2).heap[k]?=wp.heap[k]?:=by
  intro k hk h1 h2 h3
  rw[heap_setCell_other _ _ _ _ h1,hg2.block k (by rw[sA_,World.size_setCell];omega) (Ne.symm h3),(World.grownBy_alloc _ _ none).block k (by rw[World.size_setCell];omega) (by simp),heap_setCell_other _ _ _ _ h1,
   hg1.block k (by rw[sA_,z0];omega) (Ne.symm h2),(World.grownBy_alloc _ _ none).block k (by rw[z0];omega) (by simp)]
  rfl
 obtain⟨t,ht⟩:=hB.cells
 have hp1:w1.heap[pb]?=some (.cells #[vn,vb] t (0,0)):=by
  rw[hg1.block pb (by rw[sA_,z0];omega) hB.fM.symm,(World.grownBy_alloc _ _ none).block pb (by rw[z0];omega) (by simp)]
  exact ht
 have hp2:(w1.setCell ⟨pb,0,none⟩ vn1).heap[pb]?=some (.cells #[vn1,vb] t (0,0)):=heap_setCell_same _ _ _ _ _ _ hp1
 have hp3:w2.heap[pb]?=some (.cells #[vn1,vb] t (0,0)):=by
  rw[hg2.block pb (by rw[sA_,World.size_setCell];omega) hB.gX.symm,(World.grownBy_alloc _ _ none).block pb (by rw[World.size_setCell];omega) (by simp)]
  exact hp2
 have hp4:(w2.setCell ⟨pb,1,none⟩ vb2).heap[pb]?=some (.cells #[vn1,vb2] t (0,0)):=heap_setCell_same _ _ _ _ _ _ hp3
 have a1:vn1.ownBlock≠some pb:=by
  rcases L1 with h | ⟨g,h,k⟩
  · rw[h];exact hB.fM
  · rw[h];intro e;injection e with e;omega
 have a2:vb2.ownBlock≠some pb:=by
  rcases L2 with h | ⟨g,h,k⟩
  · rw[h];exact hB.gX
  · rw[h];intro e;injection e with e;omega
 have a3:∀ b,vn1.ownBlock=some b→vb.ownBlock≠some b:=by
  intro b hb
  rcases L1 with h | ⟨g,h,k⟩
  · exact hB.gV b (h ▸ hb)
  · rw[h] at hb;injection hb with hb
    intro e;have:=hvb b e;omega
 have a4:∀ b,vn1.ownBlock=some b→vb2.ownBlock≠some b:=by
  intro b hb
  rcases L2 with h | ⟨g,h,k⟩
  · rw[h];exact a3 b hb
  · rw[h];intro e;injection e with e
    have:=hv1 b hb;omega
 have hst:∀ {v:Value} {k:List Int},Ints wp v k→(∀ b,v.ownBlock=some b→¬ InS pb vn vb b)→Ints (w2.setCell ⟨pb,1,none⟩ vb2) v k:=by
  intro v k h hb
  exact h.keep (fun b hk e=>hblk b (h.blk hk e) (fun e'=>hb b e (.inl e')) (fun e'=>hb b e (.inr (.inl e'))) (fun e'=>hb b e (.inr (.inr e'))))
 have hS:∀ b,b<wp.heap.size→InS pb vn1 vb2 b→InS pb vn vb b:=by
  intro b hb h
  rcases InS.EH L1 L2 (by omega) h with h | h
  · exact h
  · omega
 have hold:∀ b,InS pb vn vb b→b<w.heap.size:=by
  rintro b (rfl | h | h)
  · exact hpb
  · exact(hvn b h).2
  · exact(hvb b h).2
 have hg:Cgt.Good (D++[(ai l,ai r)]):=hB.good.snoc (fun k hk=>hl k (aK.1 hk)) (fun k hk=>hr k (aK.1 hk)) (fB l) (fB r) (by
  intro hm
  obtain⟨j,hj,e⟩:=List.mem_iff_getElem.1 hm
  exact hN j hj hj e)
 have hlast:(D++[(ai l,ai r)])[D.length]?=some (ai l,ai r):=by simp
 have hb0:=ko hB.good.wf (l++r) (fun x hx=>by rcases List.mem_append.1 hx with h | h;exact hl x h;exact hr x h)
 have hbn:dh (D++[(ai l,ai r)]) (l++r)=dh D (l++r):=by
  have key:∀ (k:List Nat) (m:Int),(∀ x,x∈k→x<D.length)→k.foldl (fun m x=>max m ((Cgt.born (vl (D++[(ai l,ai r)]) x):Int)+1)) m=k.foldl (fun m x=>max m ((Cgt.born (vl D x):Int)+1)) m:=by
   intro k
   induction k with
   | nil=>intro m _;rfl
   | cons x k ih =>
     intro m hx
     simp only[List.foldl_cons]
     rw[Cgt.dV hB.good.wf hg.wf x (hx x (by simp))]
     exact ih _ (fun y hy=>hx y (by simp[hy]))
  exact key _ _ (fun x hx=>by rcases List.mem_append.1 hx with h | h;exact hl x h;exact hr x h)
 have Nz:(w2.setCell ⟨pb,1,none⟩ vb2).ownsRow 0 89 2 vn1 (D.length+1) (xs++[L,R]):=by
  have h1:=(ownsRow_setCell_other ho1 (a:=⟨pb,0,none⟩) a1 vn1).alloc (.cells #[.int .i64 (dh D (l++r))] 3)
  have h2:=World.ownsRow.kept h1 hg2 (by
   cases h:vn1.ownBlock with
   | none=>exact .inl rfl
   | some b=>exact .inr (fun e=>a3 b h e.symm))
  exact ownsRow_setCell_other h2 (a:=⟨pb,1,none⟩) a1 vb2
 refine⟨vn1,vb2,D++[(ai l,ai r)],D.length,rfl,?_,?_,?_,?_,hlast,.inr rfl⟩
 rotate_right
 · rintro b ⟨i,g,cap,v,hi,he,hc,hv⟩
   have hle:(D++[(ai l,ai r)]).length=D.length+1:=by simp
   rw[hle] at hi he
   subst he
   have hxl:=hown.1
   have hc':(xs++[L,R])[i*2]?=some v∨(xs++[L,R])[i*2+1]?=some v:=by
    rcases hc with hc | hc
    · exact .inl ((Nz.cellAt (i*2) (by omega)).symm.trans hc)
    · exact .inr ((Nz.cellAt (i*2+1) (by omega)).symm.trans hc)
   by_cases hlt:i<D.length
   · obtain⟨gn,He,he,_,_,hcn⟩:=dC hown (by omega)
     have hgn:gn<w.heap.size:=(hvn gn (by rw[he];rfl)).2
     refine .inl ⟨i,gn,He,v,hlt,he,?_,hv⟩
     rcases hc' with hc | hc
     · rw[List.getElem?_append_left (by omega)] at hc
       exact .inl (by rw[← hE.cell (p:=⟨gn,i*2,none⟩) hgn,hcn _ (by omega)];exact hc)
     · rw[List.getElem?_append_left (by omega)] at hc
       exact .inr (by rw[← hE.cell (p:=⟨gn,i*2+1,none⟩) hgn,hcn _ (by omega)];exact hc)
   · have hi':i=D.length:=by omega
     subst hi'
     rcases hc' with hc | hc
     · rw[List.getElem?_append_right (by omega),show D.length*2-xs.length=0 by omega] at hc
       simp at hc;subst hc;exact .inr (fL b hv).1
     · rw[List.getElem?_append_right (by omega),show D.length*2+1-xs.length=1 by omega] at hc
       simp at hc;subst hc;exact .inr (fR b hv).1
 · refine⟨hg,by simp;omega,⟨t,hp4⟩,?_,⟨xs++[L,R],?_,?_⟩,a1,a2,a4⟩
   · have e:((D++[(ai l,ai r)]).mapIdx fun i _=>(Cgt.born (vl (D++[(ai l,ai r)]) i):Int))=(D.mapIdx fun i _=>(Cgt.born (vl D i):Int))++[dh D (l++r)]:=by
      rw[List.mapIdx_append]
      congr 1
      · refine List.ext_getElem (by simp) fun i h1 h2=>?_
        simp only[List.getElem_mapIdx]
        rw[Cgt.dV hB.good.wf hg.wf i (by simpa using h2)]
      · simp only[List.mapIdx_cons,List.mapIdx_nil,Nat.zero_add]
        rw[qX hg.wf hlast (l:=l) (r:=r) (fun _=>aK) (fun _=>aK) (by rw[hbn];exact hb0.1),hbn]
     rw[e,List.map_append]
     have:=ownsRow_setCell_other ho2 (a:=⟨pb,1,none⟩) a2 vb2
     simpa using this
   · have h1:=(ownsRow_setCell_other ho1 (a:=⟨pb,0,none⟩) a1 vn1).alloc (.cells #[.int .i64 (dh D (l++r))] 3)
     have h2:=World.ownsRow.kept h1 hg2 (by
      cases h:vn1.ownBlock with
      | none=>exact .inl rfl
      | some b=>exact .inr (fun e=>a3 b h e.symm))
     have:=ownsRow_setCell_other h2 (a:=⟨pb,1,none⟩) a1 vb2
     simpa using this
   · have hxl:=hown.1
     intro i hi
     by_cases hlt:i<D.length
     · obtain⟨L',R',e1,e2,e3,e4,e5,e6⟩:=hnd i hlt
       refine⟨L',R',Cgt.getElem?_append_some e1,Cgt.getElem?_append_some e2,?_,?_,?_,?_⟩
       · rw[List.getElem_append_left hlt];exact hst e3 (fun b hb=>(e5 b hb).1)
       · rw[List.getElem_append_left hlt];exact hst e4 (fun b hb=>(e6 b hb).1)
       · intro b hb;exact⟨fun h=>(e5 b hb).1 (hS b (e5 b hb).2 h),by rw[World.size_setCell];have:=(e5 b hb).2;omega⟩
       · intro b hb;exact⟨fun h=>(e6 b hb).1 (hS b (e6 b hb).2 h),by rw[World.size_setCell];have:=(e6 b hb).2;omega⟩
     · have hi':i=D.length:=by simp at hi;omega
       subst hi'
       refine⟨L,R,?_,?_,?_,?_,?_,?_⟩
       · rw[List.getElem?_append_right (by omega),show 2*D.length-xs.length=0 by omega];rfl
       · rw[List.getElem?_append_right (by omega),show 2*D.length+1-xs.length=1 by omega];rfl
       · simp only[List.getElem_concat_length];exact hst hL (fun b hb h=>by have:=hold b h;have:=fL b hb;omega)
       · simp only[List.getElem_concat_length];exact hst hR (fun b hb h=>by have:=hold b h;have:=fR b hb;omega)
       · intro b hb;exact⟨fun h=>by have:=hold b (hS b (fL b hb).2 h);have:=fL b hb;omega,by rw[World.size_setCell];have:=(fL b hb).2;omega⟩
       · intro b hb;exact⟨fun h=>by have:=hold b (hS b (fR b hb).2 h);have:=fR b hb;omega,by rw[World.size_setCell];have:=(fR b hb).2;omega⟩
 · refine⟨?_,?_,?_,by rw[World.size_setCell];omega,fun k hk hf=>?_⟩
   · exact(hg2.os.trans hg1.os).trans hE.os
   · exact(hg2.tape.trans hg1.tape).trans hE.tape
   · exact(hg2.output.trans hg1.output).trans hE.output
   · rw[hblk k (by omega) (fun e=>hf (.inl e)) (fun e=>hf (.inr (.inl e))) (fun e=>hf (.inr (.inr e)))]
     exact hE.block k hk
 · intro b h
   rcases InS.EH L1 L2 (by omega) h with h | h
   · exact .inl h
   · exact .inr (by omega)
theorem wY {D:Dag} {k:Nat} {nd:Nd} (hk:k<D.length) (h:Hid (∀ j (h:j<D.length),j<k→D[j]≠nd)) (hne:D[k]≠nd):Hid (∀ j (h:j<D.length),j<k+1→D[j]≠nd):=by
 intro j hj hjk
 by_cases e:j=k
 · subst e;exact hne
 · exact h j hj (by omega)
theorem IZ {D:Dag} {l r:List Nat} (hD:Cgt.WF D) {k:Nat} (hk:k<D.length) (he:D[k]=(ai l,ai r)) (hl:∀ x,x∈l→x<D.length) (hr:∀ x,x∈r→x<D.length):(Cgt.born (vl D k):Int)=dh D (l++r) :=
 qX hD (l':=ai l) (r':=ai r) (by rw[← he];exact List.getElem?_eq_getElem hk) (fun _=>aK) (fun _=>aK)
  (ko hD _ (fun x hx=>by rcases List.mem_append.1 hx with h | h;exact hl x h;exact hr x h)).1
set_option maxHeartbeats 2000000 in
theorem oQ (pb:Nat) (vn vb:Value) (D:Dag) (v u:Value) (l r:List Nat) (w:World) (hB:bu w pb vn vb D) (hv:Ints w v (toZ l)) (hu:Ints w u (toZ r))
 (hl:∀ x,x∈l→x<D.length) (hr:∀ x,x∈r→x<D.length) (hls:l.length≤1000000) (hrs:r.length≤1000000) (hroom:D.length+1≤1000000) :
 Calls prog 134 #[.pointer (some ⟨pb,0,none⟩),v,u] w (zO pb vn vb D l r w):=by
 obtain⟨a,cap,rfl,hlc,hcap,hc⟩:=hv
 obtain⟨a',cap',rfl,CO,yJ,hc'⟩:=hu
 rw[aj] at hlc hcap hc CO yJ hc'
 rw[aj,aj]
 go_enter Tryz.func134,Tryz.ntmps134
 go_wp2
 go_loopw [7,9,10] (fun o bn i wr=>∃ k:Nat,k≤l.length∧i=.int .i64 k∧bn=.int .i64 (dh D (l.take k))∧Ints wr o (dO (toZ (l.take k)))∧Ext w wr∧Hid (∀ b,o.ownBlock=some b→w.heap.size≤b∧b<wr.heap.size)∧w.heap.size+2≤wr.heap.size) (fun _ _ i _=>l.length-(intOf i).toNat)
 case atStart=>exact⟨0,Nat.zero_le _,rfl,rfl,Ints.nil _ _ _,by go_grown,fun b hb=>by simp[Value.ownBlock] at hb;subst hb;exact⟨Nat.le_refl _,by simp;try omega⟩,by simp⟩
 case round =>
  obtain⟨k,hk,rfl,rfl,hI,dB,HF,HS0⟩:=hrel
  by_cases hlt:k<l.length
  · obtain⟨b,off,rfl,hcell⟩:=hc (by omega)
    have hck:=hcell k hlt
    have jF:=(dB.cell (lt_of_cell hck)).trans hck
    have hxk:=hl (l[k]) (List.getElem_mem hlt)
    rw[dN hlt] at jF
    obtain⟨gb,QQ,rfl,hbl,hbc,nY⟩:=hB.p9 hxk
    have xJ:=(dB.cell (lt_of_cell nY)).trans nY
    have hp1:=(dB.cell (lt_of_cell hB.cell1)).trans hB.cell1
    have hlen:(dO (toZ (l.take k))).length≤1000000000:=by
     have:=nO (toZ (l.take k));rw[aj] at this;have:=List.length_take_le k l;omega
    clear hcell hc hck nY
    go_wp2_with (go_at_call 180;refine(nW _ _ _ _ hI hlen).mono ?_;rintro e w1 ⟨v1,rfl,hI1,hx1,hn1⟩)
    have c1:=(hx1.cell (lt_of_cell jF)).trans jF
    have c2:=(hx1.cell (lt_of_cell xJ)).trans xJ
    have c3:=(hx1.cell (lt_of_cell hp1)).trans hp1
    have hbn:=ko hB.good.wf (l.take k) (Jh hl)
    have hbx:=Cgt.kJ hB.good.wf l[k]
    have hds:=hB.small
    have HS:=Hd_ (zZ hlt)
    have HN:=Hd_ (wU D hlt)
    have HX:=Hd_ (nR HF.out dB.size hx1.size hn1)
    have hE1:=aa dB hx1
    have hsz1:=hx1.size
    clear jF xJ hp1 HF hn1 hx1 dB hI
    go_wp2
    go_quiet ((go_at_call 158;first | exact Calls.quiet_of (l9 _ _ _) | exact lN (l9 _ _ _)))
    go_wp2
    go_roundw
    case rel=>exact⟨k+1,by omega,by go_num,by rw[HN.out],by rw[HS.out];exact eX hI1 _,bN hE1 _,HX.out,by have:=hsz1;simp;omega⟩
    case measure=>simp[intOf];omega
  · have hkl:k=l.length:=by omega
    subst hkl
    rw[List.take_length] at hI ⊢
    obtain⟨wo,rfl⟩:∃ wo:World,wo=wr:=⟨_,rfl⟩
    have hpo:=dB.size
    go_wp2
    go_loopw [8,9,11] (fun o bn i wr=>∃ k:Nat,k≤r.length∧i=.int .i64 k∧bn=.int .i64 (dh D (l++r.take k))∧Ints wr o (dO (toZ (r.take k)))∧Ext wo wr∧Hid (∀ b,o.ownBlock=some b→w.heap.size≤b∧b<wr.heap.size)) (fun _ _ i _=>r.length-(intOf i).toNat)
    case atStart=>exact⟨0,Nat.zero_le _,rfl,by simp,Ints.nil _ _ _,Below.refl _ _,fun b hb=>by simp[Value.ownBlock] at hb;subst hb;exact⟨by omega,by have:=HS0;omega⟩⟩
    case round =>
     obtain⟨k,hk,rfl,rfl,hI2,qB,HF2⟩:=hrel
     by_cases hlt:k<r.length
     · obtain⟨b,off,rfl,hcell⟩:=hc' (by omega)
       have hck:=hcell k hlt
       have hE2:=aa dB qB
       have jF:=(hE2.cell (lt_of_cell hck)).trans hck
       have hxk:=hr (r[k]) (List.getElem_mem hlt)
       rw[dN hlt] at jF
       obtain⟨gb,QQ,rfl,hbl,hbc,nY⟩:=hB.p9 hxk
       have xJ:=(hE2.cell (lt_of_cell nY)).trans nY
       have hp1:=(hE2.cell (lt_of_cell hB.cell1)).trans hB.cell1
       have hlen:(dO (toZ (r.take k))).length≤1000000000:=by
        have:=nO (toZ (r.take k));rw[aj] at this;have:=List.length_take_le k r;omega
       clear hcell hc' hck nY
       go_wp2_with (go_at_call 180;refine(nW _ _ _ _ hI2 hlen).mono ?_;rintro e w1 ⟨v1,rfl,hI1,hx1,hn1⟩)
       have c1:=(hx1.cell (lt_of_cell jF)).trans jF
       have c2:=(hx1.cell (lt_of_cell xJ)).trans xJ
       have c3:=(hx1.cell (lt_of_cell hp1)).trans hp1
       have hbn:=ko hB.good.wf (l++r.take k) (by intro x hx;rcases List.mem_append.1 hx with h | h;exact hl x h;exact hr x (List.mem_of_mem_take h))
       have hbx:=Cgt.kJ hB.good.wf r[k]
       have hds:=hB.small
       have HS:=Hd_ (zZ hlt)
       have HN:=Hd_ (uW D l hlt)
       have HX:=Hd_ (nR HF2.out (by have:=hE2.size;omega) hx1.size hn1)
       have hE1:=aa qB hx1
       clear jF xJ hp1 HF2 hn1 hx1 qB hI2 hE2
       go_wp2
       go_quiet ((go_at_call 158;first | exact Calls.quiet_of (l9 _ _ _) | exact lN (l9 _ _ _)))
       go_wp2
       go_roundw
       case rel=>exact⟨k+1,by omega,by go_num,by rw[HN.out],by rw[HS.out];exact eX hI1 _,bN hE1 _,HX.out⟩
       case measure=>simp[intOf];omega
     · have hkr:k=r.length:=by omega
       subst hkr
       rw[List.take_length] at hI2 ⊢
       have hE:=aa dB qB
       have hB2:=hB.ext hE
       have hI1:=hI.ext qB
       obtain⟨wp,rfl⟩:∃ wp:World,wp=wr:=⟨_,rfl⟩
       go_wp2
       go_loopw [12] (fun i wr=>∃ k:Nat,k≤D.length∧i=.int .i64 k∧RD wp wr∧Hid (∀ j (h:j<D.length),j<k→D[j]≠(ai l,ai r))) (fun i _=>D.length-(intOf i).toNat)
       case atStart=>exact⟨0,Nat.zero_le _,rfl,rd0 _,fun j _ h=>absurd h (by omega)⟩
       case round =>
        obtain⟨k,hk,rfl,⟨n,rfl⟩,HN⟩:=hrel
        have hp0:=hB2.cell0
        have hp1:=hB2.cell1
        have hds:=hB.small
        by_cases hlt:k<D.length
        · obtain⟨gb,QQ,rfl,hbl,hbc,nY⟩:=hB2.p9 hlt
          obtain⟨gn,He,L,R,rfl,hnl,hnc,hL,hR,hIL,hIR⟩:=hB2.nQ hlt
          by_cases e1:(Cgt.born (vl D k):Int)=dh D (l++r)
          · have hb1:((Cgt.born (vl D k):Int) == dh D (l++r))=true:=by simp[e1]
            clear e1 hc hc' hI dB qB
            cases hs1:iT (toZ (D[k]).1) (dO (toZ l)) with
            | false =>
              have HS1:=Hd_ hs1
              go_wp2_with (first | (go_at_call 181;refine(l8 _ _ _ _ _ (by with_reducible first | exact eX hIL _ | exact eX hIR _) (by with_reducible first | exact eX hI1 _ | exact eX hI2 _)).mono ?_;rintro e w1 ⟨he,n1,rfl⟩;rw[hs1] at he;subst he))
              go_roundw
              case rel=>exact⟨k+1,by omega,by go_num,⟨_,rfl⟩,wY hlt HN (fun he=>by have h:=HS1.out;rw[he,← gD] at h;simp[iT] at h)⟩
              case measure=>simp[intOf];omega
            | true =>
              cases hs2:iT (toZ (D[k]).2) (dO (toZ r)) with
              | false =>
                have HS2:=Hd_ hs2
                go_wp2_with (first | (go_at_call 181;refine(l8 _ _ _ _ _ (by with_reducible first | exact eX hIL _ | exact eX hIR _) (by with_reducible first | exact eX hI1 _ | exact eX hI2 _)).mono ?_;rintro e w1 ⟨he,n1,rfl⟩;(first | rw[hs1] at he | rw[hs2] at he);subst he))
                go_roundw
                case rel=>exact⟨k+1,by omega,by go_num,⟨_,rfl⟩,wY hlt HN (fun he=>by have h:=HS2.out;rw[he,← gD] at h;simp[iT] at h)⟩
                case measure=>simp[intOf];omega
              | true =>
                have HS1:=Hd_ hs1
                have HS2:=Hd_ hs2
                go_wp2_with (first | (go_at_call 181;refine(l8 _ _ _ _ _ (by with_reducible first | exact eX hIL _ | exact eX hIR _) (by with_reducible first | exact eX hI1 _ | exact eX hI2 _)).mono ?_;rintro e w1 ⟨he,n1,rfl⟩;(first | rw[hs1] at he | rw[hs2] at he);subst he))
                go_ret
                have e1:(D[k]).1=ai l:=by have h:=HS1.out;rw[gD] at h;exact Ew (of_decide_eq_true h)
                have e2:(D[k]).2=ai r:=by have h:=HS2.out;rw[gD] at h;exact Ew (of_decide_eq_true h)
                exact⟨_,_,D,k,rfl,hB2.ext (dw ⟨_,rfl⟩),bZ (bN hE _),fun b h=>.inl h,fun b h=>.inl (dm.back hB (bN hE _) h),by rw[List.getElem?_eq_getElem hlt,← e1,← e2],.inl rfl⟩
          · have hb1:((Cgt.born (vl D k):Int) == dh D (l++r))=false:=by simp[e1]
            have E1:=Hd_ e1
            clear e1
            go_wp2
            go_roundw
            case rel=>exact⟨k+1,by omega,by go_num,⟨_,rfl⟩,wY hlt HN (fun he=>E1.out (IZ hB.good.wf hlt he hl hr))⟩
            case measure=>simp[intOf];omega
        · have hkd:k=D.length:=by omega
          subst hkd
          obtain⟨xs,hown,Jz⟩:=hB2.nodes
          obtain⟨an,cn,rfl,hn1,hn2⟩:=az hown
          obtain⟨ab,cb,rfl,hb1,hb2⟩:=az hB2.born
          have xN:=Hd_ hI1
          have hwo:=qB.size
          have TK:=Hd_ hI2
          have hB':=Hd_ hB
          have hB2':=Hd_ hB2
          have Ow:=Hd_ Jz
          obtain⟨al,cl,rfl,hl1,hl2,hl3⟩:=hI1
          obtain⟨ar,cr,rfl,hr1,hr2,hr3⟩:=hI2
          have hfr:=hB2.free
          have hlt:=hB2.lt
          have ha1:=hB2.fM
          obtain⟨iN,hiN,zN0,zN1,zN2⟩:=info_parts uE
          obtain⟨i0,hi,hz0,hz1,hz2⟩:=info_parts eO
          clear hc hc' hI dB qB hl3 hr3 hB hB2 Jz
          have hown0:=(own_drewN hown n).alloc (.cells #[.slice al (dO (toZ l)).length cl,.slice ar (dO (toZ r)).length cr] 89)
          have hbk:=hB2'.out.born
          have HB:=Hd_ (show (wp.drewN n).ownsRow 0 3 1 (.slice ab D.length cb) D.length _ from hbk)
          have HO:=Hd_ hown0
          have HP0:=Hd_ (bU (w:=wp.drewN n) hp0)
          have HP1:=Hd_ (bU (w:=wp.drewN n) hp1)
          have HFR:=Hd_ (fun o X=>(oO (w:=wp.drewN n) (a:=⟨pb,o,none⟩) X hlt).trans (hfr o))
          have ha2:=hB2'.out.gX
          have ha3:=hB2'.out.gV
          have hown':=hown
          clear hown0 hbk hfr
          go_wp2_with (first
           | (at_builtin;refine aW rfl (.tmp 112) (.tmp 116) 26 rfl 0 89 iN (.agg #[.slice none 0 0,.slice none 0 0]) 2 48 underlying26 hiN zN0 zN1 zN2 rfl (by decide) (.slice an D.length cn) D.length xs rfl HO.out (some ⟨wp.heap.size,0,none⟩) 1 _ [.slice al (dO (toZ l)).length cl,.slice ar (dO (toZ r)).length cr] rfl rfl (.inr ⟨_,rfl,ze (w:=wp.drewN n)⟩) ll (by unfold maxLen;omega) (by omega) (Nat.zero_le _) ?_
              intro v1 w1 ho1 hg1 hl1
              obtain⟨q1,q2,q3,q4,q5,q6⟩:=KJ hB2'.out hg1
              obtain⟨a1,c1,rfl,g1,g2⟩:=az ho1)
           | (at_builtin;refine aW rfl (.tmp 124) (.tmp 126) 80 rfl 0 3 i0 (.int .i64 0) 1 8 underlying80 hi hz0 hz1 hz2 rfl (by decide) (.slice ab D.length cb) D.length ((D.mapIdx fun i _=>(Cgt.born (vl D i):Int)).map (Value.int .i64)) rfl ((ownsRow_setCell_other q6 ha2 _).alloc _) _ 1 _ [.int .i64 (dh D (l++r))] rfl rfl (.inr ⟨_,rfl,bq (pz _ _ _ _ _)⟩) one_cell (by unfold maxLen;omega) (by omega) (Nat.zero_le _) ?_
              intro v2 w2 ho2 hg2 hl2
              obtain⟨r1,r2,r3⟩:=KI q2 q4 q1 ha2 hg2
              obtain⟨a2,c2,rfl,g3,g4⟩:=az ho2))
          go_ret
          exact Oc hB'.out hE hown' Ow.out hg1 ho1 hl1 hg2 ho2 hl2 (by rw[← gD];exact xN.out) (by rw[← gD];exact TK.out) (fun b hb=>⟨(HF.out b hb).1,Nat.lt_of_lt_of_le (HF.out b hb).2 hwo⟩) HF2.out hl hr HN.out hroom
end Go.Proofs.YteknjeohbcgpdaaGreatDoor