/-
  Contract of the reference's book of games: put.
-/
import Derived.Test.YteknjeohbcgpdaaGreatDoorK5
import Derived.Deep.AppendLies
set_option maxRecDepth 100000
namespace Go.Proofs.YteknjeohbcgpdaaGreatDoor
open Tryz
open Go.RowKit
open bz (dC Nd vl)
variable {w wp w1 w2:World} {pb i b k n:Nat} {vn vb x v L R pV pF:Value} {D:dC} {l r:List Nat} {e:TypeId} {a:Addr}
def jo(D:dC)(l r:List Nat)(D':dC)(i:Nat):Prop:=
 D'[i]?=some (bE l,bE r)/\(D'=D\/D'=D++[(bE l,bE r)])
def gy(w:World)(vn:Value)(n:Nat)(b:Nat):Prop:=∃i g cap v,i<n/\vn=.slice (some ⟨g,0,none⟩) n cap/\(w.cell? ⟨g,i*2,none⟩=some v\/w.cell? ⟨g,i*2+1,none⟩=some v)/\v.ownBlock=some b
def GN(pb:Nat)(vn vb:Value)(D:dC)(l r:List Nat)(w:World)(e:Ending)(w':World):Prop:=
 ∃uj wI D' i,e=.returned (.int .i64 ((i:Nat):Int))/\eD w' pb uj wI D'/\fe (kR pb vn vb) w w'/\(∀b,kR pb uj wI b->kR pb vn vb b\/w.heap.size<=b)/\(∀b,gy w' uj D'.length b->gy w vn D.length b\/w.heap.size<=b)/\jo D l r D' i
def fJ(D:dC)(l:List Nat):Int:=l.foldl (λm x=>max m ((bz.born (vl D x):Int)+1)) 0
theorem eD.Zaa(h:eD w pb vn vb D){x:Nat}(hx:x<D.length):
 ∃g cap,vb=.slice (some ⟨g,0,none⟩) D.length cap/\D.length<=cap/\cap<=maxLen/\w.cell? ⟨g,x,none⟩=some (.int .i64 (bz.born (vl D x))):=by
 obtain⟨g,cap,h1,h2,h3,h4⟩:=iB h.born (by omega);refine⟨g,cap,h1,h2,h3,?_⟩;rw[h4 x (by omega)];simp[hx]
theorem eD.rz(h:eD w pb vn vb D)(hi:i<D.length):
 ∃g cap L R,vn=.slice (some ⟨g,0,none⟩) D.length cap/\D.length<=cap/\cap<=maxLen/\w.cell? ⟨g,i*2,none⟩=some L/\w.cell? ⟨g,i*2+1,none⟩=some R/\Ints w L (dx (D[i]).1)/\Ints w R (dx (D[i]).2):=by
 obtain⟨xs,ho,hn⟩:=h.nodes;obtain⟨g,cap,h1,h2,h3,h4⟩:=iB ho (by omega);obtain⟨L,R,e1,e2,e3,e4,_⟩:=hn i hi;exact⟨g,cap,L,R,h1,h2,h3,by rw[h4 _ (by omega),jk];exact e1,by rw[h4 _ (by omega),jk];exact e2,e3,e4⟩
theorem eD.I7(h:eD w pb vn vb D)(hi:i<D.length):
 ∃g cap L R,vn=.slice (some ⟨g,0,none⟩) D.length cap/\D.length<=cap/\cap<=maxLen/\w.cell? ⟨g,i*2,none⟩=some L/\w.cell? ⟨g,i*2+1,none⟩=some R/\Ints w L (dx (D[i]).1)/\Ints w R (dx (D[i]).2)/\
  (∀b,L.ownBlock=some b->¬kR pb vn vb b/\b<w.heap.size)/\(∀b,R.ownBlock=some b->¬kR pb vn vb b/\b<w.heap.size):=by
 obtain⟨xs,ho,hn⟩:=h.nodes;obtain⟨g,cap,h1,h2,h3,h4⟩:=iB ho (by omega);obtain⟨L,R,e1,e2,e3,e4,e5,e6⟩:=hn i hi;exact⟨g,cap,L,R,h1,h2,h3,by rw[h4 _ (by omega),jk];exact e1,by rw[h4 _ (by omega),jk];exact e2,e3,e4,e5,e6⟩
theorem gy.back{w':World}(hB:eD w pb vn vb D)(hx:Ext w w')(h:gy w' vn D.length b):gy w vn D.length b:=by
 obtain⟨i,g,cap,v,hi,he,hc,hv⟩:=h;obtain⟨g',cap',L,R,he',_,_,c1,c2,_⟩:=hB.rz hi;rw[he]at he';simp only[Value.slice.injEq,bJ,Addr.mk.injEq,and_true,true_and]at he';obtain⟨rfl,rfl⟩:=he';refine⟨i,g,cap,v,hi,he,?_,hv⟩;rcases hc with hc|hc
 .exact .inl (by rw[<-hx.cell (lt_of_cell c1)];exact hc)
 .exact .inr (by rw[<-hx.cell (lt_of_cell c2)];exact hc)
theorem uZ(D:dC)(h:k<l.length):fJ D (l.take (k+1))=max (fJ D (l.take k)) ((bz.born (vl D l[k]):Int)+1):=by
 rw[bg h,fJ,List.foldl_append];rfl
theorem tK(D:dC)(l:List Nat)(h:k<r.length):fJ D (l++r.take (k+1))=max (fJ D (l++r.take k)) ((bz.born (vl D r[k]):Int)+1):=by
 rw[bg h,<-bY,fJ,List.foldl_append];rfl
theorem l5(hD:bz.WF D)(l:List Nat)(hl:∀x,x∈l->x<D.length):0<=fJ D l/\fJ D l<=D.length:=by
 have main:∀(l:List Nat) (m:Int),0<=m->m<=D.length->(∀x,x∈l->x<D.length)->0<=l.foldl (λm x=>max m ((bz.born (vl D x):Int)+1)) m/\l.foldl (λm x=>max m ((bz.born (vl D x):Int)+1)) m<=D.length:=by
  intro l
  induction l with
  |nil=>intro m h1 h2 _;exact⟨h1,h2⟩
  |cons x l ih=>
   intro m h1 h2 hx;have h3:=bz.nH hD x;have h4:=hx x (by simp);exact ih _ (by show 0<=max _ _;omega) (by show max _ _<=_;omega) (λy hy=>hx y (by simp[hy]))
 exact main l 0 (by omega) (by omega) hl
theorem O5(hl:∀x,x∈l->x<D.length):∀x,x∈l.take k->x<D.length:=λx hx=>hl x (gU hx)
theorem Ew(h:k<l.length):jD (dx (l.take (k+1)))=qz (jD (dx (l.take k))) (l[k]:Int):=by
 rw[bg h,dx,aU];exact xI _ _
theorem zV:(prog.info? 89).map (λi=>(i.zero,i.size,i.bytes))=some (some (.agg #[.slice none 0 0,.slice none 0 0]),2,48):=by kernel_rfl
theorem FD{y:Value}:∀j u,([x,y]:List Value)[j]?=some u->(w.alloc (.cells #[x,y] e)).cell? ((⟨w.heap.size,0,none⟩:Addr).add j)=some u:=by
 intro j u h
 match j with
 | 0=>simp at h;subst h;exact(World.cell?_alloc_at (w:=w) #[x,y] e _ 0 rfl)
 | 1=>simp at h;subst h;exact(World.cell?_alloc_at (w:=w) #[x,y] e _ 1 rfl)
 |n+2=>simp at h
theorem bI(h:w.cell? a=some v)(o:Obj):(w.alloc o).cell? a=some v:=(World.cell?_alloc_lt w o a (lt_of_cell h)).trans h
theorem tT(o:Obj)(h:a.block<w.heap.size):(w.alloc o).frozen? a=w.frozen? a:=World.frozen?_alloc_old w o a (by omega)
theorem uw{a b:Option Addr}{m c d:Nat}:∀u∈([Value.slice a n c,Value.slice b m d]:List Value),u.oneCell'=true:=by
 intro u h;simp at h;rcases h with rfl|rfl <;> rfl
theorem lQ{l:List Int}(h:Ints w v l)(n:Nat):Ints (w.drewN n) v l:=h.ext (bS ⟨n,rfl⟩)
theorem Rq(hB:eD wp pb vn vb D)(hg:((wp.drewN n).alloc (.cells #[L,R] 89)).grownBy w1 vn.ownBlock):
 w1.cell? ⟨pb,0,none⟩=some vn/\w1.cell? ⟨pb,1,none⟩=some vb/\w1.frozen? ⟨pb,0,none⟩=false/\w1.frozen? ⟨pb,1,none⟩=false/\pb<w1.heap.size/\
  w1.ownsRow 0 3 1 vb D.length ((D.mapIdx λi _=>(bz.born (vl D i):Int)).map (Value.int .i64)):=by
 have hlt:pb<(wp.drewN n).heap.size:=hB.lt;have hl1:pb<((wp.drewN n).alloc (.cells #[L,R] 89)).heap.size:=by rw[fw];omega
 refine⟨hg.cell (bI (w:=wp.drewN n) hB.cell0 _) hB.kX.symm,hg.cell (bI (w:=wp.drewN n) hB.cell1 _) hB.kX.symm,?_,?_,aQ hl1 hg.size,?_⟩
 .exact(hg.frozen_far ⟨pb,0,none⟩ hl1 hB.kX.symm).trans ((tT (w:=wp.drewN n) _ hlt).trans (hB.free 0))
 .exact(hg.frozen_far ⟨pb,1,none⟩ hl1 hB.kX.symm).trans ((tT (w:=wp.drewN n) _ hlt).trans (hB.free 1))
 .refine World.ownsRow.kept ((own_drewN hB.born n).alloc _) hg ?_
  cases h:vb.ownBlock with
  |none=>exact .inl rfl
  |some b=>exact .inr (λe=>hB.mP b e.symm h)
theorem sQ(w:World)(a:Addr)(u v:Value)(e:TypeId):((w.setCell a u).alloc (.cells #[v] e)).cell? ⟨w.heap.size,0,none⟩=some v:=by
 have:=bP (w.setCell a u) v e;rw[World.size_setCell]at this;exact this
theorem Rp(q2:w1.cell? ⟨pb,1,none⟩=some vb)(q4:w1.frozen? ⟨pb,1,none⟩=false){u:Value}(q1:w1.cell? ⟨pb,0,none⟩=some u)(ha:vb.ownBlock≠some pb)(hg:((w1.setCell ⟨pb,0,none⟩ pV).alloc (.cells #[x] e)).grownBy w2 vb.ownBlock):
 w2.cell? ⟨pb,0,none⟩=some pV/\w2.cell? ⟨pb,1,none⟩=some vb/\w2.frozen? ⟨pb,1,none⟩=false:=by
 have c0:(w1.setCell ⟨pb,0,none⟩ pV).cell? ⟨pb,0,none⟩=some pV:=World.cell?_setCell_same _ _ _ q1;have c1:(w1.setCell ⟨pb,0,none⟩ pV).cell? ⟨pb,1,none⟩=some vb:=(World.cell?_setCell_other _ _ _ _ (by simp)).trans q2;refine⟨hg.cell (bI c0 _) ha.symm,hg.cell (bI c1 _) ha.symm,?_⟩;have hl:pb<(w1.setCell ⟨pb,0,none⟩ pV).heap.size:=lt_of_cell c0;exact(hg.frozen_far ⟨pb,1,none⟩ (by rw[fw];exact Nat.lt_succ_of_lt hl) ha.symm).trans ((tT _ hl).trans (by rw[World.frozen?_setCell];exact q4))
theorem kR.Na{N M:Nat}(h1:pV.ownBlock=vn.ownBlock\/∃g,pV.ownBlock=some g/\N<=g)(h2:pF.ownBlock=vb.ownBlock\/∃g,pF.ownBlock=some g/\M<=g)(hMN:N<=M)(h:kR pb pV pF b):kR pb vn vb b\/N<=b:=by
 rcases h with h|h|h
 .exact .inl (.inl h)
 .rcases h1 with h1|⟨g,h1,h3⟩
  .exact .inl (.inr (.inl (h1 ▸ h)))
  .rw[h1]at h;injection h with h;exact .inr (by omega)
 .rcases h2 with h2|⟨g,h2,h3⟩
  .exact .inl (.inr (.inr (h2 ▸ h)))
  .rw[h2]at h;injection h with h;exact .inr (by omega)
theorem PY(D:dC)(l:List Nat)(n:Nat):fJ D l<=n↔∀x,x∈l->bz.born (vl D x)<n:=by
 have main:∀(l:List Nat) (m:Int),l.foldl (λm x=>max m ((bz.born (vl D x):Int)+1)) m<=n↔m<=n/\∀x,x∈l->bz.born (vl D x)<n:=by
  intro l
  induction l with
  |nil=>intro m;simp
  |cons x l ih=>
   intro m;simp only[List.foldl_cons,ih,dD];constructor
   .rintro⟨h1,h2⟩
    exact⟨by omega,λy hy=>by rcases hy with rfl|hy;omega;exact h2 y hy⟩
   .rintro⟨h1,h2⟩
    have:=h2 x (.inl rfl);exact⟨by omega,λy hy=>h2 y (.inr hy)⟩
 have:=main l 0;unfold fJ;rw[this];simp
theorem qJ(h:bz.WF D){l' r':List Nat}(hd:D[k]?=some (l',r'))(hl:∀x,x∈l'↔x∈l)(hr:∀x,x∈r'↔x∈r)(h0:0<=fJ D (l++r)):
 (bz.born (vl D k):Int)=fJ D (l++r):=by
 have e:∀n:Nat,bz.born (vl D k)<=n↔fJ D (l++r)<=n:=by
  intro n;rw[bz.qI,PY,bz.om h hd,bz.oh h hd];simp only[List.forall_mem_map,hl,hr,aK];constructor
  .rintro⟨a,b⟩ x (hx|hx)
   .exact a x hx
   .exact b x hx
  .intro a;exact⟨λx hx=>a x (.inl hx),λx hx=>a x (.inr hx)⟩
 have h1:=(e (bz.born (vl D k))).1 (ai _);have h2:=(e (fJ D (l++r)).toNat).2 (by omega);omega
set_option maxHeartbeats 1000000 in
theorem VC{xs:List Value}(hBw:eD w pb vn vb D)(hE:Ext w wp)(hown:wp.ownsRow 0 89 2 vn D.length xs)
 (hnd:∀i (h:i<D.length),∃L R,xs[2*i]?=some L/\xs[2*i+1]?=some R/\Ints wp L (dx (D[i]).1)/\Ints wp R (dx (D[i]).2)/\(∀b,L.ownBlock=some b->¬kR pb vn vb b/\b<wp.heap.size)/\(∀b,R.ownBlock=some b->¬kR pb vn vb b/\b<wp.heap.size))
 (hg1:((wp.drewN n).alloc (.cells #[L,R] 89)).grownBy w1 vn.ownBlock) (ho1:w1.ownsRow 0 89 2 pV (D.length+1) (xs++[L,R])) (hl1:mM ((wp.drewN n).alloc (.cells #[L,R] 89)) vn pV)
 (hg2:((w1.setCell ⟨pb,0,none⟩ pV).alloc (.cells #[.int .i64 (fJ D (l++r))] 3)).grownBy w2 vb.ownBlock) (ho2:w2.ownsRow 0 3 1 pF (D.length+1) ((D.mapIdx λi _=>(bz.born (vl D i):Int)).map (Value.int .i64)++[.int .i64 (fJ D (l++r))]))
 (hl2:mM ((w1.setCell ⟨pb,0,none⟩ pV).alloc (.cells #[.int .i64 (fJ D (l++r))] 3)) vb pF)
 (hL:Ints wp L (dx (bE l))) (hR:Ints wp R (dx (bE r))) (fL:∀b,L.ownBlock=some b->w.heap.size<=b/\b<wp.heap.size) (fR:∀b,R.ownBlock=some b->w.heap.size<=b/\b<wp.heap.size)
 (hl:∀x,x∈l->x<D.length) (hr:∀x,x∈r->x<D.length) (hN:∀j (h:j<D.length),j<D.length->D[j]≠(bE l,bE r)) (hsm:D.length+1<=1000000):
 GN pb vn vb D l r w (.returned (.int .i64 ((D.length:Nat):Int))) (w2.setCell ⟨pb,1,none⟩ pF):=by
 have hB:=hBw.ext hE;have hpb:=hBw.lt;have hsz:=hE.size;have z1:=hg1.size;have z2:=hg2.size;rw[fw]at z1 z2;rw[World.size_setCell]at z2;have z0:(wp.drewN n).heap.size=wp.heap.size:=rfl;rw[z0]at z1;have hvb:=hBw.born.lt;obtain⟨xs0,abJ,_⟩:=hBw.nodes;have hvn:=abJ.lt;have hv1:=ho1.lt;have hv2:=ho2.lt;have L1:pV.ownBlock=vn.ownBlock\/∃g,pV.ownBlock=some g/\wp.heap.size+1<=g:=by
  rcases hl1 with h|⟨g,h,k⟩
  .exact .inl h
  .rw[fw,z0]at k;exact .inr ⟨g,h,k⟩
 have L2:pF.ownBlock=vb.ownBlock\/∃g,pF.ownBlock=some g/\w1.heap.size+1<=g:=by
  rcases hl2 with h|⟨g,h,k⟩
  .exact .inl h
  .rw[fw,World.size_setCell]at k;exact .inr ⟨g,h,k⟩
 have hblk:∀k,k<wp.heap.size->k≠pb->vn.ownBlock≠some k->vb.ownBlock≠some k->(w2.setCell ⟨pb,1,none⟩ pF).heap[k]?=wp.heap[k]?:=by
  intro k hk h1 h2 h3
  rw[heap_setCell_other _ _ _ _ h1,hg2.block k (by rw[fw,World.size_setCell];omega) (Ne.symm h3),(World.grownBy_alloc _ _ none).block k (by rw[World.size_setCell];omega) (by simp),heap_setCell_other _ _ _ _ h1,
   hg1.block k (by rw[fw,z0];omega) (Ne.symm h2),(World.grownBy_alloc _ _ none).block k (by rw[z0];omega) (by simp)]
  rfl
 obtain⟨t,ht⟩:=hB.cells;have hp1:w1.heap[pb]?=some (.cells #[vn,vb] t (0,0)):=by
  rw[hg1.block pb (by rw[fw,z0];omega) hB.kX.symm,(World.grownBy_alloc _ _ none).block pb (by rw[z0];omega) (by simp)];exact ht
 have hp2:(w1.setCell ⟨pb,0,none⟩ pV).heap[pb]?=some (.cells #[pV,vb] t (0,0)):=heap_setCell_same _ _ _ _ _ _ hp1;have hp3:w2.heap[pb]?=some (.cells #[pV,vb] t (0,0)):=by
  rw[hg2.block pb (by rw[fw,World.size_setCell];omega) hB.mQ.symm,(World.grownBy_alloc _ _ none).block pb (by rw[World.size_setCell];omega) (by simp)];exact hp2
 have hp4:(w2.setCell ⟨pb,1,none⟩ pF).heap[pb]?=some (.cells #[pV,pF] t (0,0)):=heap_setCell_same _ _ _ _ _ _ hp3;have a1:pV.ownBlock≠some pb:=by
  rcases L1 with h|⟨g,h,k⟩
  .rw[h];exact hB.kX
  .rw[h];intro e;injection e with e;omega
 have a2:pF.ownBlock≠some pb:=by
  rcases L2 with h|⟨g,h,k⟩
  .rw[h];exact hB.mQ
  .rw[h];intro e;injection e with e;omega
 have a3:∀b,pV.ownBlock=some b->vb.ownBlock≠some b:=by
  intro b hb;rcases L1 with h|⟨g,h,k⟩
  .exact hB.mP b (h ▸ hb)
  .rw[h]at hb;injection hb with hb
   intro e;have:=hvb b e;omega
 have a4:∀b,pV.ownBlock=some b->pF.ownBlock≠some b:=by
  intro b hb;rcases L2 with h|⟨g,h,k⟩
  .rw[h];exact a3 b hb
  .rw[h];intro e;injection e with e
   have:=hv1 b hb;omega
 have hst:∀{v:Value} {k:List Int},Ints wp v k->(∀b,v.ownBlock=some b->¬kR pb vn vb b)->Ints (w2.setCell ⟨pb,1,none⟩ pF) v k:=by
  intro v k h hb;exact h.keep (λb hk e=>hblk b (h.blk hk e) (λe'=>hb b e (.inl e')) (λe'=>hb b e (.inr (.inl e'))) (λe'=>hb b e (.inr (.inr e'))))
 have hS:∀b,b<wp.heap.size->kR pb pV pF b->kR pb vn vb b:=by
  intro b hb h;rcases kR.Na L1 L2 (by omega) h with h|h
  .exact h
  .omega
 have hold:∀b,kR pb vn vb b->b<w.heap.size:=by
  rintro b (rfl|h|h)
  .exact hpb
  .exact(hvn b h).2
  .exact(hvb b h).2
 have hg:bz.Good (D++[(bE l,bE r)]):=hB.good.snoc (λk hk=>hl k (bZ.1 hk)) (λk hk=>hr k (bZ.1 hk)) (jw l) (jw r) (by
  intro hm;obtain⟨j,hj,e⟩:=aO.1 hm;exact hN j hj hj e)
 have hlast:(D++[(bE l,bE r)])[D.length]?=some (bE l,bE r):=by simp
 have hb0:=l5 hB.good.wf (l++r) (λx hx=>by rcases aK.1 hx with h|h;exact hl x h;exact hr x h);have hbn:fJ (D++[(bE l,bE r)]) (l++r)=fJ D (l++r):=by
  have key:∀(k:List Nat) (m:Int),(∀x,x∈k->x<D.length)->k.foldl (λm x=>max m ((bz.born (vl (D++[(bE l,bE r)]) x):Int)+1)) m=k.foldl (λm x=>max m ((bz.born (vl D x):Int)+1)) m:=by
   intro k
   induction k with
   |nil=>intro m _;rfl
   |cons x k ih=>
    intro m hx;simp only[List.foldl_cons];rw[bz.ib hB.good.wf hg.wf x (hx x (by simp))];exact ih _ (λy hy=>hx y (by simp[hy]))
  exact key _ _ (λx hx=>by rcases aK.1 hx with h|h;exact hl x h;exact hr x h)
 have XJ:(w2.setCell ⟨pb,1,none⟩ pF).ownsRow 0 89 2 pV (D.length+1) (xs++[L,R]):=by
  have h1:=(ownsRow_setCell_other ho1 (a:=⟨pb,0,none⟩) a1 pV).alloc (.cells #[.int .i64 (fJ D (l++r))] 3);have h2:=World.ownsRow.kept h1 hg2 (by
   cases h:pV.ownBlock with
   |none=>exact .inl rfl
   |some b=>exact .inr (λe=>a3 b h e.symm))
  exact ownsRow_setCell_other h2 (a:=⟨pb,1,none⟩) a1 pF
 refine⟨pV,pF,D++[(bE l,bE r)],D.length,rfl,?_,?_,?_,?_,hlast,.inr rfl⟩
 rotate_right
 .rintro b ⟨i,g,cap,v,hi,he,hc,hv⟩
  have hle:(D++[(bE l,bE r)]).length=D.length+1:=by simp
  rw[hle]at hi he;subst he;have hxl:=hown.1;have hc':(xs++[L,R])[i*2]?=some v\/(xs++[L,R])[i*2+1]?=some v:=by
   rcases hc with hc|hc
   .exact .inl ((XJ.cellAt (i*2) (by omega)).symm.trans hc)
   .exact .inr ((XJ.cellAt (i*2+1) (by omega)).symm.trans hc)
  by_cases hlt:i<D.length
  .obtain⟨gn,Uq,he,_,_,hcn⟩:=iB hown (by omega)
   have hgn:gn<w.heap.size:=(hvn gn (by rw[he];rfl)).2;refine .inl ⟨i,gn,Uq,v,hlt,he,?_,hv⟩;rcases hc' with hc|hc
   .rw[dN (by omega)]at hc
    exact .inl (by rw[<-hE.cell (p:=⟨gn,i*2,none⟩) hgn,hcn _ (by omega)];exact hc)
   .rw[dN (by omega)]at hc
    exact .inr (by rw[<-hE.cell (p:=⟨gn,i*2+1,none⟩) hgn,hcn _ (by omega)];exact hc)
  .have hi':i=D.length:=by omega
   subst hi';rcases hc' with hc|hc
   .rw[dV (by omega),show D.length*2-xs.length=0 by omega]at hc
    simp at hc;subst hc;exact .inr (fL b hv).1
   .rw[dV (by omega),show D.length*2+1-xs.length=1 by omega]at hc
    simp at hc;subst hc;exact .inr (fR b hv).1
 .refine⟨hg,by simp;omega,⟨t,hp4⟩,?_,⟨xs++[L,R],?_,?_⟩,a1,a2,a4⟩
  .have e:((D++[(bE l,bE r)]).mapIdx λi _=>(bz.born (vl (D++[(bE l,bE r)]) i):Int))=(D.mapIdx λi _=>(bz.born (vl D i):Int))++[fJ D (l++r)]:=by
    rw[List.mapIdx_append];congr 1
    .refine ui (by simp) λi h1 h2=>?_
     simp only[List.getElem_mapIdx];rw[bz.ib hB.good.wf hg.wf i (by simpa using h2)]
    .simp only[List.mapIdx_cons,List.mapIdx_nil,gK]
     rw[qJ hg.wf hlast (l:=l) (r:=r) (λ_=>bZ) (λ_=>bZ) (by rw[hbn];exact hb0.1),hbn]
   rw[e,aU];have:=ownsRow_setCell_other ho2 (a:=⟨pb,1,none⟩) a2 pF
   simpa using this
  .have h1:=(ownsRow_setCell_other ho1 (a:=⟨pb,0,none⟩) a1 pV).alloc (.cells #[.int .i64 (fJ D (l++r))] 3)
   have h2:=World.ownsRow.kept h1 hg2 (by
    cases h:pV.ownBlock with
    |none=>exact .inl rfl
    |some b=>exact .inr (λe=>a3 b h e.symm))
   have:=ownsRow_setCell_other h2 (a:=⟨pb,1,none⟩) a1 pF
   simpa using this
  .have hxl:=hown.1
   intro i hi;by_cases hlt:i<D.length
   .obtain⟨L',R',e1,e2,e3,e4,e5,e6⟩:=hnd i hlt
    refine⟨L',R',bz.getElem?_append_some e1,bz.getElem?_append_some e2,?_,?_,?_,?_⟩
    .rw[dM hlt];exact hst e3 (λb hb=>(e5 b hb).1)
    .rw[dM hlt];exact hst e4 (λb hb=>(e6 b hb).1)
    .intro b hb;exact⟨λh=>(e5 b hb).1 (hS b (e5 b hb).2 h),by rw[World.size_setCell];have:=(e5 b hb).2;omega⟩
    .intro b hb;exact⟨λh=>(e6 b hb).1 (hS b (e6 b hb).2 h),by rw[World.size_setCell];have:=(e6 b hb).2;omega⟩
   .have hi':i=D.length:=by simp at hi;omega
    subst hi';refine⟨L,R,?_,?_,?_,?_,?_,?_⟩
    .rw[dV (by omega),show 2*D.length-xs.length=0 by omega];rfl
    .rw[dV (by omega),show 2*D.length+1-xs.length=1 by omega];rfl
    .simp only[List.getElem_concat_length];exact hst hL (λb hb h=>by have:=hold b h;have:=fL b hb;omega)
    .simp only[List.getElem_concat_length];exact hst hR (λb hb h=>by have:=hold b h;have:=fR b hb;omega)
    .intro b hb;exact⟨λh=>by have:=hold b (hS b (fL b hb).2 h);have:=fL b hb;omega,by rw[World.size_setCell];have:=(fL b hb).2;omega⟩
    .intro b hb;exact⟨λh=>by have:=hold b (hS b (fR b hb).2 h);have:=fR b hb;omega,by rw[World.size_setCell];have:=(fR b hb).2;omega⟩
 .refine⟨?_,?_,?_,by rw[World.size_setCell];omega,λk hk hf=>?_⟩
  .exact(hg2.os.trans hg1.os).trans hE.os
  .exact(hg2.tape.trans hg1.tape).trans hE.tape
  .exact(hg2.output.trans hg1.output).trans hE.output
  .rw[hblk k (by omega) (λe=>hf (.inl e)) (λe=>hf (.inr (.inl e))) (λe=>hf (.inr (.inr e)))]
   exact hE.block k hk
 .intro b h
  rcases kR.Na L1 L2 (by omega) h with h|h
  .exact .inl h
  .exact .inr (by omega)
theorem Cr{nd:Nd}(hk:k<D.length)(h:Hid (∀j (h:j<D.length),j<k->D[j]≠nd))(hne:D[k]≠nd):Hid (∀j (h:j<D.length),j<k+1->D[j]≠nd):=by
 intro j hj hjk;by_cases e:j=k
 .subst e;exact hne
 .exact h j hj (by omega)
theorem OH(hD:bz.WF D)(hk:k<D.length)(he:D[k]=(bE l,bE r))(hl:∀x,x∈l->x<D.length)(hr:∀x,x∈r->x<D.length):(bz.born (vl D k):Int)=fJ D (l++r):=
 qJ hD (l':=bE l) (r':=bE r) (by rw[<-he];exact aa hk) (λ_=>bZ) (λ_=>bZ)
  (l5 hD _ (λx hx=>by rcases aK.1 hx with h|h;exact hl x h;exact hr x h)).1
set_option maxHeartbeats 2000000 in
theorem vK(pb:Nat)(vn vb:Value)(D:dC)(v u:Value)(l r:List Nat)(w:World)(hB:eD w pb vn vb D)(hv:Ints w v (dx l))(hu:Ints w u (dx r))
 (hl:∀x,x∈l->x<D.length) (hr:∀x,x∈r->x<D.length) (hls:l.length<=1000000) (hrs:r.length<=1000000) (hroom:D.length+1<=1000000):
 Calls prog 134 #[.pointer (some ⟨pb,0,none⟩),v,u] w (GN pb vn vb D l r w):=by
 obtain⟨a,cap,rfl,hlc,hcap,hc⟩:=hv;obtain⟨a',cap',rfl,V8,NH,hc'⟩:=hu;rw[bu]at hlc hcap hc V8 NH hc';rw[bu,bu];go_enter Tryz.func134,Tryz.ntmps134
 go_wp2
 go_loopw [7,9,10] (λo bn i wr=>∃k:Nat,k<=l.length/\i=.int .i64 k/\bn=.int .i64 (fJ D (l.take k))/\Ints wr o (jD (dx (l.take k)))/\Ext w wr/\Hid (∀b,o.ownBlock=some b->w.heap.size<=b/\b<wr.heap.size)/\w.heap.size+2<=wr.heap.size) (λ_ _ i _=>l.length-(intOf i).toNat)
 case atStart=>exact⟨0,az _,rfl,rfl,Ints.nil _ _ _,by go_grown,λb hb=>by simp[Value.ownBlock]at hb;subst hb;exact⟨ai _,by simp;try omega⟩,by simp⟩
 case round=>
  obtain⟨k,hk,rfl,rfl,hI,jE,HF,HS0⟩:=hrel;by_cases hlt:k<l.length
  .obtain⟨b,off,rfl,hcell⟩:=hc (by omega)
   have hck:=hcell k hlt;have nz:=(jE.cell (lt_of_cell hck)).trans hck;have hxk:=hl (l[k]) (ah hlt);rw[fT hlt]at nz;obtain⟨gb,adl,rfl,hbl,hbc,uR⟩:=hB.Zaa hxk;have Ma:=(jE.cell (lt_of_cell uR)).trans uR;have hp1:=(jE.cell (lt_of_cell hB.cell1)).trans hB.cell1;have hlen:(jD (dx (l.take k))).length<=1000000000:=by
    have:=q9 (dx (l.take k));rw[bu]at this;have:=List.length_take_le k l;omega
   clear hcell hc hck uR;go_wp2_with (go_at_call 180;refine(rF _ _ _ _ hI hlen).mono ?_;rintro e w1 ⟨v1,rfl,hI1,hx1,hn1⟩)
   have c1:=(hx1.cell (lt_of_cell nz)).trans nz;have c2:=(hx1.cell (lt_of_cell Ma)).trans Ma;have c3:=(hx1.cell (lt_of_cell hp1)).trans hp1;have hbn:=l5 hB.good.wf (l.take k) (O5 hl);have hbx:=bz.nH hB.good.wf l[k];have hds:=hB.small;have HS:=aH (Ew hlt);have HN:=aH (uZ D hlt);have HX:=aH (rA HF.out jE.size hx1.size hn1);have hE1:=ay jE hx1;have hsz1:=hx1.size;clear nz Ma hp1 HF hn1 hx1 jE hI;go_wp2
   go_quiet ((go_at_call 158;first|exact Calls.quiet_of (jL _ _ _)|exact pX (jL _ _ _)))
   go_wp2
   go_roundw
   case rel=>exact⟨k+1,by omega,by go_num,by rw[HN.out],by rw[HS.out];exact lQ hI1 _,fZ hE1 _,HX.out,by have:=hsz1;simp;omega⟩
   case measure=>simp[intOf];omega
  .have hkl:k=l.length:=by omega
   subst hkl;rw[dz]at hI ⊢;obtain⟨wo,rfl⟩:∃wo:World,wo=wr:=⟨_,rfl⟩;have hpo:=jE.size;go_wp2
   go_loopw [8,9,11] (λo bn i wr=>∃k:Nat,k<=r.length/\i=.int .i64 k/\bn=.int .i64 (fJ D (l++r.take k))/\Ints wr o (jD (dx (r.take k)))/\Ext wo wr/\Hid (∀b,o.ownBlock=some b->w.heap.size<=b/\b<wr.heap.size)) (λ_ _ i _=>r.length-(intOf i).toNat)
   case atStart=>exact⟨0,az _,rfl,by simp,Ints.nil _ _ _,Below.refl _ _,λb hb=>by simp[Value.ownBlock]at hb;subst hb;exact⟨by omega,by have:=HS0;omega⟩⟩
   case round=>
    obtain⟨k,hk,rfl,rfl,hI2,AX,HF2⟩:=hrel;by_cases hlt:k<r.length
    .obtain⟨b,off,rfl,hcell⟩:=hc' (by omega)
     have hck:=hcell k hlt;have hE2:=ay jE AX;have nz:=(hE2.cell (lt_of_cell hck)).trans hck;have hxk:=hr (r[k]) (ah hlt);rw[fT hlt]at nz;obtain⟨gb,adl,rfl,hbl,hbc,uR⟩:=hB.Zaa hxk;have Ma:=(hE2.cell (lt_of_cell uR)).trans uR;have hp1:=(hE2.cell (lt_of_cell hB.cell1)).trans hB.cell1;have hlen:(jD (dx (r.take k))).length<=1000000000:=by
      have:=q9 (dx (r.take k));rw[bu]at this;have:=List.length_take_le k r;omega
     clear hcell hc' hck uR;go_wp2_with (go_at_call 180;refine(rF _ _ _ _ hI2 hlen).mono ?_;rintro e w1 ⟨v1,rfl,hI1,hx1,hn1⟩)
     have c1:=(hx1.cell (lt_of_cell nz)).trans nz;have c2:=(hx1.cell (lt_of_cell Ma)).trans Ma;have c3:=(hx1.cell (lt_of_cell hp1)).trans hp1;have hbn:=l5 hB.good.wf (l++r.take k) (by intro x hx;rcases aK.1 hx with h|h;exact hl x h;exact hr x (gU h));have hbx:=bz.nH hB.good.wf r[k];have hds:=hB.small;have HS:=aH (Ew hlt);have HN:=aH (tK D l hlt);have HX:=aH (rA HF2.out (by have:=hE2.size;omega) hx1.size hn1);have hE1:=ay AX hx1;clear nz Ma hp1 HF2 hn1 hx1 AX hI2 hE2;go_wp2
     go_quiet ((go_at_call 158;first|exact Calls.quiet_of (jL _ _ _)|exact pX (jL _ _ _)))
     go_wp2
     go_roundw
     case rel=>exact⟨k+1,by omega,by go_num,by rw[HN.out],by rw[HS.out];exact lQ hI1 _,fZ hE1 _,HX.out⟩
     case measure=>simp[intOf];omega
    .have hkr:k=r.length:=by omega
     subst hkr;rw[dz]at hI2 ⊢;have hE:=ay jE AX;have hB2:=hB.ext hE;have hI1:=hI.ext AX;obtain⟨wp,rfl⟩:∃wp:World,wp=wr:=⟨_,rfl⟩;go_wp2
     go_loopw [12] (λi wr=>∃k:Nat,k<=D.length/\i=.int .i64 k/\RD wp wr/\Hid (∀j (h:j<D.length),j<k->D[j]≠(bE l,bE r))) (λi _=>D.length-(intOf i).toNat)
     case atStart=>exact⟨0,az _,rfl,su _,λj _ h=>absurd h (by omega)⟩
     case round=>
      obtain⟨k,hk,rfl,⟨n,rfl⟩,HN⟩:=hrel;have hp0:=hB2.cell0;have hp1:=hB2.cell1;have hds:=hB.small;by_cases hlt:k<D.length
      .obtain⟨gb,adl,rfl,hbl,hbc,uR⟩:=hB2.Zaa hlt
       obtain⟨gn,Uq,L,R,rfl,hnl,hnc,hL,hR,uo,um⟩:=hB2.rz hlt;by_cases e1:(bz.born (vl D k):Int)=fJ D (l++r)
       .have hb1:((bz.born (vl D k):Int)== fJ D (l++r))=true:=by simp[e1]
        clear e1 hc hc' hI jE AX;cases hs1:tX (dx (D[k]).1) (jD (dx l))with
        |false=>
         have ou:=aH hs1;go_wp2_with (first|(go_at_call 181;refine(qi _ _ _ _ _ (by with_reducible first|exact lQ uo _|exact lQ um _) (by with_reducible first|exact lQ hI1 _|exact lQ hI2 _)).mono ?_;rintro e w1 ⟨he,n1,rfl⟩;rw[hs1]at he;subst he))
         go_roundw
         case rel=>exact⟨k+1,by omega,by go_num,⟨_,rfl⟩,Cr hlt HN (λhe=>by have h:=ou.out;rw[he,<-kI]at h;simp[tX]at h)⟩
         case measure=>simp[intOf];omega
        |true=>
         cases hs2:tX (dx (D[k]).2) (jD (dx r))with
         |false=>
          have HS2:=aH hs2;go_wp2_with (first|(go_at_call 181;refine(qi _ _ _ _ _ (by with_reducible first|exact lQ uo _|exact lQ um _) (by with_reducible first|exact lQ hI1 _|exact lQ hI2 _)).mono ?_;rintro e w1 ⟨he,n1,rfl⟩;(first|rw[hs1]at he|rw[hs2]at he);subst he))
          go_roundw
          case rel=>exact⟨k+1,by omega,by go_num,⟨_,rfl⟩,Cr hlt HN (λhe=>by have h:=HS2.out;rw[he,<-kI]at h;simp[tX]at h)⟩
          case measure=>simp[intOf];omega
         |true=>
          have ou:=aH hs1;have HS2:=aH hs2;go_wp2_with (first|(go_at_call 181;refine(qi _ _ _ _ _ (by with_reducible first|exact lQ uo _|exact lQ um _) (by with_reducible first|exact lQ hI1 _|exact lQ hI2 _)).mono ?_;rintro e w1 ⟨he,n1,rfl⟩;(first|rw[hs1]at he|rw[hs2]at he);subst he))
          go_ret
          have e1:(D[k]).1=bE l:=(by have h:=ou.out;rw[kI]at h;exact MS (of_decide_eq_true h));have e2:(D[k]).2=bE r:=(by have h:=HS2.out;rw[kI]at h;exact MS (of_decide_eq_true h));exact⟨_,_,D,k,rfl,hB2.ext (bS ⟨_,rfl⟩),fV (fZ hE _),λb h=>.inl h,λb h=>.inl (gy.back hB (fZ hE _) h),by rw[aa hlt,<-e1,<-e2],.inl rfl⟩
       .have hb1:((bz.born (vl D k):Int)== fJ D (l++r))=false:=by simp[e1]
        have E1:=aH e1;clear e1;go_wp2
        go_roundw
        case rel=>exact⟨k+1,by omega,by go_num,⟨_,rfl⟩,Cr hlt HN (λhe=>E1.out (OH hB.good.wf hlt he hl hr))⟩
        case measure=>simp[intOf];omega
      .have hkd:k=D.length:=by omega
       subst hkd;obtain⟨xs,hown,SG⟩:=hB2.nodes;obtain⟨an,cn,rfl,hn1,hn2⟩:=bD hown;obtain⟨ab,cb,rfl,hb1,hb2⟩:=bD hB2.born;have Mh:=aH hI1;have hwo:=AX.size;have agB:=aH hI2;have hB':=aH hB;have hB2':=aH hB2;have V5:=aH SG;obtain⟨al,cl,rfl,hl1,hl2,hl3⟩:=hI1;obtain⟨ar,cr,rfl,hr1,hr2,hr3⟩:=hI2;have hfr:=hB2.free;have hlt:=hB2.lt;have ha1:=hB2.kX;obtain⟨iN,hiN,zN0,zN1,zN2⟩:=info_parts zV;obtain⟨i0,hi,hz0,hz1,hz2⟩:=info_parts iy;clear hc hc' hI jE AX hl3 hr3 hB hB2 SG;have hown0:=(own_drewN hown n).alloc (.cells #[.slice al (jD (dx l)).length cl,.slice ar (jD (dx r)).length cr] 89);have hbk:=hB2'.out.born;have HB:=aH (show(wp.drewN n).ownsRow 0 3 1 (.slice ab D.length cb) D.length _ from hbk);have HO:=aH hown0;have HP0:=aH (bI (w:=wp.drewN n) hp0);have HP1:=aH (bI (w:=wp.drewN n) hp1);have Qu:=aH (λo X=>(tT (w:=wp.drewN n) (a:=⟨pb,o,none⟩) X hlt).trans (hfr o));have ha2:=hB2'.out.mQ;have ha3:=hB2'.out.mP;have hown':=hown;clear hown0 hbk hfr
       go_wp2_with (first
        |(at_builtin;refine bQ rfl (.tmp 112) (.tmp 116) 26 rfl 0 89 iN (.agg #[.slice none 0 0,.slice none 0 0]) 2 48 underlying26 hiN zN0 zN1 zN2 rfl (by decide) (.slice an D.length cn) D.length xs rfl HO.out (some ⟨wp.heap.size,0,none⟩) 1 _ [.slice al (jD (dx l)).length cl,.slice ar (jD (dx r)).length cr] rfl rfl (.inr ⟨_,rfl,FD (w:=wp.drewN n)⟩) uw (by unfold maxLen;omega) (by omega) (az _) ?_
          intro v1 w1 ho1 hg1 hl1;obtain⟨q1,q2,q3,q4,q5,q6⟩:=Rq hB2'.out hg1;obtain⟨a1,c1,rfl,g1,g2⟩:=bD ho1)
        |(at_builtin;refine bQ rfl (.tmp 124) (.tmp 126) 80 rfl 0 3 i0 (.int .i64 0) 1 8 underlying80 hi hz0 hz1 hz2 rfl (by decide) (.slice ab D.length cb) D.length ((D.mapIdx λi _=>(bz.born (vl D i):Int)).map (Value.int .i64)) rfl ((ownsRow_setCell_other q6 ha2 _).alloc _) _ 1 _ [.int .i64 (fJ D (l++r))] rfl rfl (.inr ⟨_,rfl,cK (sQ _ _ _ _ _)⟩) one_cell (by unfold maxLen;omega) (by omega) (az _) ?_
          intro v2 w2 ho2 hg2 hl2;obtain⟨r1,r2,r3⟩:=Rp q2 q4 q1 ha2 hg2;obtain⟨a2,c2,rfl,g3,g4⟩:=bD ho2))
       go_ret
       exact VC hB'.out hE hown' V5.out hg1 ho1 hl1 hg2 ho2 hl2 (by rw[<-kI];exact Mh.out) (by rw[<-kI];exact agB.out) (λb hb=>⟨(HF.out b hb).1,aQ (HF.out b hb).2 hwo⟩) HF2.out hl hr HN.out hroom
end Go.Proofs.YteknjeohbcgpdaaGreatDoor