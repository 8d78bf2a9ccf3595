/- 6 -/
import Derived.Test.YtplgooajigigkaaGreatDoorK5
import Derived.Deep.AppendLies
set_option maxRecDepth 100000
set_option maxHeartbeats 4000000
namespace Go.Proofs.YtplgooajigigkaaGreatDoor
open Tryz
open Go.RowKit
open bE (dh Nd vl)
variable {w wp w1 w2:World} {pb i b k n:Nat} {vn vb x v L R rY qE:Value} {D:dh} {l r:List Nat} {e:TypeId} {a:Addr}
def jN(D:dh)(l r:List Nat)(D':dh)(i:Nat):Prop:=
 D'[i]?=some (bO l,bO r)/\(D'=D\/D'=D++[(bO l,bO r)])
def iO(w:World)(vn:Value)(n:Nat)(b:Nat):Prop:=∃i g cap v,i<n/\vn=.slice (some ⟨g,0,none⟩) n cap/\(w.cell? ⟨g,i*2,none⟩=some v\/w.cell? ⟨g,i*2+1,none⟩=some v)/\v.ownBlock=some b
def J4(pb:Nat)(vn vb:Value)(D:dh)(l r:List Nat)(w:World)(e:Ending)(w':World):Prop:=
 ∃uL wB D' i,e=.returned (.int .i64 ((i:Nat):Int))/\fB w' pb uL wB D'/\fJ (xE pb vn vb) w w'/\(∀b,xE pb uL wB b->xE pb vn vb b\/w.heap.size<=b)/\(∀b,iO w' uL D'.length b->iO w vn D.length b\/w.heap.size<=b)/\jN D l r D' i
def ig(D:dh)(l:List Nat):Int:=l.foldl (λm x=>max m ((bE.born (vl D x):Int)+1)) 0
theorem fB.yE(h:fB w pb vn vb D){x:Nat}(hx:x<D.length):
 ∃g cap,vb=.slice (some ⟨g,0,none⟩) D.length cap/\D.length<=cap/\cap<=maxLen/\w.cell? ⟨g,x,none⟩=some (.int .i64 (bE.born (vl D x))):=by
 obtain⟨g,cap,h1,h2,h3,h4⟩:=iy h.born (by omega);refine⟨g,cap,h1,h2,h3,?_⟩;rw[h4 x (by omega)];simp[hx]
theorem fB.ve(h:fB w pb vn vb D)(hi:i<D.length):
 ∃g cap L R,vn=.slice (some ⟨g,0,none⟩) D.length cap/\D.length<=cap/\cap<=maxLen/\w.cell? ⟨g,i*2,none⟩=some L/\w.cell? ⟨g,i*2+1,none⟩=some R/\Ints w L (dB (D[i]).1)/\Ints w R (dB (D[i]).2):=by
 obtain⟨xs,ho,hn⟩:=h.nodes;obtain⟨g,cap,h1,h2,h3,h4⟩:=iy ho (by omega);obtain⟨L,R,e1,e2,e3,e4,_⟩:=hn i hi;exact⟨g,cap,L,R,h1,h2,h3,by rw[h4 _ (by omega),iY];exact e1,by rw[h4 _ (by omega),iY];exact e2,e3,e4⟩
theorem fB.Ll(h:fB w pb vn vb D)(hi:i<D.length):
 ∃g cap L R,vn=.slice (some ⟨g,0,none⟩) D.length cap/\D.length<=cap/\cap<=maxLen/\w.cell? ⟨g,i*2,none⟩=some L/\w.cell? ⟨g,i*2+1,none⟩=some R/\Ints w L (dB (D[i]).1)/\Ints w R (dB (D[i]).2)/\
  (∀b,L.ownBlock=some b->¬xE pb vn vb b/\b<w.heap.size)/\(∀b,R.ownBlock=some b->¬xE pb vn vb b/\b<w.heap.size):=by
 obtain⟨xs,ho,hn⟩:=h.nodes;obtain⟨g,cap,h1,h2,h3,h4⟩:=iy ho (by omega);obtain⟨L,R,e1,e2,e3,e4,e5,e6⟩:=hn i hi;exact⟨g,cap,L,R,h1,h2,h3,by rw[h4 _ (by omega),iY];exact e1,by rw[h4 _ (by omega),iY];exact e2,e3,e4,e5,e6⟩
theorem iO.back{w':World}(hB:fB w pb vn vb D)(hx:Ext w w')(h:iO w' vn D.length b):iO w vn D.length b:=by
 obtain⟨i,g,cap,v,hi,he,hc,hv⟩:=h;obtain⟨g',cap',L,R,he',_,_,c1,c2,_⟩:=hB.ve hi;rw[he]at he';simp only[il,bU,Addr.mk.injEq,and_true,true_and]at he';obtain⟨rfl,rfl⟩:=he';refine⟨i,g,cap,v,hi,he,?_,hv⟩;rcases hc with hc|hc
 .exact .inl (by rw[<-hx.cell (lt_of_cell c1)];exact hc)
 .exact .inr (by rw[<-hx.cell (lt_of_cell c2)];exact hc)
theorem yD(D:dh)(h:k<l.length):ig D (l.take (k+1))=max (ig D (l.take k)) ((bE.born (vl D l[k]):Int)+1):=by
 rw[bJ h,ig,List.foldl_append];rfl
theorem xq(D:dh)(l:List Nat)(h:k<r.length):ig D (l++r.take (k+1))=max (ig D (l++r.take k)) ((bE.born (vl D r[k]):Int)+1):=by
 rw[bJ h,<-dY,ig,List.foldl_append];rfl
theorem nu(hD:bE.WF D)(l:List Nat)(hl:∀x,x∈l->x<D.length):0<=ig D l/\ig D l<=D.length:=by
 have main:∀(l:List Nat) (m:Int),0<=m->m<=D.length->(∀x,x∈l->x<D.length)->0<=l.foldl (λm x=>max m ((bE.born (vl D x):Int)+1)) m/\l.foldl (λm x=>max m ((bE.born (vl D x):Int)+1)) m<=D.length:=by
  intro l
  induction l with
  |nil=>intro m h1 h2 _;exact⟨h1,h2⟩
  |cons x l ih=>
   intro m h1 h2 hx;have h3:=bE.oC hD x;have h4:=hx x (by simp);exact ih _ (by show 0<=max _ _;omega) (by show max _ _<=_;omega) (λy hy=>hx y (by simp[hy]))
 exact main l 0 (by omega) (by omega) hl
theorem Sy(hl:∀x,x∈l->x<D.length):∀x,x∈l.take k->x<D.length:=λx hx=>hl x (jD hx)
theorem Hm(h:k<l.length):kL (dB (l.take (k+1)))=um (kL (dB (l.take k))) (l[k]:Int):=by
 rw[bJ h,dB,dw];exact zV _ _
theorem vG:(prog.info? 91).map (λi=>(i.zero,i.size,i.bytes))=some (some (.agg #[.slice none 0 0,.slice none 0 0]),2,48):=by kernel_rfl
theorem DU{y:Value}:∀j u,([x,y]:List Value)[j]?=some u->(w.alloc (.cells #[x,y] e)).cell? ((⟨w.heap.size,0,none⟩:Addr).add j)=some u:=by
 intro j u h
 match j with
 | 0=>simp at h;subst h;exact(World.cell?_alloc_at (w:=w) #[x,y] e _ 0 rfl)
 | 1=>simp at h;subst h;exact(World.cell?_alloc_at (w:=w) #[x,y] e _ 1 rfl)
 |n+2=>simp at h
theorem aI(h:w.cell? a=some v)(o:Obj):(w.alloc o).cell? a=some v:=(World.cell?_alloc_lt w o a (lt_of_cell h)).trans h
theorem xz(o:Obj)(h:a.block<w.heap.size):(w.alloc o).frozen? a=w.frozen? a:=World.frozen?_alloc_old w o a (by omega)
theorem xO{a b:Option Addr}{m c d:Nat}:∀u∈([Value.slice a n c,Value.slice b m d]:List Value),u.oneCell'=true:=by
 intro u h;simp at h;rcases h with rfl|rfl <;> rfl
theorem jL{l:List Int}(h:Ints w v l)(n:Nat):Ints (w.drewN n) v l:=h.ext (dQ ⟨n,rfl⟩)
theorem VE(hB:fB wp pb vn vb D)(hg:((wp.drewN n).alloc (.cells #[L,R] 91)).grownBy w1 vn.ownBlock):
 w1.cell? ⟨pb,0,none⟩=some vn/\w1.cell? ⟨pb,1,none⟩=some vb/\w1.frozen? ⟨pb,0,none⟩=false/\w1.frozen? ⟨pb,1,none⟩=false/\pb<w1.heap.size/\
  w1.ownsRow 0 3 1 vb D.length ((D.mapIdx λi _=>(bE.born (vl D i):Int)).map (Value.int .i64)):=by
 have hlt:pb<(wp.drewN n).heap.size:=hB.lt;have hl1:pb<((wp.drewN n).alloc (.cells #[L,R] 91)).heap.size:=by rw[fU];omega
 refine⟨hg.cell (aI (w:=wp.drewN n) hB.cell0 _) hB.xy.symm,hg.cell (aI (w:=wp.drewN n) hB.cell1 _) hB.xy.symm,?_,?_,bg hl1 hg.size,?_⟩
 .exact(hg.frozen_far ⟨pb,0,none⟩ hl1 hB.xy.symm).trans ((xz (w:=wp.drewN n) _ hlt).trans (hB.free 0))
 .exact(hg.frozen_far ⟨pb,1,none⟩ hl1 hB.xy.symm).trans ((xz (w:=wp.drewN n) _ hlt).trans (hB.free 1))
 .refine World.ownsRow.kept ((own_drewN hB.born n).alloc _) hg ?_
  cases h:vb.ownBlock with
  |none=>exact .inl rfl
  |some b=>exact .inr (λe=>hB.FZ b e.symm h)
theorem wO(w:World)(a:Addr)(u v:Value)(e:TypeId):((w.setCell a u).alloc (.cells #[v] e)).cell? ⟨w.heap.size,0,none⟩=some v:=by
 have:=dW (w.setCell a u) v e;rw[World.size_setCell]at this;exact this
theorem VD(q2:w1.cell? ⟨pb,1,none⟩=some vb)(q4:w1.frozen? ⟨pb,1,none⟩=false){u:Value}(q1:w1.cell? ⟨pb,0,none⟩=some u)(ha:vb.ownBlock≠some pb)(hg:((w1.setCell ⟨pb,0,none⟩ rY).alloc (.cells #[x] e)).grownBy w2 vb.ownBlock):
 w2.cell? ⟨pb,0,none⟩=some rY/\w2.cell? ⟨pb,1,none⟩=some vb/\w2.frozen? ⟨pb,1,none⟩=false:=by
 have c0:(w1.setCell ⟨pb,0,none⟩ rY).cell? ⟨pb,0,none⟩=some rY:=World.cell?_setCell_same _ _ _ q1;have c1:(w1.setCell ⟨pb,0,none⟩ rY).cell? ⟨pb,1,none⟩=some vb:=(World.cell?_setCell_other _ _ _ _ (by simp)).trans q2;refine⟨hg.cell (aI c0 _) ha.symm,hg.cell (aI c1 _) ha.symm,?_⟩;have hl:pb<(w1.setCell ⟨pb,0,none⟩ rY).heap.size:=lt_of_cell c0;exact(hg.frozen_far ⟨pb,1,none⟩ (by rw[fU];exact Nat.lt_succ_of_lt hl) ha.symm).trans ((xz _ hl).trans (by rw[World.frozen?_setCell];exact q4))
theorem xE.QE{N M:Nat}(h1:rY.ownBlock=vn.ownBlock\/∃g,rY.ownBlock=some g/\N<=g)(h2:qE.ownBlock=vb.ownBlock\/∃g,qE.ownBlock=some g/\M<=g)(hMN:N<=M)(h:xE pb rY qE b):xE pb vn vb b\/N<=b:=by
 rcases h with h|h|h
 .exact .inl (.inl h)
 .rcases h1 with h1|⟨g,h1,h3⟩
  .exact .inl (.inr (.inl (h1 ▸ h)))
  .rw[h1]at h;injection h with h;exact .inr (by omega)
 .rcases h2 with h2|⟨g,h2,h3⟩
  .exact .inl (.inr (.inr (h2 ▸ h)))
  .rw[h2]at h;injection h with h;exact .inr (by omega)
theorem TU(D:dh)(l:List Nat)(n:Nat):ig D l<=n↔∀x,x∈l->bE.born (vl D x)<n:=by
 have main:∀(l:List Nat) (m:Int),l.foldl (λm x=>max m ((bE.born (vl D x):Int)+1)) m<=n↔m<=n/\∀x,x∈l->bE.born (vl D x)<n:=by
  intro l
  induction l with
  |nil=>intro m;simp
  |cons x l ih=>
   intro m;simp only[List.foldl_cons,ih,jk];constructor
   .rintro⟨h1,h2⟩
    exact⟨by omega,λy hy=>by rcases hy with rfl|hy;omega;exact h2 y hy⟩
   .rintro⟨h1,h2⟩
    have:=h2 x (.inl rfl);exact⟨by omega,λy hy=>h2 y (.inr hy)⟩
 have:=main l 0;unfold ig;rw[this];simp
theorem uK(h:bE.WF D){l' r':List Nat}(hd:D[k]?=some (l',r'))(hl:∀x,x∈l'↔x∈l)(hr:∀x,x∈r'↔x∈r)(h0:0<=ig D (l++r)):
 (bE.born (vl D k):Int)=ig D (l++r):=by
 have e:∀n:Nat,bE.born (vl D k)<=n↔ig D (l++r)<=n:=by
  intro n;rw[bE.uJ,TU,bE.lI h hd,bE.lH h hd];simp only[List.forall_mem_map,hl,hr,bq];constructor
  .rintro⟨a,b⟩ x (hx|hx)
   .exact a x hx
   .exact b x hx
  .intro a;exact⟨λx hx=>a x (.inl hx),λx hx=>a x (.inr hx)⟩
 have h1:=(e (bE.born (vl D k))).1 (aJ _);have h2:=(e (ig D (l++r)).toNat).2 (by omega);omega
theorem ZX{xs:List Value}(hBw:fB w pb vn vb D)(hE:Ext w wp)(hown:wp.ownsRow 0 91 2 vn D.length xs)
 (hnd:∀i (h:i<D.length),∃L R,xs[2*i]?=some L/\xs[2*i+1]?=some R/\Ints wp L (dB (D[i]).1)/\Ints wp R (dB (D[i]).2)/\(∀b,L.ownBlock=some b->¬xE pb vn vb b/\b<wp.heap.size)/\(∀b,R.ownBlock=some b->¬xE pb vn vb b/\b<wp.heap.size))
 (hg1:((wp.drewN n).alloc (.cells #[L,R] 91)).grownBy w1 vn.ownBlock) (ho1:w1.ownsRow 0 91 2 rY (D.length+1) (xs++[L,R])) (hl1:pX ((wp.drewN n).alloc (.cells #[L,R] 91)) vn rY)
 (hg2:((w1.setCell ⟨pb,0,none⟩ rY).alloc (.cells #[.int .i64 (ig D (l++r))] 3)).grownBy w2 vb.ownBlock) (ho2:w2.ownsRow 0 3 1 qE (D.length+1) ((D.mapIdx λi _=>(bE.born (vl D i):Int)).map (Value.int .i64)++[.int .i64 (ig D (l++r))]))
 (hl2:pX ((w1.setCell ⟨pb,0,none⟩ rY).alloc (.cells #[.int .i64 (ig D (l++r))] 3)) vb qE)
 (hL:Ints wp L (dB (bO l))) (hR:Ints wp R (dB (bO r))) (fL:∀b,L.ownBlock=some b->w.heap.size<=b/\b<wp.heap.size) (fR:∀b,R.ownBlock=some b->w.heap.size<=b/\b<wp.heap.size)
 (hl:∀x,x∈l->x<D.length) (hr:∀x,x∈r->x<D.length) (hN:∀j (h:j<D.length),j<D.length->D[j]≠(bO l,bO r)) (hsm:D.length+1<=1000000):
 J4 pb vn vb D l r w (.returned (.int .i64 ((D.length:Nat):Int))) (w2.setCell ⟨pb,1,none⟩ qE):=by
 have hB:=hBw.ext hE;have hpb:=hBw.lt;have hsz:=hE.size;have z1:=hg1.size;have z2:=hg2.size;rw[fU]at z1 z2;rw[World.size_setCell]at z2;have z0:(wp.drewN n).heap.size=wp.heap.size:=rfl;rw[z0]at z1;have hvb:=hBw.born.lt;obtain⟨xs0,agw,_⟩:=hBw.nodes;have hvn:=agw.lt;have hv1:=ho1.lt;have hv2:=ho2.lt;have L1:rY.ownBlock=vn.ownBlock\/∃g,rY.ownBlock=some g/\wp.heap.size+1<=g:=by
  rcases hl1 with h|⟨g,h,k⟩
  .exact .inl h
  .rw[fU,z0]at k;exact .inr ⟨g,h,k⟩
 have L2:qE.ownBlock=vb.ownBlock\/∃g,qE.ownBlock=some g/\w1.heap.size+1<=g:=by
  rcases hl2 with h|⟨g,h,k⟩
  .exact .inl h
  .rw[fU,World.size_setCell]at k;exact .inr ⟨g,h,k⟩
 have hblk:∀k,k<wp.heap.size->k≠pb->vn.ownBlock≠some k->vb.ownBlock≠some k->(w2.setCell ⟨pb,1,none⟩ qE).heap[k]?=wp.heap[k]?:=by
  intro k hk h1 h2 h3
  rw[tQ _ _ _ _ h1,hg2.block k (by rw[fU,World.size_setCell];omega) (Ne.symm h3),(World.grownBy_alloc _ _ none).block k (by rw[World.size_setCell];omega) (by simp),tQ _ _ _ _ h1,
   hg1.block k (by rw[fU,z0];omega) (Ne.symm h2),(World.grownBy_alloc _ _ none).block k (by rw[z0];omega) (by simp)]
  rfl
 obtain⟨t,ht⟩:=hB.cells;have hp1:w1.heap[pb]?=some (.cells #[vn,vb] t (0,0)):=by
  rw[hg1.block pb (by rw[fU,z0];omega) hB.xy.symm,(World.grownBy_alloc _ _ none).block pb (by rw[z0];omega) (by simp)];exact ht
 have hp2:(w1.setCell ⟨pb,0,none⟩ rY).heap[pb]?=some (.cells #[rY,vb] t (0,0)):=gK _ _ _ _ _ _ hp1;have hp3:w2.heap[pb]?=some (.cells #[rY,vb] t (0,0)):=by
  rw[hg2.block pb (by rw[fU,World.size_setCell];omega) hB.F3.symm,(World.grownBy_alloc _ _ none).block pb (by rw[World.size_setCell];omega) (by simp)];exact hp2
 have hp4:(w2.setCell ⟨pb,1,none⟩ qE).heap[pb]?=some (.cells #[rY,qE] t (0,0)):=gK _ _ _ _ _ _ hp3;have a1:rY.ownBlock≠some pb:=by
  rcases L1 with h|⟨g,h,k⟩
  .rw[h];exact hB.xy
  .rw[h];intro e;injection e with e;omega
 have a2:qE.ownBlock≠some pb:=by
  rcases L2 with h|⟨g,h,k⟩
  .rw[h];exact hB.F3
  .rw[h];intro e;injection e with e;omega
 have a3:∀b,rY.ownBlock=some b->vb.ownBlock≠some b:=by
  intro b hb;rcases L1 with h|⟨g,h,k⟩
  .exact hB.FZ b (h ▸ hb)
  .rw[h]at hb;injection hb with hb
   intro e;have:=hvb b e;omega
 have a4:∀b,rY.ownBlock=some b->qE.ownBlock≠some b:=by
  intro b hb;rcases L2 with h|⟨g,h,k⟩
  .rw[h];exact a3 b hb
  .rw[h];intro e;injection e with e
   have:=hv1 b hb;omega
 have hst:∀{v:Value} {k:List Int},Ints wp v k->(∀b,v.ownBlock=some b->¬xE pb vn vb b)->Ints (w2.setCell ⟨pb,1,none⟩ qE) v k:=by
  intro v k h hb;exact h.keep (λb hk e=>hblk b (h.blk hk e) (λe'=>hb b e (.inl e')) (λe'=>hb b e (.inr (.inl e'))) (λe'=>hb b e (.inr (.inr e'))))
 have hS:∀b,b<wp.heap.size->xE pb rY qE b->xE pb vn vb b:=by
  intro b hb h;rcases xE.QE L1 L2 (by omega) h with h|h
  .exact h
  .omega
 have hold:∀b,xE pb vn vb b->b<w.heap.size:=by
  rintro b (rfl|h|h)
  .exact hpb
  .exact(hvn b h).2
  .exact(hvb b h).2
 have hg:bE.Good (D++[(bO l,bO r)]):=hB.good.snoc (λk hk=>hl k (cz.1 hk)) (λk hk=>hr k (cz.1 hk)) (kC l) (kC r) (by
  intro hm;obtain⟨j,hj,e⟩:=aQ.1 hm;exact hN j hj hj e)
 have hlast:(D++[(bO l,bO r)])[D.length]?=some (bO l,bO r):=by simp
 have hb0:=nu hB.good.wf (l++r) (λx hx=>by rcases bq.1 hx with h|h;exact hl x h;exact hr x h);have hbn:ig (D++[(bO l,bO r)]) (l++r)=ig D (l++r):=by
  have key:∀(k:List Nat) (m:Int),(∀x,x∈k->x<D.length)->k.foldl (λm x=>max m ((bE.born (vl (D++[(bO l,bO r)]) x):Int)+1)) m=k.foldl (λm x=>max m ((bE.born (vl D x):Int)+1)) m:=by
   intro k
   induction k with
   |nil=>intro m _;rfl
   |cons x k ih=>
    intro m hx;simp only[List.foldl_cons];rw[bE.jJ hB.good.wf hg.wf x (hx x (by simp))];exact ih _ (λy hy=>hx y (by simp[hy]))
  exact key _ _ (λx hx=>by rcases bq.1 hx with h|h;exact hl x h;exact hr x h)
 have acf:(w2.setCell ⟨pb,1,none⟩ qE).ownsRow 0 91 2 rY (D.length+1) (xs++[L,R]):=by
  have h1:=(ownsRow_setCell_other ho1 (a:=⟨pb,0,none⟩) a1 rY).alloc (.cells #[.int .i64 (ig D (l++r))] 3);have h2:=World.ownsRow.kept h1 hg2 (by
   cases h:rY.ownBlock with
   |none=>exact .inl rfl
   |some b=>exact .inr (λe=>a3 b h e.symm))
  exact ownsRow_setCell_other h2 (a:=⟨pb,1,none⟩) a1 qE
 refine⟨rY,qE,D++[(bO l,bO r)],D.length,rfl,?_,?_,?_,?_,hlast,.inr rfl⟩
 rotate_right
 .rintro b ⟨i,g,cap,v,hi,he,hc,hv⟩
  have hle:(D++[(bO l,bO r)]).length=D.length+1:=by simp
  rw[hle]at hi he;subst he;have hxl:=hown.1;have hc':(xs++[L,R])[i*2]?=some v\/(xs++[L,R])[i*2+1]?=some v:=by
   rcases hc with hc|hc
   .exact .inl ((acf.cellAt (i*2) (by omega)).symm.trans hc)
   .exact .inr ((acf.cellAt (i*2+1) (by omega)).symm.trans hc)
  by_cases hlt:i<D.length
  .obtain⟨gn,Yn,he,_,_,hcn⟩:=iy hown (by omega)
   have hgn:gn<w.heap.size:=(hvn gn (by rw[he];rfl)).2;refine .inl ⟨i,gn,Yn,v,hlt,he,?_,hv⟩;rcases hc' with hc|hc
   .rw[dN (by omega)]at hc
    exact .inl (by rw[<-hE.cell (p:=⟨gn,i*2,none⟩) hgn,hcn _ (by omega)];exact hc)
   .rw[dN (by omega)]at hc
    exact .inr (by rw[<-hE.cell (p:=⟨gn,i*2+1,none⟩) hgn,hcn _ (by omega)];exact hc)
  .have hi':i=D.length:=by omega
   subst hi';rcases hc' with hc|hc
   .rw[dX (by omega),show D.length*2-xs.length=0 by omega]at hc
    simp at hc;subst hc;exact .inr (fL b hv).1
   .rw[dX (by omega),show D.length*2+1-xs.length=1 by omega]at hc
    simp at hc;subst hc;exact .inr (fR b hv).1
 .refine⟨hg,by simp;omega,⟨t,hp4⟩,?_,⟨xs++[L,R],?_,?_⟩,a1,a2,a4⟩
  .have e:((D++[(bO l,bO r)]).mapIdx λi _=>(bE.born (vl (D++[(bO l,bO r)]) i):Int))=(D.mapIdx λi _=>(bE.born (vl D i):Int))++[ig D (l++r)]:=by
    rw[List.mapIdx_append];congr 1
    .refine rz (by simp) λi h1 h2=>?_
     simp only[List.getElem_mapIdx];rw[bE.jJ hB.good.wf hg.wf i (by simpa using h2)]
    .simp only[List.mapIdx_cons,List.mapIdx_nil,fI]
     rw[uK hg.wf hlast (l:=l) (r:=r) (λ_=>cz) (λ_=>cz) (by rw[hbn];exact hb0.1),hbn]
   rw[e,dw];have:=ownsRow_setCell_other ho2 (a:=⟨pb,1,none⟩) a2 qE
   simpa using this
  .have h1:=(ownsRow_setCell_other ho1 (a:=⟨pb,0,none⟩) a1 rY).alloc (.cells #[.int .i64 (ig D (l++r))] 3)
   have h2:=World.ownsRow.kept h1 hg2 (by
    cases h:rY.ownBlock with
    |none=>exact .inl rfl
    |some b=>exact .inr (λe=>a3 b h e.symm))
   have:=ownsRow_setCell_other h2 (a:=⟨pb,1,none⟩) a1 qE
   simpa using this
  .have hxl:=hown.1
   intro i hi;by_cases hlt:i<D.length
   .obtain⟨L',R',e1,e2,e3,e4,e5,e6⟩:=hnd i hlt
    refine⟨L',R',bE.getElem?_append_some e1,bE.getElem?_append_some e2,?_,?_,?_,?_⟩
    .rw[dM hlt];exact hst e3 (λb hb=>(e5 b hb).1)
    .rw[dM hlt];exact hst e4 (λb hb=>(e6 b hb).1)
    .intro b hb;exact⟨λh=>(e5 b hb).1 (hS b (e5 b hb).2 h),by rw[World.size_setCell];have:=(e5 b hb).2;omega⟩
    .intro b hb;exact⟨λh=>(e6 b hb).1 (hS b (e6 b hb).2 h),by rw[World.size_setCell];have:=(e6 b hb).2;omega⟩
   .have hi':i=D.length:=by simp at hi;omega
    subst hi';refine⟨L,R,?_,?_,?_,?_,?_,?_⟩
    .rw[dX (by omega),show 2*D.length-xs.length=0 by omega];rfl
    .rw[dX (by omega),show 2*D.length+1-xs.length=1 by omega];rfl
    .simp only[List.getElem_concat_length];exact hst hL (λb hb h=>by have:=hold b h;have:=fL b hb;omega)
    .simp only[List.getElem_concat_length];exact hst hR (λb hb h=>by have:=hold b h;have:=fR b hb;omega)
    .intro b hb;exact⟨λh=>by have:=hold b (hS b (fL b hb).2 h);have:=fL b hb;omega,by rw[World.size_setCell];have:=(fL b hb).2;omega⟩
    .intro b hb;exact⟨λh=>by have:=hold b (hS b (fR b hb).2 h);have:=fR b hb;omega,by rw[World.size_setCell];have:=(fR b hb).2;omega⟩
 .refine⟨?_,?_,?_,by rw[World.size_setCell];omega,λk hk hf=>?_⟩
  .exact(hg2.os.trans hg1.os).trans hE.os
  .exact(hg2.tape.trans hg1.tape).trans hE.tape
  .exact(hg2.output.trans hg1.output).trans hE.output
  .rw[hblk k (by omega) (λe=>hf (.inl e)) (λe=>hf (.inr (.inl e))) (λe=>hf (.inr (.inr e)))]
   exact hE.block k hk
 .intro b h
  rcases xE.QE L1 L2 (by omega) h with h|h
  .exact .inl h
  .exact .inr (by omega)
theorem EF{nd:Nd}(hk:k<D.length)(h:Hid (∀j (h:j<D.length),j<k->D[j]≠nd))(hne:D[k]≠nd):Hid (∀j (h:j<D.length),j<k+1->D[j]≠nd):=by
 intro j hj hjk;by_cases e:j=k
 .subst e;exact hne
 .exact h j hj (by omega)
theorem Si(hD:bE.WF D)(hk:k<D.length)(he:D[k]=(bO l,bO r))(hl:∀x,x∈l->x<D.length)(hr:∀x,x∈r->x<D.length):(bE.born (vl D k):Int)=ig D (l++r):=
 uK hD (l':=bO l) (r':=bO r) (by rw[<-he];exact af hk) (λ_=>cz) (λ_=>cz)
  (nu hD _ (λx hx=>by rcases bq.1 hx with h|h;exact hl x h;exact hr x h)).1
theorem qN(pb:Nat)(vn vb:Value)(D:dh)(v u:Value)(l r:List Nat)(w:World)(hB:fB w pb vn vb D)(hv:Ints w v (dB l))(hu:Ints w u (dB r))
 (hl:∀x,x∈l->x<D.length) (hr:∀x,x∈r->x<D.length) (hls:l.length<=1000000) (hrs:r.length<=1000000) (hroom:D.length+1<=1000000):
 Calls prog 114 #[.pointer (some ⟨pb,0,none⟩),v,u] w (J4 pb vn vb D l r w):=by
 obtain⟨a,cap,rfl,hlc,hcap,hc⟩:=hv;obtain⟨a',cap',rfl,Xh,Md,hc'⟩:=hu;rw[bG]at hlc hcap hc Xh Md hc';rw[bG,bG];go_enter Tryz.func114,Tryz.ntmps114
 go_wp2
 go_loopw [7,9,10] (λo bn i wr=>∃k:Nat,k<=l.length/\i=.int .i64 k/\bn=.int .i64 (ig D (l.take k))/\Ints wr o (kL (dB (l.take k)))/\Ext w wr/\Hid (∀b,o.ownBlock=some b->w.heap.size<=b/\b<wr.heap.size)/\w.heap.size+2<=wr.heap.size) (λ_ _ i _=>l.length-(intOf i).toNat)
 case atStart=>exact⟨0,aU _,rfl,rfl,Ints.nil _ _ _,by go_grown,λb hb=>by simp[Value.ownBlock]at hb;subst hb;exact⟨aJ _,by simp;try omega⟩,by simp⟩
 case round=>
  obtain⟨k,hk,rfl,rfl,hI,kP,HF,HS0⟩:=hrel;by_cases hlt:k<l.length
  .obtain⟨b,off,rfl,hcell⟩:=hc (by omega)
   have hck:=hcell k hlt;have ou:=fw kP hck;have hxk:=hl (l[k]) (ai hlt);rw[iA hlt]at ou;obtain⟨gb,aio,rfl,hbl,hbc,Cz⟩:=hB.yE hxk;have XC:=fw kP Cz;have hp1:=fw kP hB.cell1;have hlen:(kL (dB (l.take k))).length<=1000000000:=by
    have:=uW (dB (l.take k));rw[bG]at this;have:=List.length_take_le k l;omega
   clear hcell hc hck Cz;go_wp2_with (go_at_call 161;refine(vz _ _ _ _ hI hlen).mono ?_;rintro e w1 ⟨v1,rfl,hI1,hx1,hn1⟩)
   have c1:=fw hx1 ou;have c2:=fw hx1 XC;have c3:=fw hx1 hp1;have hbn:=nu hB.good.wf (l.take k) (Sy hl);have hbx:=bE.oC hB.good.wf l[k];have hds:=hB.small;have HS:=aW (Hm hlt);have HN:=aW (yD D hlt);have HX:=aW (vk HF.out kP.size hx1.size hn1);have hE1:=ah kP hx1;have hsz1:=hx1.size;clear ou XC hp1 HF hn1 hx1 kP hI;go_wp2
   go_quiet ((go_at_call 162;first|exact Calls.quiet_of (wU _ _ _)|exact sG (wU _ _ _)))
   go_wp2
   go_roundw
   case rel=>exact⟨k+1,by omega,by go_num,by rw[HN.out],by rw[HS.out];exact jL hI1 _,eH hE1 _,HX.out,by have:=hsz1;simp;omega⟩
   case measure=>simp[intOf];omega
  .have hkl:k=l.length:=by omega
   subst hkl;rw[dZ]at hI ⊢;obtain⟨wo,rfl⟩:∃wo:World,wo=wr:=⟨_,rfl⟩;have hpo:=kP.size;go_wp2
   go_loopw [8,9,11] (λo bn i wr=>∃k:Nat,k<=r.length/\i=.int .i64 k/\bn=.int .i64 (ig D (l++r.take k))/\Ints wr o (kL (dB (r.take k)))/\Ext wo wr/\Hid (∀b,o.ownBlock=some b->w.heap.size<=b/\b<wr.heap.size)) (λ_ _ i _=>r.length-(intOf i).toNat)
   case atStart=>exact⟨0,aU _,rfl,by simp,Ints.nil _ _ _,gz _ _,λb hb=>by simp[Value.ownBlock]at hb;subst hb;exact⟨by omega,by have:=HS0;omega⟩⟩
   case round=>
    obtain⟨k,hk,rfl,rfl,hI2,Dj,HF2⟩:=hrel;by_cases hlt:k<r.length
    .obtain⟨b,off,rfl,hcell⟩:=hc' (by omega)
     have hck:=hcell k hlt;have hE2:=ah kP Dj;have ou:=fw hE2 hck;have hxk:=hr (r[k]) (ai hlt);rw[iA hlt]at ou;obtain⟨gb,aio,rfl,hbl,hbc,Cz⟩:=hB.yE hxk;have XC:=fw hE2 Cz;have hp1:=fw hE2 hB.cell1;have hlen:(kL (dB (r.take k))).length<=1000000000:=by
      have:=uW (dB (r.take k));rw[bG]at this;have:=List.length_take_le k r;omega
     clear hcell hc' hck Cz;go_wp2_with (go_at_call 161;refine(vz _ _ _ _ hI2 hlen).mono ?_;rintro e w1 ⟨v1,rfl,hI1,hx1,hn1⟩)
     have c1:=fw hx1 ou;have c2:=fw hx1 XC;have c3:=fw hx1 hp1;have hbn:=nu hB.good.wf (l++r.take k) (by intro x hx;rcases bq.1 hx with h|h;exact hl x h;exact hr x (jD h));have hbx:=bE.oC hB.good.wf r[k];have hds:=hB.small;have HS:=aW (Hm hlt);have HN:=aW (xq D l hlt);have HX:=aW (vk HF2.out (by have:=hE2.size;omega) hx1.size hn1);have hE1:=ah Dj hx1;clear ou XC hp1 HF2 hn1 hx1 Dj hI2 hE2;go_wp2
     go_quiet ((go_at_call 162;first|exact Calls.quiet_of (wU _ _ _)|exact sG (wU _ _ _)))
     go_wp2
     go_roundw
     case rel=>exact⟨k+1,by omega,by go_num,by rw[HN.out],by rw[HS.out];exact jL hI1 _,eH hE1 _,HX.out⟩
     case measure=>simp[intOf];omega
    .have hkr:k=r.length:=by omega
     subst hkr;rw[dZ]at hI2 ⊢;have hE:=ah kP Dj;have hB2:=hB.ext hE;have hI1:=hI.ext Dj;obtain⟨wp,rfl⟩:∃wp:World,wp=wr:=⟨_,rfl⟩;go_wp2
     go_loopw [12] (λi wr=>∃k:Nat,k<=D.length/\i=.int .i64 k/\RD wp wr/\Hid (∀j (h:j<D.length),j<k->D[j]≠(bO l,bO r))) (λi _=>D.length-(intOf i).toNat)
     case atStart=>exact⟨0,aU _,rfl,uX _,λj _ h=>absurd h (by omega)⟩
     case round=>
      obtain⟨k,hk,rfl,⟨n,rfl⟩,HN⟩:=hrel;have hp0:=hB2.cell0;have hp1:=hB2.cell1;have hds:=hB.small;by_cases hlt:k<D.length
      .obtain⟨gb,aio,rfl,hbl,hbc,Cz⟩:=hB2.yE hlt
       obtain⟨gn,Yn,L,R,rfl,hnl,hnc,hL,hR,xg,xe⟩:=hB2.ve hlt;by_cases e1:(bE.born (vl D k):Int)=ig D (l++r)
       .have hb1:((bE.born (vl D k):Int)== ig D (l++r))=true:=by simp[e1]
        clear e1 hc hc' hI kP Dj;cases hs1:qF (dB (D[k]).1) (kL (dB l))with
        |false=>
         have GZ:=aW hs1;go_wp2_with (first|(go_at_call 152;refine(oo _ _ _ _ _ (by with_reducible first|exact jL xg _|exact jL xe _) (by with_reducible first|exact jL hI1 _|exact jL hI2 _)).mono ?_;rintro e w1 ⟨he,n1,rfl⟩;rw[hs1]at he;subst he))
         go_roundw
         case rel=>exact⟨k+1,by omega,by go_num,⟨_,rfl⟩,EF hlt HN (λhe=>by have h:=GZ.out;rw[he,<-lV]at h;simp[qF]at h)⟩
         case measure=>simp[intOf];omega
        |true=>
         cases hs2:qF (dB (D[k]).2) (kL (dB r))with
         |false=>
          have HS2:=aW hs2;go_wp2_with (first|(go_at_call 152;refine(oo _ _ _ _ _ (by with_reducible first|exact jL xg _|exact jL xe _) (by with_reducible first|exact jL hI1 _|exact jL hI2 _)).mono ?_;rintro e w1 ⟨he,n1,rfl⟩;(first|rw[hs1]at he|rw[hs2]at he);subst he))
          go_roundw
          case rel=>exact⟨k+1,by omega,by go_num,⟨_,rfl⟩,EF hlt HN (λhe=>by have h:=HS2.out;rw[he,<-lV]at h;simp[qF]at h)⟩
          case measure=>simp[intOf];omega
         |true=>
          have GZ:=aW hs1;have HS2:=aW hs2;go_wp2_with (first|(go_at_call 152;refine(oo _ _ _ _ _ (by with_reducible first|exact jL xg _|exact jL xe _) (by with_reducible first|exact jL hI1 _|exact jL hI2 _)).mono ?_;rintro e w1 ⟨he,n1,rfl⟩;(first|rw[hs1]at he|rw[hs2]at he);subst he))
          go_ret
          have e1:(D[k]).1=bO l:=(by have h:=GZ.out;rw[lV]at h;exact Qp (of_decide_eq_true h));have e2:(D[k]).2=bO r:=(by have h:=HS2.out;rw[lV]at h;exact Qp (of_decide_eq_true h));exact⟨_,_,D,k,rfl,hB2.ext (dQ ⟨_,rfl⟩),jR (eH hE _),λb h=>.inl h,λb h=>.inl (iO.back hB (eH hE _) h),by rw[af hlt,<-e1,<-e2],.inl rfl⟩
       .have hb1:((bE.born (vl D k):Int)== ig D (l++r))=false:=by simp[e1]
        have E1:=aW e1;clear e1;go_wp2
        go_roundw
        case rel=>exact⟨k+1,by omega,by go_num,⟨_,rfl⟩,EF hlt HN (λhe=>E1.out (Si hB.good.wf hlt he hl hr))⟩
        case measure=>simp[intOf];omega
      .have hkd:k=D.length:=by omega
       subst hkd;obtain⟨xs,hown,Xb⟩:=hB2.nodes;obtain⟨an,cn,rfl,hn1,hn2⟩:=bT hown;obtain⟨ab,cb,rfl,hb1,hb2⟩:=bT hB2.born;have Pk:=aW hI1;have hwo:=Dj.size;have amE:=aW hI2;have hB':=aW hB;have hB2':=aW hB2;have aaw:=aW Xb;obtain⟨al,cl,rfl,hl1,hl2,hl3⟩:=hI1;obtain⟨ar,cr,rfl,hr1,hr2,hr3⟩:=hI2;have hfr:=hB2.free;have hlt:=hB2.lt;have ha1:=hB2.xy;obtain⟨iN,hiN,zN0,zN1,zN2⟩:=info_parts vG;obtain⟨i0,hi,hz0,hz1,hz2⟩:=info_parts iU;clear hc hc' hI kP Dj hl3 hr3 hB hB2 Xb;have hown0:=(own_drewN hown n).alloc (.cells #[.slice al (kL (dB l)).length cl,.slice ar (kL (dB r)).length cr] 91);have hbk:=hB2'.out.born;have HB:=aW (show(wp.drewN n).ownsRow 0 3 1 (.slice ab D.length cb) D.length _ from hbk);have HO:=aW hown0;have HP0:=aW (aI (w:=wp.drewN n) hp0);have HP1:=aW (aI (w:=wp.drewN n) hp1);have HFR:=aW (λo X=>(xz (w:=wp.drewN n) (a:=⟨pb,o,none⟩) X hlt).trans (hfr o));have ha2:=hB2'.out.F3;have ha3:=hB2'.out.FZ;have hown':=hown;clear hown0 hbk hfr
       go_wp2_with (first
        |(at_builtin;refine eO rfl (.tmp 112) (.tmp 116) 28 rfl 0 91 iN (.agg #[.slice none 0 0,.slice none 0 0]) 2 48 underlying28 hiN zN0 zN1 zN2 rfl (by decide) (.slice an D.length cn) D.length xs rfl HO.out (some ⟨wp.heap.size,0,none⟩) 1 _ [.slice al (kL (dB l)).length cl,.slice ar (kL (dB r)).length cr] rfl rfl (.inr ⟨_,rfl,DU (w:=wp.drewN n)⟩) xO (by unfold maxLen;omega) (by omega) (aU _) ?_
          intro v1 w1 ho1 hg1 hl1;obtain⟨q1,q2,q3,q4,q5,q6⟩:=VE hB2'.out hg1;obtain⟨a1,c1,rfl,g1,g2⟩:=bT ho1)
        |(at_builtin;refine eO rfl (.tmp 124) (.tmp 126) 41 rfl 0 3 i0 (.int .i64 0) 1 8 underlying41 hi hz0 hz1 hz2 rfl (by decide) (.slice ab D.length cb) D.length ((D.mapIdx λi _=>(bE.born (vl D i):Int)).map (Value.int .i64)) rfl ((ownsRow_setCell_other q6 ha2 _).alloc _) _ 1 _ [.int .i64 (ig D (l++r))] rfl rfl (.inr ⟨_,rfl,fD (wO _ _ _ _ _)⟩) one_cell (by unfold maxLen;omega) (by omega) (aU _) ?_
          intro v2 w2 ho2 hg2 hl2;obtain⟨r1,r2,r3⟩:=VD q2 q4 q1 ha2 hg2;obtain⟨a2,c2,rfl,g3,g4⟩:=bT ho2))
       go_ret
       exact ZX hB'.out hE hown' aaw.out hg1 ho1 hl1 hg2 ho2 hl2 (by rw[<-lV];exact Pk.out) (by rw[<-lV];exact amE.out) (λb hb=>⟨(HF.out b hb).1,bg (HF.out b hb).2 hwo⟩) HF2.out hl hr HN.out hroom
