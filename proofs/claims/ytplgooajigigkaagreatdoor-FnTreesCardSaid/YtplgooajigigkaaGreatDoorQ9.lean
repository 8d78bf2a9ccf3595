/- 9 -/
import Derived.Test.YtplgooajigigkaaGreatDoorQ8
import Derived.Deep.AppendLies
set_option maxRecDepth 100000
set_option maxHeartbeats 4000000
namespace Go.Proofs.YtplgooajigigkaaGreatDoor
open Tryz
open Go.RowKit
open aZ (cZ Nd vl)
variable {w wp w1 w2:World} {pb i b k n:Nat} {vn vb x v L R o7 qK:Value} {D:cZ} {l r:List Nat} {e:TypeId} {a:Addr}
def jA(D:cZ)(l r:List Nat)(D':cZ)(i:Nat):Prop:=
 D'[i]?=some (aS l,aS r)/\(D'=D\/D'=D++[(aS l,aS r)])
def fw(w:World)(vn:Value)(n:Nat)(b:Nat):Prop:=∃i g cap v,i<n/\vn=.slice (some ⟨g,0,none⟩) n cap/\(w.cell? ⟨g,i*2,none⟩=some v\/w.cell? ⟨g,i*2+1,none⟩=some v)/\v.ownBlock=some b
def NM(pb:Nat)(vn vb:Value)(D:cZ)(l r:List Nat)(w:World)(e:Ending)(w':World):Prop:=
 ∃uj wh D' i,e=.returned (.int .i64 ((i:Nat):Int))/\dK w' pb uj wh D'/\dW (kM pb vn vb) w w'/\(∀b,kM pb uj wh b->kM pb vn vb b\/w.heap.size<=b)/\(∀b,fw w' uj D'.length b->fw w vn D.length b\/w.heap.size<=b)/\jA D l r D' i
def eH(D:cZ)(l:List Nat):Int:=l.foldl (λm x=>max m ((aZ.born (vl D x):Int)+1)) 0
theorem dK.uV(h:dK w pb vn vb D){x:Nat}(hx:x<D.length):
 ∃g cap,vb=.slice (some ⟨g,0,none⟩) D.length cap/\D.length<=cap/\cap<=maxLen/\w.cell? ⟨g,x,none⟩=some (.int .i64 (aZ.born (vl D x))):=by
 obtain⟨g,cap,h1,h2,h3,h4⟩:=gY h.born (by omega);refine⟨g,cap,h1,h2,h3,?_⟩;rw[h4 x (by omega)];simp[hx]
theorem dK.qW(h:dK w pb vn vb D)(hi:i<D.length):
 ∃g cap L R,vn=.slice (some ⟨g,0,none⟩) D.length cap/\D.length<=cap/\cap<=maxLen/\w.cell? ⟨g,i*2,none⟩=some L/\w.cell? ⟨g,i*2+1,none⟩=some R/\Ints w L (bV (D[i]).1)/\Ints w R (bV (D[i]).2):=by
 obtain⟨xs,ho,hn⟩:=h.nodes;obtain⟨g,cap,h1,h2,h3,h4⟩:=gY ho (by omega);obtain⟨L,R,e1,e2,e3,e4,_⟩:=hn i hi;exact⟨g,cap,L,R,h1,h2,h3,by rw[h4 _ (by omega),kP];exact e1,by rw[h4 _ (by omega),kP];exact e2,e3,e4⟩
theorem dK.Ia(h:dK w pb vn vb D)(hi:i<D.length):
 ∃g cap L R,vn=.slice (some ⟨g,0,none⟩) D.length cap/\D.length<=cap/\cap<=maxLen/\w.cell? ⟨g,i*2,none⟩=some L/\w.cell? ⟨g,i*2+1,none⟩=some R/\Ints w L (bV (D[i]).1)/\Ints w R (bV (D[i]).2)/\
  (∀b,L.ownBlock=some b->¬kM pb vn vb b/\b<w.heap.size)/\(∀b,R.ownBlock=some b->¬kM pb vn vb b/\b<w.heap.size):=by
 obtain⟨xs,ho,hn⟩:=h.nodes;obtain⟨g,cap,h1,h2,h3,h4⟩:=gY ho (by omega);obtain⟨L,R,e1,e2,e3,e4,e5,e6⟩:=hn i hi;exact⟨g,cap,L,R,h1,h2,h3,by rw[h4 _ (by omega),kP];exact e1,by rw[h4 _ (by omega),kP];exact e2,e3,e4,e5,e6⟩
theorem fw.back{w':World}(hB:dK w pb vn vb D)(hx:Ext w w')(h:fw w' vn D.length b):fw w vn D.length b:=by
 obtain⟨i,g,cap,v,hi,he,hc,hv⟩:=h;obtain⟨g',cap',L,R,he',_,_,c1,c2,_⟩:=hB.qW hi;rw[he]at he';simp only[gz,bN,Addr.mk.injEq,and_true,true_and]at he';obtain⟨rfl,rfl⟩:=he';refine⟨i,g,cap,v,hi,he,?_,hv⟩;rcases hc with hc|hc
 .exact .inl (by rw[<-hx.cell (lt_of_cell c1)];exact hc)
 .exact .inr (by rw[<-hx.cell (lt_of_cell c2)];exact hc)
theorem uU(D:cZ)(h:k<l.length):eH D (l.take (k+1))=max (eH D (l.take k)) ((aZ.born (vl D l[k]):Int)+1):=by
 rw[aW h,eH,List.foldl_append];rfl
theorem sW(D:cZ)(l:List Nat)(h:k<r.length):eH D (l++r.take (k+1))=max (eH D (l++r.take k)) ((aZ.born (vl D r[k]):Int)+1):=by
 rw[aW h,<-dh,eH,List.foldl_append];rfl
theorem kU(hD:aZ.WF D)(l:List Nat)(hl:∀x,x∈l->x<D.length):0<=eH D l/\eH D l<=D.length:=by
 have main:∀(l:List Nat) (m:Int),0<=m->m<=D.length->(∀x,x∈l->x<D.length)->0<=l.foldl (λm x=>max m ((aZ.born (vl D x):Int)+1)) m/\l.foldl (λm x=>max m ((aZ.born (vl D x):Int)+1)) m<=D.length:=by
  intro l
  induction l with
  |nil=>intro m h1 h2 _;exact⟨h1,h2⟩
  |cons x l ih=>
   intro m h1 h2 hx;have h3:=aZ.mH hD x;have h4:=hx x (by simp);exact ih _ (by show 0<=max _ _;omega) (by show max _ _<=_;omega) (λy hy=>hx y (by simp[hy]))
 exact main l 0 (by omega) (by omega) hl
theorem OP(hl:∀x,x∈l->x<D.length):∀x,x∈l.take k->x<D.length:=λx hx=>hl x (gy hx)
theorem Dv(h:k<l.length):jf (bV (l.take (k+1)))=qp (jf (bV (l.take k))) (l[k]:Int):=by
 rw[aW h,bV,bz];exact wP _ _
theorem zb:(prog.info? 91).map (λi=>(i.zero,i.size,i.bytes))=some (some (.agg #[.slice none 0 0,.slice none 0 0]),2,48):=by kernel_rfl
theorem Au{y:Value}:∀j u,([x,y]:List Value)[j]?=some u->(w.alloc (.cells #[x,y] e)).cell? ((⟨w.heap.size,0,none⟩:Addr).add j)=some u:=by
 intro j u h
 match j with
 | 0=>simp at h;subst h;exact(World.cell?_alloc_at (w:=w) #[x,y] e _ 0 rfl)
 | 1=>simp at h;subst h;exact(World.cell?_alloc_at (w:=w) #[x,y] e _ 1 rfl)
 |n+2=>simp at h
theorem aQ(h:w.cell? a=some v)(o:Obj):(w.alloc o).cell? a=some v:=(World.cell?_alloc_lt w o a (lt_of_cell h)).trans h
theorem tF(o:Obj)(h:a.block<w.heap.size):(w.alloc o).frozen? a=w.frozen? a:=World.frozen?_alloc_old w o a (by omega)
theorem xC{a b:Option Addr}{m c d:Nat}:∀u∈([Value.slice a n c,Value.slice b m d]:List Value),u.oneCell'=true:=by
 intro u h;simp at h;rcases h with rfl|rfl <;> rfl
theorem j5{l:List Int}(h:Ints w v l)(n:Nat):Ints (w.drewN n) v l:=h.ext (dz ⟨n,rfl⟩)
theorem Rf(hB:dK wp pb vn vb D)(hg:((wp.drewN n).alloc (.cells #[L,R] 91)).grownBy w1 vn.ownBlock):
 w1.cell? ⟨pb,0,none⟩=some vn/\w1.cell? ⟨pb,1,none⟩=some vb/\w1.frozen? ⟨pb,0,none⟩=false/\w1.frozen? ⟨pb,1,none⟩=false/\pb<w1.heap.size/\
  w1.ownsRow 0 3 1 vb D.length ((D.mapIdx λi _=>(aZ.born (vl D i):Int)).map (Value.int .i64)):=by
 have hlt:pb<(wp.drewN n).heap.size:=hB.lt;have hl1:pb<((wp.drewN n).alloc (.cells #[L,R] 91)).heap.size:=by rw[eX];omega
 refine⟨hg.cell (aQ (w:=wp.drewN n) hB.cell0 _) hB.kD.symm,hg.cell (aQ (w:=wp.drewN n) hB.cell1 _) hB.kD.symm,?_,?_,aJ hl1 hg.size,?_⟩
 .exact(hg.frozen_far ⟨pb,0,none⟩ hl1 hB.kD.symm).trans ((tF (w:=wp.drewN n) _ hlt).trans (hB.free 0))
 .exact(hg.frozen_far ⟨pb,1,none⟩ hl1 hB.kD.symm).trans ((tF (w:=wp.drewN n) _ hlt).trans (hB.free 1))
 .refine World.ownsRow.kept ((own_drewN hB.born n).alloc _) hg ?_
  cases h:vb.ownBlock with
  |none=>exact .inl rfl
  |some b=>exact .inr (λe=>hB.mI b e.symm h)
theorem rZ(w:World)(a:Addr)(u v:Value)(e:TypeId):((w.setCell a u).alloc (.cells #[v] e)).cell? ⟨w.heap.size,0,none⟩=some v:=by
 have:=bY (w.setCell a u) v e;rw[World.size_setCell]at this;exact this
theorem Re(q2:w1.cell? ⟨pb,1,none⟩=some vb)(q4:w1.frozen? ⟨pb,1,none⟩=false){u:Value}(q1:w1.cell? ⟨pb,0,none⟩=some u)(ha:vb.ownBlock≠some pb)(hg:((w1.setCell ⟨pb,0,none⟩ o7).alloc (.cells #[x] e)).grownBy w2 vb.ownBlock):
 w2.cell? ⟨pb,0,none⟩=some o7/\w2.cell? ⟨pb,1,none⟩=some vb/\w2.frozen? ⟨pb,1,none⟩=false:=by
 have c0:(w1.setCell ⟨pb,0,none⟩ o7).cell? ⟨pb,0,none⟩=some o7:=World.cell?_setCell_same _ _ _ q1;have c1:(w1.setCell ⟨pb,0,none⟩ o7).cell? ⟨pb,1,none⟩=some vb:=(World.cell?_setCell_other _ _ _ _ (by simp)).trans q2;refine⟨hg.cell (aQ c0 _) ha.symm,hg.cell (aQ c1 _) ha.symm,?_⟩;have hl:pb<(w1.setCell ⟨pb,0,none⟩ o7).heap.size:=lt_of_cell c0;exact(hg.frozen_far ⟨pb,1,none⟩ (by rw[eX];exact Nat.lt_succ_of_lt hl) ha.symm).trans ((tF _ hl).trans (by rw[World.frozen?_setCell];exact q4))
theorem kM.M0{N M:Nat}(h1:o7.ownBlock=vn.ownBlock\/∃g,o7.ownBlock=some g/\N<=g)(h2:qK.ownBlock=vb.ownBlock\/∃g,qK.ownBlock=some g/\M<=g)(hMN:N<=M)(h:kM pb o7 qK b):kM pb vn vb b\/N<=b:=by
 rcases h with h|h|h
 .exact .inl (.inl h)
 .rcases h1 with h1|⟨g,h1,h3⟩
  .exact .inl (.inr (.inl (h1 ▸ h)))
  .rw[h1]at h;injection h with h;exact .inr (by omega)
 .rcases h2 with h2|⟨g,h2,h3⟩
  .exact .inl (.inr (.inr (h2 ▸ h)))
  .rw[h2]at h;injection h with h;exact .inr (by omega)
theorem PO(D:cZ)(l:List Nat)(n:Nat):eH D l<=n↔∀x,x∈l->aZ.born (vl D x)<n:=by
 have main:∀(l:List Nat) (m:Int),l.foldl (λm x=>max m ((aZ.born (vl D x):Int)+1)) m<=n↔m<=n/\∀x,x∈l->aZ.born (vl D x)<n:=by
  intro l
  induction l with
  |nil=>intro m;simp
  |cons x l ih=>
   intro m;simp only[List.foldl_cons,ih,dZ];constructor
   .rintro⟨h1,h2⟩
    exact⟨by omega,λy hy=>by rcases hy with rfl|hy;omega;exact h2 y hy⟩
   .rintro⟨h1,h2⟩
    have:=h2 x (.inl rfl);exact⟨by omega,λy hy=>h2 y (.inr hy)⟩
 have:=main l 0;unfold eH;rw[this];simp
theorem qG(h:aZ.WF D){l' r':List Nat}(hd:D[k]?=some (l',r'))(hl:∀x,x∈l'↔x∈l)(hr:∀x,x∈r'↔x∈r)(h0:0<=eH D (l++r)):
 (aZ.born (vl D k):Int)=eH D (l++r):=by
 have e:∀n:Nat,aZ.born (vl D k)<=n↔eH D (l++r)<=n:=by
  intro n;rw[aZ.qF,PO,aZ.oN h hd,aZ.oK h hd];simp only[List.forall_mem_map,hl,hr,aM];constructor
  .rintro⟨a,b⟩ x (hx|hx)
   .exact a x hx
   .exact b x hx
  .intro a;exact⟨λx hx=>a x (.inl hx),λx hx=>a x (.inr hx)⟩
 have h1:=(e (aZ.born (vl D k))).1 (ax _);have h2:=(e (eH D (l++r)).toNat).2 (by omega);omega
theorem Wl{xs:List Value}(hBw:dK w pb vn vb D)(hE:Ext w wp)(hown:wp.ownsRow 0 91 2 vn D.length xs)
 (hnd:∀i (h:i<D.length),∃L R,xs[2*i]?=some L/\xs[2*i+1]?=some R/\Ints wp L (bV (D[i]).1)/\Ints wp R (bV (D[i]).2)/\(∀b,L.ownBlock=some b->¬kM pb vn vb b/\b<wp.heap.size)/\(∀b,R.ownBlock=some b->¬kM pb vn vb b/\b<wp.heap.size))
 (hg1:((wp.drewN n).alloc (.cells #[L,R] 91)).grownBy w1 vn.ownBlock) (ho1:w1.ownsRow 0 91 2 o7 (D.length+1) (xs++[L,R])) (hl1:lY ((wp.drewN n).alloc (.cells #[L,R] 91)) vn o7)
 (hg2:((w1.setCell ⟨pb,0,none⟩ o7).alloc (.cells #[.int .i64 (eH D (l++r))] 3)).grownBy w2 vb.ownBlock) (ho2:w2.ownsRow 0 3 1 qK (D.length+1) ((D.mapIdx λi _=>(aZ.born (vl D i):Int)).map (Value.int .i64)++[.int .i64 (eH D (l++r))]))
 (hl2:lY ((w1.setCell ⟨pb,0,none⟩ o7).alloc (.cells #[.int .i64 (eH D (l++r))] 3)) vb qK)
 (hL:Ints wp L (bV (aS l))) (hR:Ints wp R (bV (aS r))) (fL:∀b,L.ownBlock=some b->w.heap.size<=b/\b<wp.heap.size) (fR:∀b,R.ownBlock=some b->w.heap.size<=b/\b<wp.heap.size)
 (hl:∀x,x∈l->x<D.length) (hr:∀x,x∈r->x<D.length) (hN:∀j (h:j<D.length),j<D.length->D[j]≠(aS l,aS r)) (hsm:D.length+1<=1000000):
 NM pb vn vb D l r w (.returned (.int .i64 ((D.length:Nat):Int))) (w2.setCell ⟨pb,1,none⟩ qK):=by
 have hB:=hBw.ext hE;have hpb:=hBw.lt;have hsz:=hE.size;have z1:=hg1.size;have z2:=hg2.size;rw[eX]at z1 z2;rw[World.size_setCell]at z2;have z0:(wp.drewN n).heap.size=wp.heap.size:=rfl;rw[z0]at z1;have hvb:=hBw.born.lt;obtain⟨xs0,acC,_⟩:=hBw.nodes;have hvn:=acC.lt;have hv1:=ho1.lt;have hv2:=ho2.lt;have L1:o7.ownBlock=vn.ownBlock\/∃g,o7.ownBlock=some g/\wp.heap.size+1<=g:=by
  rcases hl1 with h|⟨g,h,k⟩
  .exact .inl h
  .rw[eX,z0]at k;exact .inr ⟨g,h,k⟩
 have L2:qK.ownBlock=vb.ownBlock\/∃g,qK.ownBlock=some g/\w1.heap.size+1<=g:=by
  rcases hl2 with h|⟨g,h,k⟩
  .exact .inl h
  .rw[eX,World.size_setCell]at k;exact .inr ⟨g,h,k⟩
 have hblk:∀k,k<wp.heap.size->k≠pb->vn.ownBlock≠some k->vb.ownBlock≠some k->(w2.setCell ⟨pb,1,none⟩ qK).heap[k]?=wp.heap[k]?:=by
  intro k hk h1 h2 h3
  rw[jH _ _ _ _ h1,hg2.block k (by rw[eX,World.size_setCell];omega) (Ne.symm h3),(World.grownBy_alloc _ _ none).block k (by rw[World.size_setCell];omega) (by simp),jH _ _ _ _ h1,
   hg1.block k (by rw[eX,z0];omega) (Ne.symm h2),(World.grownBy_alloc _ _ none).block k (by rw[z0];omega) (by simp)]
  rfl
 obtain⟨t,ht⟩:=hB.cells;have hp1:w1.heap[pb]?=some (.cells #[vn,vb] t (0,0)):=by
  rw[hg1.block pb (by rw[eX,z0];omega) hB.kD.symm,(World.grownBy_alloc _ _ none).block pb (by rw[z0];omega) (by simp)];exact ht
 have hp2:(w1.setCell ⟨pb,0,none⟩ o7).heap[pb]?=some (.cells #[o7,vb] t (0,0)):=iV _ _ _ _ _ _ hp1;have hp3:w2.heap[pb]?=some (.cells #[o7,vb] t (0,0)):=by
  rw[hg2.block pb (by rw[eX,World.size_setCell];omega) hB.mJ.symm,(World.grownBy_alloc _ _ none).block pb (by rw[World.size_setCell];omega) (by simp)];exact hp2
 have hp4:(w2.setCell ⟨pb,1,none⟩ qK).heap[pb]?=some (.cells #[o7,qK] t (0,0)):=iV _ _ _ _ _ _ hp3;have a1:o7.ownBlock≠some pb:=by
  rcases L1 with h|⟨g,h,k⟩
  .rw[h];exact hB.kD
  .rw[h];intro e;injection e with e;omega
 have a2:qK.ownBlock≠some pb:=by
  rcases L2 with h|⟨g,h,k⟩
  .rw[h];exact hB.mJ
  .rw[h];intro e;injection e with e;omega
 have a3:∀b,o7.ownBlock=some b->vb.ownBlock≠some b:=by
  intro b hb;rcases L1 with h|⟨g,h,k⟩
  .exact hB.mI b (h ▸ hb)
  .rw[h]at hb;injection hb with hb
   intro e;have:=hvb b e;omega
 have a4:∀b,o7.ownBlock=some b->qK.ownBlock≠some b:=by
  intro b hb;rcases L2 with h|⟨g,h,k⟩
  .rw[h];exact a3 b hb
  .rw[h];intro e;injection e with e
   have:=hv1 b hb;omega
 have hst:∀{v:Value} {k:List Int},Ints wp v k->(∀b,v.ownBlock=some b->¬kM pb vn vb b)->Ints (w2.setCell ⟨pb,1,none⟩ qK) v k:=by
  intro v k h hb;exact h.keep (λb hk e=>hblk b (h.blk hk e) (λe'=>hb b e (.inl e')) (λe'=>hb b e (.inr (.inl e'))) (λe'=>hb b e (.inr (.inr e'))))
 have hS:∀b,b<wp.heap.size->kM pb o7 qK b->kM pb vn vb b:=by
  intro b hb h;rcases kM.M0 L1 L2 (by omega) h with h|h
  .exact h
  .omega
 have hold:∀b,kM pb vn vb b->b<w.heap.size:=by
  rintro b (rfl|h|h)
  .exact hpb
  .exact(hvn b h).2
  .exact(hvb b h).2
 have hg:aZ.Good (D++[(aS l,aS r)]):=hB.good.snoc (λk hk=>hl k (bU.1 hk)) (λk hk=>hr k (bU.1 hk)) (iP l) (iP r) (by
  intro hm;obtain⟨j,hj,e⟩:=aH.1 hm;exact hN j hj hj e)
 have hlast:(D++[(aS l,aS r)])[D.length]?=some (aS l,aS r):=by simp
 have hb0:=kU hB.good.wf (l++r) (λx hx=>by rcases aM.1 hx with h|h;exact hl x h;exact hr x h);have hbn:eH (D++[(aS l,aS r)]) (l++r)=eH D (l++r):=by
  have key:∀(k:List Nat) (m:Int),(∀x,x∈k->x<D.length)->k.foldl (λm x=>max m ((aZ.born (vl (D++[(aS l,aS r)]) x):Int)+1)) m=k.foldl (λm x=>max m ((aZ.born (vl D x):Int)+1)) m:=by
   intro k
   induction k with
   |nil=>intro m _;rfl
   |cons x k ih=>
    intro m hx;simp only[List.foldl_cons];rw[aZ.gV hB.good.wf hg.wf x (hx x (by simp))];exact ih _ (λy hy=>hx y (by simp[hy]))
  exact key _ _ (λx hx=>by rcases aM.1 hx with h|h;exact hl x h;exact hr x h)
 have YN:(w2.setCell ⟨pb,1,none⟩ qK).ownsRow 0 91 2 o7 (D.length+1) (xs++[L,R]):=by
  have h1:=(ownsRow_setCell_other ho1 (a:=⟨pb,0,none⟩) a1 o7).alloc (.cells #[.int .i64 (eH D (l++r))] 3);have h2:=World.ownsRow.kept h1 hg2 (by
   cases h:o7.ownBlock with
   |none=>exact .inl rfl
   |some b=>exact .inr (λe=>a3 b h e.symm))
  exact ownsRow_setCell_other h2 (a:=⟨pb,1,none⟩) a1 qK
 refine⟨o7,qK,D++[(aS l,aS r)],D.length,rfl,?_,?_,?_,?_,hlast,.inr rfl⟩
 rotate_right
 .rintro b ⟨i,g,cap,v,hi,he,hc,hv⟩
  have hle:(D++[(aS l,aS r)]).length=D.length+1:=by simp
  rw[hle]at hi he;subst he;have hxl:=hown.1;have hc':(xs++[L,R])[i*2]?=some v\/(xs++[L,R])[i*2+1]?=some v:=by
   rcases hc with hc|hc
   .exact .inl ((YN.cellAt (i*2) (by omega)).symm.trans hc)
   .exact .inr ((YN.cellAt (i*2+1) (by omega)).symm.trans hc)
  by_cases hlt:i<D.length
  .obtain⟨gn,Ue,he,_,_,hcn⟩:=gY hown (by omega)
   have hgn:gn<w.heap.size:=(hvn gn (by rw[he];rfl)).2;refine .inl ⟨i,gn,Ue,v,hlt,he,?_,hv⟩;rcases hc' with hc|hc
   .rw[bQ (by omega)]at hc
    exact .inl (by rw[<-hE.cell (p:=⟨gn,i*2,none⟩) hgn,hcn _ (by omega)];exact hc)
   .rw[bQ (by omega)]at hc
    exact .inr (by rw[<-hE.cell (p:=⟨gn,i*2+1,none⟩) hgn,hcn _ (by omega)];exact hc)
  .have hi':i=D.length:=by omega
   subst hi';rcases hc' with hc|hc
   .rw[dC (by omega),show D.length*2-xs.length=0 by omega]at hc
    simp at hc;subst hc;exact .inr (fL b hv).1
   .rw[dC (by omega),show D.length*2+1-xs.length=1 by omega]at hc
    simp at hc;subst hc;exact .inr (fR b hv).1
 .refine⟨hg,by simp;omega,⟨t,hp4⟩,?_,⟨xs++[L,R],?_,?_⟩,a1,a2,a4⟩
  .have e:((D++[(aS l,aS r)]).mapIdx λi _=>(aZ.born (vl (D++[(aS l,aS r)]) i):Int))=(D.mapIdx λi _=>(aZ.born (vl D i):Int))++[eH D (l++r)]:=by
    rw[List.mapIdx_append];congr 1
    .refine uh (by simp) λi h1 h2=>?_
     simp only[List.getElem_mapIdx];rw[aZ.gV hB.good.wf hg.wf i (by simpa using h2)]
    .simp only[List.mapIdx_cons,List.mapIdx_nil,gQ]
     rw[qG hg.wf hlast (l:=l) (r:=r) (λ_=>bU) (λ_=>bU) (by rw[hbn];exact hb0.1),hbn]
   rw[e,bz];have:=ownsRow_setCell_other ho2 (a:=⟨pb,1,none⟩) a2 qK
   simpa using this
  .have h1:=(ownsRow_setCell_other ho1 (a:=⟨pb,0,none⟩) a1 o7).alloc (.cells #[.int .i64 (eH D (l++r))] 3)
   have h2:=World.ownsRow.kept h1 hg2 (by
    cases h:o7.ownBlock with
    |none=>exact .inl rfl
    |some b=>exact .inr (λe=>a3 b h e.symm))
   have:=ownsRow_setCell_other h2 (a:=⟨pb,1,none⟩) a1 qK
   simpa using this
  .have hxl:=hown.1
   intro i hi;by_cases hlt:i<D.length
   .obtain⟨L',R',e1,e2,e3,e4,e5,e6⟩:=hnd i hlt
    refine⟨L',R',aZ.getElem?_append_some e1,aZ.getElem?_append_some e2,?_,?_,?_,?_⟩
    .rw[dN hlt];exact hst e3 (λb hb=>(e5 b hb).1)
    .rw[dN hlt];exact hst e4 (λb hb=>(e6 b hb).1)
    .intro b hb;exact⟨λh=>(e5 b hb).1 (hS b (e5 b hb).2 h),by rw[World.size_setCell];have:=(e5 b hb).2;omega⟩
    .intro b hb;exact⟨λh=>(e6 b hb).1 (hS b (e6 b hb).2 h),by rw[World.size_setCell];have:=(e6 b hb).2;omega⟩
   .have hi':i=D.length:=by simp at hi;omega
    subst hi';refine⟨L,R,?_,?_,?_,?_,?_,?_⟩
    .rw[dC (by omega),show 2*D.length-xs.length=0 by omega];rfl
    .rw[dC (by omega),show 2*D.length+1-xs.length=1 by omega];rfl
    .simp only[List.getElem_concat_length];exact hst hL (λb hb h=>by have:=hold b h;have:=fL b hb;omega)
    .simp only[List.getElem_concat_length];exact hst hR (λb hb h=>by have:=hold b h;have:=fR b hb;omega)
    .intro b hb;exact⟨λh=>by have:=hold b (hS b (fL b hb).2 h);have:=fL b hb;omega,by rw[World.size_setCell];have:=(fL b hb).2;omega⟩
    .intro b hb;exact⟨λh=>by have:=hold b (hS b (fR b hb).2 h);have:=fR b hb;omega,by rw[World.size_setCell];have:=(fR b hb).2;omega⟩
 .refine⟨?_,?_,?_,by rw[World.size_setCell];omega,λk hk hf=>?_⟩
  .exact(hg2.os.trans hg1.os).trans hE.os
  .exact(hg2.tape.trans hg1.tape).trans hE.tape
  .exact(hg2.output.trans hg1.output).trans hE.output
  .rw[hblk k (by omega) (λe=>hf (.inl e)) (λe=>hf (.inr (.inl e))) (λe=>hf (.inr (.inr e)))]
   exact hE.block k hk
 .intro b h
  rcases kM.M0 L1 L2 (by omega) h with h|h
  .exact .inl h
  .exact .inr (by omega)
theorem Bg{nd:Nd}(hk:k<D.length)(h:Hid (∀j (h:j<D.length),j<k->D[j]≠nd))(hne:D[k]≠nd):Hid (∀j (h:j<D.length),j<k+1->D[j]≠nd):=by
 intro j hj hjk;by_cases e:j=k
 .subst e;exact hne
 .exact h j hj (by omega)
theorem OA(hD:aZ.WF D)(hk:k<D.length)(he:D[k]=(aS l,aS r))(hl:∀x,x∈l->x<D.length)(hr:∀x,x∈r->x<D.length):(aZ.born (vl D k):Int)=eH D (l++r):=
 qG hD (l':=aS l) (r':=aS r) (by rw[<-he];exact ae hk) (λ_=>bU) (λ_=>bU)
  (kU hD _ (λx hx=>by rcases aM.1 hx with h|h;exact hl x h;exact hr x h)).1
theorem xM(pb:Nat)(vn vb:Value)(D:cZ)(v u:Value)(l r:List Nat)(w:World)(hB:dK w pb vn vb D)(hv:Ints w v (bV l))(hu:Ints w u (bV r))
 (hl:∀x,x∈l->x<D.length) (hr:∀x,x∈r->x<D.length) (hls:l.length<=1000000) (hrs:r.length<=1000000) (hroom:D.length+1<=1000000):
 Calls prog 114 #[.pointer (some ⟨pb,0,none⟩),v,u] w (NM pb vn vb D l r w):=by
 obtain⟨a,cap,rfl,hlc,hcap,hc⟩:=hv;obtain⟨a',cap',rfl,Xg,Nt,hc'⟩:=hu;rw[aP]at hlc hcap hc Xg Nt hc';rw[aP,aP];go_enter Tryz.func114,Tryz.ntmps114
 go_wp2
 go_loopw [7,9,10] (λo bn i wr=>∃k:Nat,k<=l.length/\i=.int .i64 k/\bn=.int .i64 (eH D (l.take k))/\Ints wr o (jf (bV (l.take k)))/\Ext w wr/\Hid (∀b,o.ownBlock=some b->w.heap.size<=b/\b<wr.heap.size)/\w.heap.size+2<=wr.heap.size) (λ_ _ i _=>l.length-(intOf i).toNat)
 case atStart=>exact⟨0,az _,rfl,rfl,Ints.nil _ _ _,by go_grown,λb hb=>by simp[Value.ownBlock]at hb;subst hb;exact⟨ax _,by simp;try omega⟩,by simp⟩
 case round=>
  obtain⟨k,hk,rfl,rfl,hI,jh,HF,HS0⟩:=hrel;by_cases hlt:k<l.length
  .obtain⟨b,off,rfl,hcell⟩:=hc (by omega)
   have hck:=hcell k hlt;have lK:=dP jh hck;have hxk:=hl (l[k]) (aj hlt);rw[fD hlt]at lK;obtain⟨gb,adW,rfl,hbl,hbc,zh⟩:=hB.uV hxk;have Tk:=dP jh zh;have hp1:=dP jh hB.cell1;have hlen:(jf (bV (l.take k))).length<=1000000000:=by
    have:=qR (bV (l.take k));rw[aP]at this;have:=List.length_take_le k l;omega
   clear hcell hc hck zh;go_wp2_with (go_at_call 161;refine(q8 _ _ _ _ hI hlen).mono ?_;rintro e w1 ⟨v1,rfl,hI1,hx1,hn1⟩)
   have c1:=dP hx1 lK;have c2:=dP hx1 Tk;have c3:=dP hx1 hp1;have hbn:=kU hB.good.wf (l.take k) (OP hl);have hbx:=aZ.mH hB.good.wf l[k];have hds:=hB.small;have HS:=aI (Dv hlt);have HN:=aI (uU D hlt);have HX:=aI (qX HF.out jh.size hx1.size hn1);have hE1:=ah jh hx1;have hsz1:=hx1.size;clear lK Tk hp1 HF hn1 hx1 jh hI;go_wp2
   go_quiet ((go_at_call 162;first|exact Calls.quiet_of (sJ _ _ _)|exact pg (sJ _ _ _)))
   go_wp2
   go_roundw
   case rel=>exact⟨k+1,by omega,by go_num,by rw[HN.out],by rw[HS.out];exact j5 hI1 _,dG hE1 _,HX.out,by have:=hsz1;simp;omega⟩
   case measure=>simp[intOf];omega
  .have hkl:k=l.length:=by omega
   subst hkl;rw[cO]at hI ⊢;obtain⟨wo,rfl⟩:∃wo:World,wo=wr:=⟨_,rfl⟩;have hpo:=jh.size;go_wp2
   go_loopw [8,9,11] (λo bn i wr=>∃k:Nat,k<=r.length/\i=.int .i64 k/\bn=.int .i64 (eH D (l++r.take k))/\Ints wr o (jf (bV (r.take k)))/\Ext wo wr/\Hid (∀b,o.ownBlock=some b->w.heap.size<=b/\b<wr.heap.size)) (λ_ _ i _=>r.length-(intOf i).toNat)
   case atStart=>exact⟨0,az _,rfl,by simp,Ints.nil _ _ _,fJ _ _,λb hb=>by simp[Value.ownBlock]at hb;subst hb;exact⟨by omega,by have:=HS0;omega⟩⟩
   case round=>
    obtain⟨k,hk,rfl,rfl,hI2,zT,HF2⟩:=hrel;by_cases hlt:k<r.length
    .obtain⟨b,off,rfl,hcell⟩:=hc' (by omega)
     have hck:=hcell k hlt;have hE2:=ah jh zT;have lK:=dP hE2 hck;have hxk:=hr (r[k]) (aj hlt);rw[fD hlt]at lK;obtain⟨gb,adW,rfl,hbl,hbc,zh⟩:=hB.uV hxk;have Tk:=dP hE2 zh;have hp1:=dP hE2 hB.cell1;have hlen:(jf (bV (r.take k))).length<=1000000000:=by
      have:=qR (bV (r.take k));rw[aP]at this;have:=List.length_take_le k r;omega
     clear hcell hc' hck zh;go_wp2_with (go_at_call 161;refine(q8 _ _ _ _ hI2 hlen).mono ?_;rintro e w1 ⟨v1,rfl,hI1,hx1,hn1⟩)
     have c1:=dP hx1 lK;have c2:=dP hx1 Tk;have c3:=dP hx1 hp1;have hbn:=kU hB.good.wf (l++r.take k) (by intro x hx;rcases aM.1 hx with h|h;exact hl x h;exact hr x (gy h));have hbx:=aZ.mH hB.good.wf r[k];have hds:=hB.small;have HS:=aI (Dv hlt);have HN:=aI (sW D l hlt);have HX:=aI (qX HF2.out (by have:=hE2.size;omega) hx1.size hn1);have hE1:=ah zT hx1;clear lK Tk hp1 HF2 hn1 hx1 zT hI2 hE2;go_wp2
     go_quiet ((go_at_call 162;first|exact Calls.quiet_of (sJ _ _ _)|exact pg (sJ _ _ _)))
     go_wp2
     go_roundw
     case rel=>exact⟨k+1,by omega,by go_num,by rw[HN.out],by rw[HS.out];exact j5 hI1 _,dG hE1 _,HX.out⟩
     case measure=>simp[intOf];omega
    .have hkr:k=r.length:=by omega
     subst hkr;rw[cO]at hI2 ⊢;have hE:=ah jh zT;have hB2:=hB.ext hE;have hI1:=hI.ext zT;obtain⟨wp,rfl⟩:∃wp:World,wp=wr:=⟨_,rfl⟩;go_wp2
     go_loopw [12] (λi wr=>∃k:Nat,k<=D.length/\i=.int .i64 k/\RD wp wr/\Hid (∀j (h:j<D.length),j<k->D[j]≠(aS l,aS r))) (λi _=>D.length-(intOf i).toNat)
     case atStart=>exact⟨0,az _,rfl,rU _,λj _ h=>absurd h (by omega)⟩
     case round=>
      obtain⟨k,hk,rfl,⟨n,rfl⟩,HN⟩:=hrel;have hp0:=hB2.cell0;have hp1:=hB2.cell1;have hds:=hB.small;by_cases hlt:k<D.length
      .obtain⟨gb,adW,rfl,hbl,hbc,zh⟩:=hB2.uV hlt
       obtain⟨gn,Ue,L,R,rfl,hnl,hnc,hL,hR,Ai,Ah⟩:=hB2.qW hlt;by_cases e1:(aZ.born (vl D k):Int)=eH D (l++r)
       .have hb1:((aZ.born (vl D k):Int)== eH D (l++r))=true:=by simp[e1]
        clear e1 hc hc' hI jh zT;cases hs1:tN (bV (D[k]).1) (jf (bV l))with
        |false=>
         have Ap:=aI hs1;go_wp2_with (first|(go_at_call 152;refine(lJ _ _ _ _ _ (by with_reducible first|exact j5 Ai _|exact j5 Ah _) (by with_reducible first|exact j5 hI1 _|exact j5 hI2 _)).mono ?_;rintro e w1 ⟨he,n1,rfl⟩;rw[hs1]at he;subst he))
         go_roundw
         case rel=>exact⟨k+1,by omega,by go_num,⟨_,rfl⟩,Bg hlt HN (λhe=>by have h:=Ap.out;rw[he,<-jL]at h;simp[tN]at h)⟩
         case measure=>simp[intOf];omega
        |true=>
         cases hs2:tN (bV (D[k]).2) (jf (bV r))with
         |false=>
          have HS2:=aI hs2;go_wp2_with (first|(go_at_call 152;refine(lJ _ _ _ _ _ (by with_reducible first|exact j5 Ai _|exact j5 Ah _) (by with_reducible first|exact j5 hI1 _|exact j5 hI2 _)).mono ?_;rintro e w1 ⟨he,n1,rfl⟩;(first|rw[hs1]at he|rw[hs2]at he);subst he))
          go_roundw
          case rel=>exact⟨k+1,by omega,by go_num,⟨_,rfl⟩,Bg hlt HN (λhe=>by have h:=HS2.out;rw[he,<-jL]at h;simp[tN]at h)⟩
          case measure=>simp[intOf];omega
         |true=>
          have Ap:=aI hs1;have HS2:=aI hs2;go_wp2_with (first|(go_at_call 152;refine(lJ _ _ _ _ _ (by with_reducible first|exact j5 Ai _|exact j5 Ah _) (by with_reducible first|exact j5 hI1 _|exact j5 hI2 _)).mono ?_;rintro e w1 ⟨he,n1,rfl⟩;(first|rw[hs1]at he|rw[hs2]at he);subst he))
          go_ret
          have e1:(D[k]).1=aS l:=(by have h:=Ap.out;rw[jL]at h;exact MH (of_decide_eq_true h));have e2:(D[k]).2=aS r:=(by have h:=HS2.out;rw[jL]at h;exact MH (of_decide_eq_true h));exact⟨_,_,D,k,rfl,hB2.ext (dz ⟨_,rfl⟩),iM (dG hE _),λb h=>.inl h,λb h=>.inl (fw.back hB (dG hE _) h),by rw[ae hlt,<-e1,<-e2],.inl rfl⟩
       .have hb1:((aZ.born (vl D k):Int)== eH D (l++r))=false:=by simp[e1]
        have E1:=aI e1;clear e1;go_wp2
        go_roundw
        case rel=>exact⟨k+1,by omega,by go_num,⟨_,rfl⟩,Bg hlt HN (λhe=>E1.out (OA hB.good.wf hlt he hl hr))⟩
        case measure=>simp[intOf];omega
      .have hkd:k=D.length:=by omega
       subst hkd;obtain⟨xs,hown,SC⟩:=hB2.nodes;obtain⟨an,cn,rfl,hn1,hn2⟩:=bu hown;obtain⟨ab,cb,rfl,hb1,hb2⟩:=bu hB2.born;have LG:=aI hI1;have hwo:=zT.size;have ahu:=aI hI2;have hB':=aI hB;have hB2':=aI hB2;have Xc:=aI SC;obtain⟨al,cl,rfl,hl1,hl2,hl3⟩:=hI1;obtain⟨ar,cr,rfl,hr1,hr2,hr3⟩:=hI2;have hfr:=hB2.free;have hlt:=hB2.lt;have ha1:=hB2.kD;obtain⟨iN,hiN,zN0,zN1,zN2⟩:=info_parts zb;obtain⟨i0,hi,hz0,hz1,hz2⟩:=info_parts fB;clear hc hc' hI jh zT hl3 hr3 hB hB2 SC;have hown0:=(own_drewN hown n).alloc (.cells #[.slice al (jf (bV l)).length cl,.slice ar (jf (bV r)).length cr] 91);have hbk:=hB2'.out.born;have HB:=aI (show(wp.drewN n).ownsRow 0 3 1 (.slice ab D.length cb) D.length _ from hbk);have HO:=aI hown0;have HP0:=aI (aQ (w:=wp.drewN n) hp0);have HP1:=aI (aQ (w:=wp.drewN n) hp1);have Yi:=aI (λo X=>(tF (w:=wp.drewN n) (a:=⟨pb,o,none⟩) X hlt).trans (hfr o));have ha2:=hB2'.out.mJ;have ha3:=hB2'.out.mI;have hown':=hown;clear hown0 hbk hfr
       go_wp2_with (first
        |(at_builtin;refine dm rfl (.tmp 112) (.tmp 116) 28 rfl 0 91 iN (.agg #[.slice none 0 0,.slice none 0 0]) 2 48 underlying28 hiN zN0 zN1 zN2 rfl (by decide) (.slice an D.length cn) D.length xs rfl HO.out (some ⟨wp.heap.size,0,none⟩) 1 _ [.slice al (jf (bV l)).length cl,.slice ar (jf (bV r)).length cr] rfl rfl (.inr ⟨_,rfl,Au (w:=wp.drewN n)⟩) xC (by unfold maxLen;omega) (by omega) (az _) ?_
          intro v1 w1 ho1 hg1 hl1;obtain⟨q1,q2,q3,q4,q5,q6⟩:=Rf hB2'.out hg1;obtain⟨a1,c1,rfl,g1,g2⟩:=bu ho1)
        |(at_builtin;refine dm rfl (.tmp 124) (.tmp 126) 41 rfl 0 3 i0 (.int .i64 0) 1 8 underlying41 hi hz0 hz1 hz2 rfl (by decide) (.slice ab D.length cb) D.length ((D.mapIdx λi _=>(aZ.born (vl D i):Int)).map (Value.int .i64)) rfl ((ownsRow_setCell_other q6 ha2 _).alloc _) _ 1 _ [.int .i64 (eH D (l++r))] rfl rfl (.inr ⟨_,rfl,dA (rZ _ _ _ _ _)⟩) one_cell (by unfold maxLen;omega) (by omega) (az _) ?_
          intro v2 w2 ho2 hg2 hl2;obtain⟨r1,r2,r3⟩:=Re q2 q4 q1 ha2 hg2;obtain⟨a2,c2,rfl,g3,g4⟩:=bu ho2))
       go_ret
       exact Wl hB'.out hE hown' Xc.out hg1 ho1 hl1 hg2 ho2 hl2 (by rw[<-jL];exact LG.out) (by rw[<-jL];exact ahu.out) (λb hb=>⟨(HF.out b hb).1,aJ (HF.out b hb).2 hwo⟩) HF2.out hl hr HN.out hroom
