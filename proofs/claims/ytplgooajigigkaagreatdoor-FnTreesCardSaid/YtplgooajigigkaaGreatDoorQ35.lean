/- 35 -/
import Derived.Test.YtplgooajigigkaaGreatDoorQ34
set_option maxRecDepth 100000
set_option maxHeartbeats 4000000
namespace Go.Proofs.YtplgooajigigkaaGreatDoor
open Tryz
section
open aZ
variable {D F:cZ} {root b j n:Nat} {idx at_ rest from_:List Nat}
structure nO(D:cZ)(root:Nat)(F:cZ)(idx at_:List Nat)(b:Nat)(rest:List Nat):Prop where
 form:mU D root F idx at_ b
 nd:(idx++rest).Nodup
 mem:∀j,j∈idx++rest↔aZ.Reach D root j
 sorted:rest.Pairwise (λx y=>born (vl D x)<=born (vl D y))
 low:∀j,j∈rest->b<=born (vl D j)
theorem mU.Q9{b':Nat}(h:mU D root F idx at_ b)(hb:∀j,aZ.Reach D root j->(born (vl D j)<b↔born (vl D j)<b')):mU D root F idx at_ b':=
 ⟨h.len,h.atl,h.nd,λj=>by rw[h.mem];exact⟨λ⟨a,c⟩=>⟨a,(hb j a).1 c⟩,λ⟨a,c⟩=>⟨a,(hb j a).2 c⟩⟩,h.place,h.node,h.sorted⟩
theorem nO.start{D:cZ}{root:Nat}{L:List Nat}(hn:L.Nodup)(hm:∀j,j∈L↔aZ.Reach D root j)(hs:L.Pairwise (λx y=>born (vl D x)<=born (vl D y))):nO D root [] [] (List.replicate (root+1) 0) 0 L:=
 ⟨mU.start D root,by simpa using hn,by simpa using hm,hs,λ_ _=>az _⟩
theorem nO.stage(h:nO D root F idx at_ b rest)(h0:0<rest.length):nO D root F idx at_ (born (vl D rest[0])) rest:=by
 have hge:∀j,j∈rest->born (vl D rest[0])<=born (vl D j):=λj hj=>by
  obtain⟨i,hi,rfl⟩:=aH.1 hj;by_cases e:i=0
  .subst e;exact ax _
  .exact bP.1 h.sorted 0 i h0 hi (by omega)
 refine⟨h.form.Q9 λj hj=>?_,h.nd,h.mem,h.sorted,hge⟩;have h1:=h.low _ (aj h0);rcases aM.1 ((h.mem j).2 hj)with hm|hm
 .have:=((h.form.mem j).1 hm).2;omega
 .have:=hge j hm;have:=h.low j hm;omega
theorem nO.reach(h:nO D root F idx at_ b rest)(hj:j∈rest):aZ.Reach D root j:=(h.mem j).1 (aM.2 (.inr hj))
theorem nO.opts(g:aZ.Good D)(h:nO D root F idx at_ b rest)(hj:j∈rest)(hb:born (vl D j)=b)(side:Bool):
 (∀x,x∈opt D side j->x∈idx)/\((opt D side j).map λx=>at_.getD x 0).Nodup/\(opt D side j).Nodup:=by
 have hr:=h.reach hj;have hp:=λx hx=>h.form.pos g.wf (side:=side) (x:=x) hr (kQ hb) hx
 have hn:(opt D side j).Nodup:=by
  unfold opt;cases e:D[j]? with
  |none=>exact List.nodup_nil
  |some nd=>
   have ha:=g.yL _ (fq e);cases side
   .exact jN ha.2
   .exact jN ha.1
 refine⟨λx hx=>?_,?_,hn⟩
 .obtain⟨p,hp,e,_⟩:=hp x hx
  rw[<-e];exact aj hp
 .rw[List.Nodup,gP]
  refine fu (λ{a c} ha hc hne e=>?_) hn;obtain⟨p,hp1,e1,e2⟩:=hp a ha;obtain⟨q,hq1,e3,e4⟩:=hp c hc;rw[e2,e4]at e;subst e;exact hne (by rw[<-e1,<-e3])
theorem PR(h:mU D root F idx at_ b){x:Nat}(hx:x∈idx):at_.getD x 0<idx.length:=by
 obtain⟨p,hp,rfl⟩:=aH.1 hx;have:=h.place p hp;rw[aO,this];exact hp
def tq(at_:List Nat)(from_:List Nat)(n root:Nat):List Nat:=(List.range (root+1)).map λy=>if y∈from_ then n+from_.idxOf y else at_.getD y 0
theorem Mg(at_ from_:List Nat)(n root:Nat):(tq at_ from_ n root).length=root+1:=by simp[tq]
theorem Eu(hn:from_.Nodup)(hl:∀y,y∈from_->y<root+1)(j:Nat)(hj:j<from_.length):(tq at_ from_ n root)[from_[j]]?=some (n+j):=by
 have h1:=hl _ (aj hj);unfold tq;rw[bO,List.getElem?_range h1];simp only[eT,aj hj,if_true];rw[hn.idxOf_getElem j hj]
theorem Cu(ha:at_.length=root+1)(y:Nat)(hy:y ∉ from_):(tq at_ from_ n root)[y]?=at_[y]?:=by
 unfold tq;rw[bO];by_cases c:y<root+1
 .rw[List.getElem?_range c]
  simp only[eT,hy,if_false];rw[ae (by omega)];simp[List.getD,show y<at_.length by omega]
 .rw[ic (by simp;omega),ic (by omega)];rfl
theorem nO.next{D:cZ}(g:aZ.Good D){root:Nat}(hroot:root<D.length){F:cZ}{idx at_:List Nat}{b:Nat}{rest from_:List Nat}{q:Nat}(h:nO D root F idx at_ b rest)(hq:q<=rest.length)(hb:∀j (hj:j<rest.length),j<q->born (vl D rest[j])=b)(hq':∀hl:q<rest.length,born (vl D rest[q])≠b)
 (hp:from_.Perm (rest.take q)) (hs:from_.Pairwise (λx y=>¬nc (Xn D at_ y) (Xn D at_ x)<0)):nO D root (F++from_.map (Xn D at_)) (idx++from_) (tq at_ from_ F.length root) (b+1) (rest.drop q)/\from_.Nodup/\(∀y,y∈from_->y<root+1)/\(∀y,y∈from_->y ∉ idx):=by
 have hrd:rest=rest.take q++rest.drop q:=(jw q rest).symm;have hnr:rest.Nodup:=(jq.1 h.nd).2.1;have agX:∀a,a∈idx->∀c,c∈rest->a≠c:=(jq.1 h.nd).2.2;have hfr:∀y,y∈from_->y∈rest:=λy hy=>gy (hp.mem_iff.1 hy)
 have hfb:∀y,y∈from_->born (vl D y)=b:=λy hy=>by
  obtain⟨j,hj,rfl⟩:=aH.1 (hp.mem_iff.1 hy);rw[gZ]at hj;rw[List.getElem_take];exact hb j (by omega) (by omega)
 have hdb:∀y,y∈rest.drop q->b<born (vl D y):=λy hy=>by
  obtain⟨j,hj,rfl⟩:=aH.1 hy;rw[ug]at hj;rw[List.getElem_drop];have Ld:q<rest.length:=by omega
  have h1:=h.low _ (aj Ld);have h2:=hq' Ld;by_cases e:j=0
  .subst e;simp only[Nat.add_zero];omega
  .have:=bP.1 h.sorted q (q+j) Ld (by omega) (by omega);omega
 have hfn:from_.Nodup:=hp.symm.nodup (hnr.sublist (List.take_sublist _ _));have hrt:∀y,y∈from_->y<root+1:=λy hy=>by have:=mf g.wf (h.reach (hfr y hy));omega
 have hlD:∀y,y∈from_->y<D.length:=λy hy=>by have:=hrt y hy;omega
 have hL:vX D root at_ b from_ (root+1):=by
  refine⟨λj=>⟨λhj=>⟨hrt j hj,h.reach (hfr j hj),hfb j hj⟩,λ⟨_,hr,hjb⟩=>?_⟩,?_⟩
  .rcases aM.1 ((h.mem j).2 hr)with hm|hm
   .have:=((h.form.mem j).1 hm).2;omega
   .rw[hrd]at hm
    rcases aM.1 hm with hm|hm
    .exact hp.mem_iff.2 hm
    .have:=hdb j hm;omega
  .refine fu (λ{x y} hx hy hxy=>?_) (hs.and hfn)
   obtain⟨h1,h2⟩:=hxy;have h3:¬nc (Xn D at_ x) (Xn D at_ y)=0:=λe=>h2 (h.form.inj g (h.reach (hfr x hx)) (kQ (hfb x hx)) (h.reach (hfr y hy)) (kQ (hfb y hy)) (hlD x hx) (hlD y hy) (xQ e))
   have h4:=yZ (Xn D at_ x) (Xn D at_ y);omega
 refine⟨⟨h.form.next g hL (Mg _ _ _ _) (λj hj=>Eu hfn hrt j hj) (λy hy=>Cu h.form.atl y hy),?_,λj=>?_,h.sorted.sublist (List.drop_sublist _ _),λj hj=>hdb j hj⟩,hfn,hrt,λy hy hi=>agX y hi y (hfr y hy) rfl⟩
 .have Le:((idx++from_)++rest.drop q).Perm (idx++rest):=by
   rw[dh];refine List.Perm.append_left idx ?_
   conv=>rhs;rw[hrd]
   exact hp.append_right _
  exact Le.symm.nodup h.nd
 .rw[<-h.mem j]
  have Le:((idx++from_)++rest.drop q).Perm (idx++rest):=by
   rw[dh];refine List.Perm.append_left idx ?_
   conv=>rhs;rw[hrd]
   exact hp.append_right _
  exact Le.mem_iff
theorem nO.last{D:cZ}(g:aZ.Good D){root:Nat}(hr:root<D.length){F:cZ}{idx at_:List Nat}{b:Nat}(h:nO D root F idx at_ b []):eD F/\Same (eQ F) (vl D root):=by
 refine mU.last g hr (h.form.Q9 λj hj=>?_);have h1:=(h.mem j).2 hj;rw[gK]at h1;have h2:=((h.form.mem j).1 h1).2;rcases Bc g.wf hj with rfl|h3
 .omega
 .omega
end
section
open Go.RowKit
open aZ (cZ Nd vl)
def En.two(e:En):List Value:=[e.lv,e.rv]
structure OM(w wr:World)(lb lc rb:Nat)(nv gv:Value)(Lc:List Nat)(mr:Nat)(fm:Value->Option Value)(nodes group V:List En):Prop where
 list:wr.ownsRow w.heap.size 3 1 (.slice (some ⟨lb,0,none⟩) Lc.length lc) Lc.length ((bV Lc).map (Value.int .i64))
 rank:fM prog 3 wr rb mr fm
 Vn:w.heap.size<=rb
 node:wr.ownsRow w.heap.size 91 2 nv nodes.length (nodes.flatMap En.two)
 LP:wr.ownsRow w.heap.size 201 3 gv group.length (group.flatMap En.cells)
 uQ:∀e,e∈V->CF w.heap.size wr e
 apart:V.Pairwise (λa b=>∀x,a.blk x->¬b.blk x)
 self:∀e,e∈V->∀b,e.lv.ownBlock=some b->e.rv.ownBlock≠some b
 far:∀e,e∈V->∀x,e.blk x->x≠lb/\x≠rb/\nv.ownBlock≠some x/\gv.ownBlock≠some x
 a1:lb≠rb
 a2:nv.ownBlock≠some lb/\nv.ownBlock≠some rb
 a3:gv.ownBlock≠some lb/\gv.ownBlock≠some rb
 a4:∀b,nv.ownBlock=some b->gv.ownBlock≠some b
 ext:Ext w wr
section
variable {w wr w2 w3 wa:World} {lb lc rb mr:Nat} {nv gv gv' nv':Value} {Lc:List Nat} {fm:Value->Option Value} {nodes group V:List En}
variable {e:En} {n:Nat} {ys:List Value}
theorem CF.ext{base:Nat}(h:CF base wr e)(hx:Ext wr w2):CF base w2 e:=h.keep (iM (F:=λ_=>False) hx) λ_ _=>id
theorem CF.lt{base:Nat}{e:En}(h:CF base wr e){b:Nat}(hb:e.blk b):base<=b/\b<wr.heap.size:=by
 rcases hb with hb|hb
 .exact h.1.lt b hb
 .exact h.2.1.lt b hb
theorem OM.ext'(m:OM w wr lb lc rb nv gv Lc mr fm nodes group V)(hx:Ext wr w2):OM w w2 lb lc rb nv gv Lc mr fm nodes group V:=
 ⟨bW m.list hx,m.rank.keep (hx.block _ m.rank.lt),m.Vn,bW m.node hx,bW m.LP hx,λe he=>(m.uQ e he).ext hx,m.apart,m.self,m.far,m.a1,m.a2,m.a3,m.a4,ah m.ext hx⟩
theorem OM.OW(m:OM w wr lb lc rb nv gv Lc mr fm nodes group V):w.heap.size<=lb/\lb<wr.heap.size:=m.list.lt lb rfl
theorem OM.ahA(m:OM w wr lb lc rb nv gv Lc mr fm nodes group V):OM w (wr.alloc (.cells #[] 201)) lb lc rb nv (.slice (some ⟨wr.heap.size,0,none⟩) 0 0) Lc mr fm nodes [] V:=by
 have hx:Ext wr (wr.alloc (.cells #[] 201)):=bJ (fJ _ _) _;have m1:=m.ext' hx;have hz:=m.ext.size;have hl:=m.OW;have hr:=m.rank.lt;have he:∀e,e∈V->∀x,e.blk x->x<wr.heap.size:=λe he x hx=>((m.uQ e he).lt hx).2
 refine⟨m1.list,m1.rank,m1.Vn,m1.node,?_,m1.uQ,m1.apart,m1.self,λe h x hx=>⟨(m.far e h x hx).1,(m.far e h x hx).2.1,(m.far e h x hx).2.2.1,?_⟩,m.a1,m.a2,⟨?_,?_⟩,λb hb=>?_,m1.ext⟩
 .refine⟨by simp,.inr ⟨wr.heap.size,0,#[],rfl,hz,dV wr _,ax _,az _,by simp,by simp⟩⟩
 .have:=he e h x hx;simp[Value.ownBlock];omega
 .simp[Value.ownBlock];omega
 .simp[Value.ownBlock];omega
 .have:=(m.node.lt b hb).2;simp[Value.ownBlock];omega
theorem OM.aa0(m:OM w wr lb lc rb nv gv Lc mr fm nodes group V)(hx:Ext wr w2)(he:CF wr.heap.size w2 e)(hs:∀b,e.lv.ownBlock=some b->e.rv.ownBlock≠some b):OM w w2 lb lc rb nv gv Lc mr fm nodes group (V++[e]):=by
 have m1:=m.ext' hx;have hz:=m.ext.size;have hl:=m.OW;have hr:=m.rank.lt;have hlt:∀a,a∈V->∀x,a.blk x->x<wr.heap.size:=λa ha x hx=>((m.uQ a ha).lt hx).2
 refine⟨m1.list,m1.rank,m1.Vn,m1.node,m1.LP,λa ha=>?_,?_,λa ha=>?_,λa ha x hx'=>?_,m.a1,m.a2,m.a3,m.a4,m1.ext⟩
 .rcases aM.1 ha with ha|ha
  .exact m1.uQ a ha
  .simp at ha;subst ha;exact⟨jD he.1 hz,jD he.2.1 hz,he.2.2⟩
 .rw[rM]
  refine⟨m.apart,by simp,λa ha b hb x hx1 hx2=>?_⟩;simp at hb;subst hb;have:=hlt a ha x hx1;have:=(he.lt hx2).1;omega
 .rcases aM.1 ha with ha|ha
  .exact m.self a ha
  .simp at ha;subst ha;exact hs
 .rcases aM.1 ha with ha|ha
  .exact m.far a ha x hx'
  .simp at ha;subst ha
   have h1:=(he.lt hx').1;refine⟨by omega,by omega,λe=>?_,λe=>?_⟩
   .have:=(m.node.lt x e).2;omega
   .have:=(m.LP.lt x e).2;omega
theorem OM.ahB(m:OM w wr lb lc rb nv gv Lc mr fm nodes group V)(hx:Ext wr wa)(hg:wa.grownBy w2 gv.ownBlock)(ho:w2.ownsRow w.heap.size 201 3 gv' n ys)(hn:n=(group++[e]).length)(hy:ys=(group++[e]).flatMap En.cells)(hl:lY wa gv gv'):OM w w2 lb lc rb nv gv' Lc mr fm nodes (group++[e]) V:=by
 have m1:=m.ext' hx;have hk:=gN hg;have hz:=hx.size;have hL:∀b,gv'.ownBlock=some b->gv.ownBlock=some b\/wr.heap.size<=b:=λb hb=>by
  rcases hl with e|⟨g,e,k⟩
  .exact .inl (e ▸ hb)
  .rw[e]at hb;injection hb with hb;exact .inr (by omega)
 have hlb:=m.OW;have hr:=m.rank.lt;subst hn hy;refine⟨aV m1.list hk (λb hb e=>m.a3.1 (by simp only[Value.ownBlock,bN]at hb;rw[hb];exact e)),m1.rank.keep (hk.block _ m1.rank.lt (λe=>m.a3.2 e)),m.Vn,aV m1.node hk (λb hb e=>m.a4 b hb e),ho,λa ha=>(m1.uQ a ha).keep hk (λb hb e=>(m.far a ha b hb).2.2.2 e),m.apart,m.self,λa ha x hx'=>⟨(m.far a ha x hx').1,(m.far a ha x hx').2.1,(m.far a ha x hx').2.2.1,λe=>?_⟩,m.a1,m.a2,⟨λe=>?_,λe=>?_⟩,λb hb e=>?_,dw m1.ext hg (λb hb=>(m1.LP.lt b hb).1)⟩
 .rcases hL x e with h|h
  .exact(m.far a ha x hx').2.2.2 h
  .have:=((m.uQ a ha).lt hx').2;omega
 .rcases hL lb e with h|h
  .exact m.a3.1 h
  .omega
 .rcases hL rb e with h|h
  .exact m.a3.2 h
  .omega
 .rcases hL b e with h|h
  .exact m.a4 b hb h
  .have:=(m.node.lt b hb).2;omega
theorem OM.adO{g c:Nat}{G':List En}(m:OM w wr lb lc rb nv (.slice (some ⟨g,0,none⟩) group.length c) Lc mr fm nodes group (nodes++group))(hp:G'.Perm group)(ho:w2.ownsRow w.heap.size 201 3 (.slice (some ⟨g,0,none⟩) group.length c) group.length (G'.flatMap En.cells))(hk:dW (λb=>b=g) wr w2):OM w w2 lb lc rb nv (.slice (some ⟨g,0,none⟩) G'.length c) Lc mr fm nodes G' (nodes++G'):=by
 have hl:=hp.length_eq;have Le:(nodes++G').Perm (nodes++group):=List.Perm.append_left _ hp;have hgb:(Value.slice (some ⟨g,0,none⟩) group.length c).ownBlock=some g:=rfl;have agS:∀e,e∈nodes++group->∀x,e.blk x->¬x=g:=λe he x hx h=>(m.far e he x hx).2.2.2 (by rw[h];rfl)
 have hgw:=(m.LP.lt g rfl);refine⟨aV m.list hk (λb hb e=>?_),m.rank.keep (hk.block _ m.rank.lt (λe=>m.a3.2 (by rw[e];rfl))),m.Vn,aV m.node hk (λb hb e=>m.a4 b hb (by rw[e];rfl)),by rw[hl];exact ho,λe he=>(m.uQ e (Le.mem_iff.1 he)).keep hk (agS e (Le.mem_iff.1 he)),?_,λe he=>m.self e (Le.mem_iff.1 he),λe he=>m.far e (Le.mem_iff.1 he),m.a1,m.a2,m.a3,m.a4,?_⟩
 .simp only[Value.ownBlock,bN]at hb
  exact m.a3.1 (by show some g=some lb;rw[<-e,hb])
 .exact(Le.pairwise_iff (λ{a b} h x hx hy=>h x hy hx)).2 m.apart
 .exact jQ m.ext hk (λx hx=>by omega)
theorem OM.afF(m:OM w wr lb lc rb nv gv Lc mr fm nodes group V){k:Nat}(hk:k<Lc.length)(x:Nat):OM w (wr.setCell ⟨lb,k,none⟩ (.int .i64 (x:Int))) lb lc rb nv gv (Lc.set k x) mr fm nodes group V:=by
 have hs:dW (λb=>b=lb) wr (wr.setCell ⟨lb,k,none⟩ (.int .i64 (x:Int))):=dx (p:=⟨lb,k,none⟩);have hl:=m.OW;refine⟨?_,m.rank.keep (hs.block _ m.rank.lt (λe=>m.a1 e.symm)),m.Vn,aV m.node hs (λb hb e=>m.a2.1 (e ▸ hb)),aV m.LP hs (λb hb e=>m.a3.1 (e ▸ hb)),λe he=>(m.uQ e he).keep hs (λb hb h=>(m.far e he b hb).1 h),m.apart,m.self,m.far,m.a1,m.a2,m.a3,m.a4,jQ m.ext hs (λb hb=>by omega)⟩;have h:=xO (k:=k) m.list hk (x:Int);have e:(bV Lc).set k (x:Int)=bV (Lc.set k x):=by simp[bV,uf]
 rw[e]at h;rw[ql];exact h
theorem OM.aft(m:OM w wr lb lc rb nv gv Lc mr fm nodes group V){XP:Value->Option Value}{mr':Nat}(hM:fM prog 3 w2 rb mr' XP)(hg:wr.grownBy w2 (some rb)):OM w w2 lb lc rb nv gv Lc mr' XP nodes group V:=by
 have hs:=gH hg;have hr:=m.Vn;refine⟨aV m.list hs (λb hb e=>m.a1 (by simp only[Value.ownBlock,bN]at hb;rw[hb];exact e)),hM,m.Vn,aV m.node hs (λb hb e=>m.a2.2 (e ▸ hb)),aV m.LP hs (λb hb e=>m.a3.2 (e ▸ hb)),λe he=>(m.uQ e he).keep hs (λb hb h=>(m.far e he b hb).2.1 h),m.apart,m.self,m.far,m.a1,m.a2,m.a3,m.a4,jQ m.ext hs (λb hb=>by omega)⟩
theorem OM.afD(m:OM w wr lb lc rb nv gv Lc mr fm nodes group V)(hx:Ext wr wa)(hg:wa.grownBy w2 nv.ownBlock)(ho:w2.ownsRow w.heap.size 91 2 nv' n ys)(hn:n=(nodes++[e]).length)(hy:ys=(nodes++[e]).flatMap En.two)(hl:lY wa nv nv'):OM w w2 lb lc rb nv' gv Lc mr fm (nodes++[e]) group V:=by
 have m1:=m.ext' hx;have hk:=gN hg;have hz:=hx.size;have hL:∀b,nv'.ownBlock=some b->nv.ownBlock=some b\/wr.heap.size<=b:=λb hb=>by
  rcases hl with e|⟨g,e,k⟩
  .exact .inl (e ▸ hb)
  .rw[e]at hb;injection hb with hb;exact .inr (by omega)
 have hlb:=m.OW;have hr:=m.rank.lt;subst hn hy;refine⟨aV m1.list hk (λb hb e=>m.a2.1 (by simp only[Value.ownBlock,bN]at hb;rw[hb];exact e)),m1.rank.keep (hk.block _ m1.rank.lt (λe=>m.a2.2 e)),m.Vn,ho,aV m1.LP hk (λb hb e=>m.a4 b e hb),λa ha=>(m1.uQ a ha).keep hk (λb hb e=>(m.far a ha b hb).2.2.1 e),m.apart,m.self,λa ha x hx'=>⟨(m.far a ha x hx').1,(m.far a ha x hx').2.1,λe=>?_,(m.far a ha x hx').2.2.2⟩,m.a1,⟨λe=>?_,λe=>?_⟩,m.a3,λb hb e=>?_,dw m1.ext hg (λb hb=>(m1.node.lt b hb).1)⟩
 .rcases hL x e with h|h
  .exact(m.far a ha x hx').2.2.1 h
  .have:=((m.uQ a ha).lt hx').2;omega
 .rcases hL lb e with h|h
  .exact m.a2.1 h
  .omega
 .rcases hL rb e with h|h
  .exact m.a2.2 h
  .omega
 .rcases hL b hb with h|h
  .exact m.a4 b h e
  .have:=(m.LP.lt b e).2;omega
end
end
