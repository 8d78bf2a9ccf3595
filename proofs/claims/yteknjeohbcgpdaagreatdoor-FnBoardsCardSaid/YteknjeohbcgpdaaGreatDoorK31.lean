/-
  Contract of the program's load: the games of a form, taken into a pool. (2 texts.)
-/
import Derived.Test.YteknjeohbcgpdaaGreatDoorK30
set_option maxRecDepth 100000
namespace Go.Proofs.YteknjeohbcgpdaaGreatDoor
open Tryz
section
open Go.RowKit
open bO (dH Nd Gm vl Same ng)
variable {G:Nat->Prop} {pp h:Nat} {s s' s0:iH} {w w' wr w2 wa:World} {lv rv:Value} {L R:List Nat}
theorem dX.up{F:Nat->Prop}{a b:World}(h:dX F a b)(k:∀x,F x->G x):dX G a b:=⟨h.os,h.tape,h.output,h.size,λb hb hn=>h.block b hb λc=>hn (k b c)⟩
structure PI(pp h:Nat)(s:iH)(w:World)(s':iH)(w':World):Prop where
 pool:dz w' pp h s'
 keep:dX (λb=>jN pp h s b\/b=h+1+1+1+1) w w'
 own:∀b,jN pp h s' b->jN pp h s b\/w.heap.size<=b
 old:∀b,s.S b->s'.S b
 lists:∀b,s'.S b->s.S b\/w.heap.size<=b
 more:∃E,s'.D=s.D++E
theorem jK.n(k:jK pp h s w s' w'):PI pp h s w s' w':=⟨k.pool,k.keep.up λ_ h=>.inl h,k.own,k.old,k.lists,k.more⟩
theorem PI.trans{w1 w2 w3:World}{pp h:Nat}{s1 s2 s3:iH}(k:PI pp h s1 w1 s2 w2)(m:PI pp h s2 w2 s3 w3):PI pp h s1 w1 s3 w3:=by
 have hz:=k.keep.size;refine⟨m.pool,k.keep.trans m.keep (λx hx hi=>by
  rcases hi with hi|hi
  .rcases k.own x hi with h|h
   .exact .inl h
   .omega
  .exact .inr hi),λx hx=>?_,λb hb=>m.old b (k.old b hb),λx hx=>?_,?_⟩
 .rcases m.own x hx with h1|h1
  .exact k.own x h1
  .exact .inr (by omega)
 .rcases m.lists x hx with h1|h1
  .exact k.lists x h1
  .exact .inr (by omega)
 .obtain⟨E,h1⟩:=k.more
  obtain⟨E',h2⟩:=m.more;exact⟨E++E',by rw[h2,h1,dA]⟩
theorem PI.len(k:PI pp h s w s' w'):s.D.length<=s'.D.length:=by obtain⟨E,h⟩:=k.more;rw[h];simp
theorem PI.vl{w w':World}{pp h:Nat}{s s':iH}(k:PI pp h s w s' w')(hw:bO.WF s.D){i:Nat}(hi:i<s.D.length):vl s'.D i=vl s.D i:=by
 obtain⟨E,h⟩:=k.more;have hg:=k.pool.good.wf;rw[h]at hg ⊢;exact bO.ik hw hg i hi
theorem PI.sup{A:World->Prop}(a:nN s0.S A w)(k:PI pp h s w s' w')(hP:dz w pp h s)(ho:∀b,s0.S b->s.S b):nN s0.S A w':=
 a.keep k.keep λb hb=>by
  rintro(c|c)
  .exact hP.ap5 b (ho b hb) c
  .have:=hP.ap6 b (ho b hb);omega
structure jX(pp h:Nat)(s:iH)(w wr:World)(lv rv:Value)(L R:List Nat):Prop where
 l:wr.ownsRow w.heap.size 3 1 lv L.length ((dD L).map (Value.int .i64))
 r:wr.ownsRow w.heap.size 3 1 rv R.length ((dD R).map (Value.int .i64))
 ap:∀b,lv.ownBlock=some b->rv.ownBlock≠some b
 wh:LJ pp h s wr (λb=>lv.ownBlock=some b\/rv.ownBlock=some b)
theorem jX.swap(m:jX pp h s w wr lv rv L R):jX pp h s w wr rv lv R L:=
 ⟨m.r,m.l,λb h1 h2=>m.ap b h2 h1,λb hb=>m.wh b (hb.symm)⟩
theorem jX.keep(m:jX pp h s w wr lv rv L R)(hk:dX G wr w2)(hG:∀b,lv.ownBlock=some b\/rv.ownBlock=some b->¬G b)
 (hc:LJ pp h s' w2 (λb=>lv.ownBlock=some b\/rv.ownBlock=some b)):jX pp h s' w w2 lv rv L R:=
 ⟨bI m.l hk (λb hb=>hG b (.inl hb)),bI m.r hk (λb hb=>hG b (.inr hb)),m.ap,hc⟩
theorem jX.ext{pp h:Nat}{s:iH}{w wr w2:World}{lv rv:Value}{L R:List Nat}(m:jX pp h s w wr lv rv L R)(hx:Ext wr w2):jX pp h s w w2 lv rv L R:=
 m.keep (fq (F:=λ_=>False) hx) (λ_ _=>id) (m.wh.ext hx)
theorem jX.lo(m:jX pp h s w wr lv rv L R){b:Nat}(hb:lv.ownBlock=some b\/rv.ownBlock=some b):w.heap.size<=b:=by
 rcases hb with hb|hb
 .exact(m.l.lt b hb).1
 .exact(m.r.lt b hb).1
theorem jX.go(m:jX pp h s w wr lv rv L R)(hh:h+1+1+1+1<w.heap.size)(g:PI pp h s wr s' w2):jX pp h s' w w2 lv rv L R:=by
 have hz:=g.keep.size;refine m.keep g.keep (λb hb=>?_) (λb hb=>?_)
 .rintro(c|c)
  .exact(m.wh b hb).2.1 c
  .have:=m.lo hb;omega
 .obtain⟨c1,c2,c3⟩:=m.wh b hb
  refine⟨by omega,λc=>?_,λc=>?_⟩
  .rcases g.own b c with c|c
   .exact c2 c
   .omega
  .rcases g.lists b c with c|c
   .exact c3 c
   .omega
theorem jX.push{Yx:Value}{news:List Nat}{n:Nat}{ys:List Value}(m:jX pp h s w wr lv rv L R)(hP:dz wr pp h s)(hx:Ext wr wa)(hg:wa.grownBy w2 lv.ownBlock)
 (ho:w2.ownsRow w.heap.size 3 1 Yx n ys) (hn:n=(L++news).length) (hy:ys=(dD (L++news)).map (Value.int .i64)) (hl:kR wa lv Yx):jX pp h s w w2 Yx rv (L++news) R:=by
 have hz:=hx.size;have hz2:=hg.size;have hL:∀b,Yx.ownBlock=some b->lv.ownBlock=some b\/wr.heap.size<=b:=λb hb=>by
  rcases hl with e|⟨g,e,k⟩
  .exact .inl (e ▸ hb)
  .rw[e]at hb;injection hb with hb;exact .inr (by omega)
 have m1:=m.ext hx;have hkg:=fH hg;have hcm:=m.wh;refine⟨GL ho hn hy,bI m1.r hkg (λb hb hq=>m.ap b hq hb),λb hb hc=>?_,λb hb=>?_⟩
 .rcases hL b hb with h1|h1
  .exact m.ap b h1 hc
  .have:=(hcm b (.inr hc)).1;omega
 .have hlt:=ho.lt
  rcases hb with hb|hb
  .refine⟨(hlt b hb).2,?_⟩
   rcases hL b hb with h1|h1
   .exact(hcm b (.inl h1)).2
   .exact hP.new h1
  .have:=hcm b (.inr hb);exact⟨by omega,this.2⟩
theorem jX.side(m:jX pp h s w wr lv rv L R)(g:PI pp h s0 w s wr)(hx:Ext wr wa)(hg:wa.grownBy w2 lv.ownBlock):PI pp h s0 w s w2:=by
 have hkg:=fH hg;have hz:=hx.size;have hP:=g.pool.ext hx;refine⟨hP.keep hkg (λb hb hc=>(m.wh b (.inl hc)).2.1 hb) (λb hb hc=>(m.wh b (.inl hc)).2.2 hb),?_,g.own,g.old,g.lists,g.more⟩;have k1:=(g.keep.trans (fq (F:=λ_=>False) hx) (λ_ _ h=>h.elim)).trans hkg (G:=λb=>lv.ownBlock=some b) (λx hx hc=>by have:=m.lo (.inl hc);omega);exact k1
theorem dz.c7(k:dz w pp h s):w.cell? ⟨pp,7,none⟩=some (.map (some (h+1+1+1+1))):=cell_of_row w pp 7 _ _ _ k.box
end
section
open Go.RowKit
open bO (dH Nd Gm vl Same)
variable {pp h k i x:Nat} {s:iH} {w:World} {F D:dH} {L:List Nat}
structure pQ(D F:dH)(L:List Nat)(k:Nat):Prop where
 len:L.length=k
 at_:∀j (h:j<L.length),L[j]<D.length/\Same (vl D L[j]) (vl F j)
theorem pQ.nil(D F:dH):pQ D F [] 0:=⟨rfl,λj h=>absurd h (by simp)⟩
theorem pQ.go{s':iH}{w':World}(n:pQ s.D F L k)(hw:bO.WF s.D)(g:jK pp h s w s' w'):pQ s'.D F L k:=by
 refine⟨n.len,λj h=>?_⟩;obtain⟨h1,h2⟩:=n.at_ j h;have:=g.len;exact⟨by omega,by rw[g.vl hw h1];exact h2⟩
theorem pQ.next(n:pQ D F L k)(hi:i<D.length)(hs:Same (vl D i) (vl F k)):pQ D F (L++[i]) (k+1):=by
 refine⟨by simp[n.len],λj h=>?_⟩;have hl:=n.len;by_cases c:j<L.length
 .rw[dw c];exact n.at_ j c
 .have e:j=k:=by simp at h;omega
  subst e;rw[dU (by omega)];simp only[List.getElem_singleton];exact⟨hi,hs⟩
theorem pQ.get(n:pQ D F L k)(hx:x<k):∃h:x<L.length,L[x]=L.getD x 0:=by
 have hl:=n.len;exact⟨by omega,by rw[aj,aa (by omega)];rfl⟩
theorem pQ.opt(n:pQ D F L k)(hx:x<k):L.getD x 0<D.length/\Same (vl D (L.getD x 0)) (vl F x):=by
 obtain⟨h,e⟩:=n.get hx;rw[<-e];exact n.at_ x h
theorem Qa{f g:Nat->Gm}{l r:List Nat}(hl:∀x,x∈l->Same (f x) (g x))(hr:∀x,x∈r->Same (f x) (g x)):Same (.mk (l.map f) (r.map f)) (.mk (l.map g) (r.map g)):=by
 rw[bO.same_iff];simp only[Gm.l,Gm.r];refine⟨λy hy=>?_,λy hy=>?_,λy hy=>?_,λy hy=>?_⟩
 .obtain⟨x,hx,rfl⟩:=aH.1 hy;exact⟨_,bE hx,hl x hx⟩
 .obtain⟨x,hx,rfl⟩:=aH.1 hy;exact⟨_,bE hx,hl x hx⟩
 .obtain⟨x,hx,rfl⟩:=aH.1 hy;exact⟨_,bE hx,hr x hx⟩
 .obtain⟨x,hx,rfl⟩:=aH.1 hy;exact⟨_,bE hx,hr x hx⟩
theorem QE{D':dH}(hD:bO.WF D)(hD':bO.WF D')(hF:bO.WF F)(hk:k<F.length)(n:pQ D F L k)(p:jm D ((F[k]).1.map λx=>L.getD x 0) ((F[k]).2.map λx=>L.getD x 0) D' i):Same (vl D' i) (vl F k):=by
 have dk:F[k]?=some F[k]:=aa hk;obtain⟨w1,w2⟩:=hF k _ dk;rw[bO.nT hD' p.1,bO.nT hF dk];refine bO.gU (Ag (c:=(((F[k]).1.map λx=>L.getD x 0).map (vl D'))) (d:=(((F[k]).2.map λx=>L.getD x 0).map (vl D'))) (λy=>by simp only[aH,bZ]) (λy=>by simp only[aH,bZ])) ?_;rw[gM,gM];refine Qa (λx hx=>?_) (λx hx=>?_)
 .obtain⟨h1,h2⟩:=n.opt (w1 x hx)
  show Same (vl D' (L.getD x 0)) _;rw[p.vl hD hD' h1];exact h2
 .obtain⟨h1,h2⟩:=n.opt (w2 x hx)
  show Same (vl D' (L.getD x 0)) _;rw[p.vl hD hD' h1];exact h2
def Xd(pp h:Nat)(s:iH)(F:dH)(w0 w:World)(e:Ending)(w':World):Prop:=
 ∃s' v' L,e=.returned v'/\w'.ownsRow w.heap.size 3 1 v' L.length ((dD L).map (Value.int .i64))/\jK pp h s w s' w'/\pQ s'.D F L F.length/\s'.D.length<=s.D.length+F.length/\Ext w0 w'/\(∀b,jN pp h s' b->w0.heap.size<=b)
theorem MF(hP:dz w pp h s)(n:Nat)(hn:n<=1000000)(X:Obj):jX pp h s w ((w.alloc X).alloc (.cells (madeCells #[Value.int .i64 0] n) 3)) (.slice (some ⟨w.heap.size+1,0,none⟩) 0 n) (.slice none 0 0) [] []:=by
 have z1:(w.alloc X).heap.size=w.heap.size+1:=eQ _ _;have z2:((w.alloc X).alloc (.cells (madeCells #[Value.int .i64 0] n) 3)).heap.size=w.heap.size+1+1:=by rw[eQ,z1]
 have hb:=heap_alloc_new (w.alloc X) (.cells (madeCells #[Value.int .i64 0] n) 3);rw[z1]at hb;refine⟨⟨by simp[dD],.inr ⟨w.heap.size+1,n,madeCells #[Value.int .i64 0] n,rfl,by omega,hb,aJ _,by unfold maxLen;omega,by rw[size_madeCells];simp,by simp[dD]⟩⟩,⟨by simp[dD],.inl ⟨rfl,rfl⟩⟩,?_,?_⟩
 .intro b hb hc;simp[Value.ownBlock]at hc
 .intro b hb
  have:b=w.heap.size+1:=by
   rcases hb with hb|hb
   .simp[Value.ownBlock]at hb;exact hb.symm
   .simp[Value.ownBlock]at hb
  exact⟨by omega,hP.new (by omega)⟩
def Tk:List Row:=[⟨0,[],20,[5]⟩,⟨1,[],21,[0]⟩,⟨2,[],22,[7]⟩,⟨3,[2],23,[21]⟩,⟨4,[],24,[5]⟩,⟨5,[3,4],25,[22,23]⟩,⟨6,[],26,[7]⟩,⟨7,[6],27,[25]⟩,⟨8,[],28,[5]⟩,⟨9,[7,8,5],29,[26,27]⟩,⟨10,[1,5,9,9],30,[20,24,28]⟩,⟨11,[10],31,[29]⟩,⟨12,[0,11,10],32,[19,30]⟩,⟨13,[12,12,0,1,2,3,4,5,6,7,8,9,10,11,12],6,[31]⟩]
set_option maxHeartbeats 4000000 in
theorem Uk(pp h:Nat)(s:iH)(vf:Value)(F:dH)(w0 w:World)(hf:fu w0 0 vf F)(hF:bO.WF F)(hA:∀x,x∈F->x.1.length<=1000000/\x.2.length<=1000000)(hx:Ext w0 w)(hP:dz w pp h s)(hb0:∀b,jN pp h s b->w0.heap.size<=b)(IU:s.D.length+F.length<=900000):
 Calls prog 120 #[.pointer (some ⟨pp,0,none⟩),.agg #[vf]] w (Xd pp h s F w0 w):=by
 obtain⟨i0,hi0,hz0,hz1,hz2⟩:=info_parts iw;obtain⟨aF,iF,rfl,hcap,p8,-⟩:=id hf;have hh5:h+1+1+1+1<w.heap.size:=hP.mY (by omega);have hx1:Ext w ((w.alloc (.cells #[.slice aF F.length iF] 28)).alloc (.cells (madeCells #[Value.int .i64 0] F.length) 3)):=by go_grown
 have hm0:=MF hP F.length (by omega) (.cells #[.slice aF F.length iF] 28);have hbx:=cell_of_row (w.alloc (.cells #[.slice aF F.length iF] 28)) w.heap.size 0 _ _ _ (heap_alloc_new w _);have Nf:((w.alloc (.cells #[.slice aF F.length iF] 28)).alloc (.cells (madeCells #[Value.int .i64 0] F.length) 3)).cell? ⟨w.heap.size,0,none⟩=some (.slice aF F.length iF):=bK hbx _;have hmk:=λw:World=>run_make (P:=prog) w 80 3 i0 (.int .i64 0) underlying80 hi0 hz0 .i64 .i64 (0:Int) (F.length:Int) (by omega) (by omega) (by rw[hz2];omega) (by omega)
 simp only[hz1,dP,Int.toNat_zero,jZ]at hmk;go_enter Tryz.func120,Tryz.ntmps120
 go_upto_region 2 with fail
 generalize (w.alloc (.cells #[.slice aF F.length iF] 28)).alloc (.cells (madeCells #[Value.int .i64 0] F.length) 3)=W0 at *;clear hmk hbx;have vS:jK pp h s w s W0:=jK.refl hP hx1;have hE0:=ax hx hx1;go_wp2
 go_loopw [5,7,15] (λlv _ ii wr=>∃(k:Nat) (s1:iH) (L:List Nat),k<=F.length/\ii=.int .i64 ((k:Nat):Int)/\jK pp h s w s1 wr/\Ext w0 wr/\Hid (∀b,jN pp h s1 b->w0.heap.size<=b)/\jX pp h s1 w wr lv (.slice none 0 0) L []/\Hid (pQ s1.D F L k)/\Hid (s1.D.length<=s.D.length+k)) (λ_ _ ii _=>F.length-(intOf ii).toNat)
 case atStart=>exact⟨0,s,[],aJ _,rfl,vS,hE0,aQ hb0,hm0,aQ (pQ.nil _ _),aQ (ay _)⟩
 case round=>
  clear vS hE0 hm0 hx1 Nf;obtain⟨k,s1,L,hk,rfl,hgo,hE,HB,hmm,HL,HD⟩:=hrel;have oH:L.length=k:=HL.out.len;by_cases hlt:k<F.length
  .have h1:((k:Nat):Int)<((F.length:Nat):Int):=by omega
   obtain⟨bF,cF,aL,cL,aR,cR,he,O8,cl,cr,F4,FZ⟩:=hf.at hlt;simp only[Value.slice.injEq]at he;obtain⟨rfl,-,rfl⟩:=he;have cl':=(hE.cell (lt_of_cell cl)).trans cl;have LC:=(hE.cell (lt_of_cell cr)).trans cr;have HF:=aQ hf;clear cl cr hf;have dk:F[k]?=some F[k]:=aa hlt;obtain⟨Sr,Sq⟩:=hF k _ dk;obtain⟨al1,al2⟩:=hA _ (ai hlt);obtain⟨aq,cq,rfl,hqc,_⟩:=bH hmm.l;have UB:Ext wr (wr.alloc (.cells #[.slice aL (F[k]).1.length cL,.slice aR (F[k]).2.length cR] 89)):=(by go_grown);have hbW:=heap_alloc_new wr (.cells #[.slice aL (F[k]).1.length cL,.slice aR (F[k]).2.length cR] 89);have aaF:∀x,x∈(F[k]).1->∃h:x<L.length,L[x]=L.getD x 0:=λx hx=>HL.out.get (Sr x hx)
   have aaE:∀x,x∈(F[k]).2->∃h:x<L.length,L[x]=L.getD x 0:=λx hx=>HL.out.get (Sq x hx)
   have hm1:∀x,x∈((F[k]).1.map λx=>L.getD x 0)->x<s1.D.length:=λx hx=>by
    obtain⟨y,hy,rfl⟩:=aH.1 hx;exact(HL.out.opt (Sr y hy)).1
   have hm2:∀x,x∈((F[k]).2.map λx=>L.getD x 0)->x<s1.D.length:=λx hx=>by
    obtain⟨y,hy,rfl⟩:=aH.1 hx;exact(HL.out.opt (Sq y hy)).1
   have HI:=aQ (And.intro (F4.ext hE) (FZ.ext hE));have HR:=aQ (And.intro aaF aaE);have PM:=aQ (And.intro hm1 hm2);have yj:=aQ (And.intro al1 al2);have hnb:wr.heap.size<(wr.alloc (.cells #[.slice aL (F[k]).1.length cL,.slice aR (F[k]).2.length cR] 89)).heap.size:=bu hbW;have hwl:=hgo.keep.size;have HQ:=aQ oH;clear aaF aaE hm1 hm2 al1 al2 Sr Sq F4 FZ oH;go_upto_region 5 with fail
   generalize wr.alloc (.cells #[.slice aL (F[k]).1.length cL,.slice aR (F[k]).2.length cR] 89)=W at *;have c0:=cell_of_row W wr.heap.size 0 _ _ _ hbW;have c1:=cell_of_row W wr.heap.size 1 _ _ _ hbW;simp only[gE]at c0 c1;refine bV (λV=>V.cell? ⟨wr.heap.size,0,none⟩=some (.slice aL (F[k]).1.length cL)/\V.cell? ⟨wr.heap.size,1,none⟩=some (.slice aR (F[k]).2.length cR)) [13] Tk (by kernel_rfl) ⟨by kernel_rfl,by kernel_rfl,by kernel_rfl⟩ ⟨c0,c1⟩ (λaz ah=>?_);(refine bT 0 az ah ?_;refine bT 1 az ah ?_;refine bT 2 az ah ?_;refine bT 3 az ah ?_;refine bT 4 az ah ?_;refine bT 6 az ah ?_;refine bT 7 az ah ?_;refine bT 8 az ah ?_);(refine nM az (i:=5) λK hK=>?_;go_simp);refine(Br _ _ (F[k]).1 L (λx=>L.getD x 0) _ (HI.out.1.ext (ax UB (eU ⟨1,rfl⟩))) (Ints.eD (hmm.ext (ax UB (eU ⟨1,rfl⟩))).l (by rw[bJ];have:=HQ.out;omega)) yj.out.1 HR.out.1).mono ?_;rintro e w4 ⟨v4,rfl,yJ,hx4⟩;have abV:=ax (ax UB (eU ⟨1,rfl⟩)) hx4;have hn4:wr.heap.size<w4.heap.size:=bz hnb hx4.size;have d0:w4.cell? ⟨wr.heap.size,0,none⟩=some (.slice aL (F[k]).1.length cL):=(hx4.cell (lt_of_cell c0)).trans c0;have d1:w4.cell? ⟨wr.heap.size,1,none⟩=some (.slice aR (F[k]).2.length cR):=(hx4.cell (lt_of_cell c1)).trans c1;(refine hK.out _ _ (λ_=>?_) ?_)
   .exact⟨d0,d1⟩
   clear hK K;(try simp only[nP]);(refine nM az (i:=9) λK hK=>?_;go_simp);refine(Br _ _ (F[k]).2 L (λx=>L.getD x 0) _ (HI.out.2.ext abV) (Ints.eD (hmm.ext abV).l (by rw[bJ];have:=HQ.out;omega)) yj.out.2 HR.out.2).mono ?_;rintro e w5 ⟨v5,rfl,iT,hx5⟩;have UE:=ax abV hx5;have hn5:wr.heap.size<w5.heap.size:=bz hn4 hx5.size;have e0:w5.cell? ⟨wr.heap.size,0,none⟩=some (.slice aL (F[k]).1.length cL):=(hx5.cell (lt_of_cell d0)).trans d0;have e1:w5.cell? ⟨wr.heap.size,1,none⟩=some (.slice aR (F[k]).2.length cR):=(hx5.cell (lt_of_cell d1)).trans d1;(refine hK.out _ _ (λ_=>?_) ?_)
   .exact⟨e0,e1⟩
   clear hK K;(try simp only[nP]);have Hm:=hgo.pool.ext UE;have afg:¬jN pp h s1 wr.heap.size:=(hgo.pool.new (ay _)).1;have hl1:(((F[k]).1.map λx=>L.getD x 0)).length<=1000000:=(by rw[bD];exact yj.out.1);have hl2:(((F[k]).2.map λx=>L.getD x 0)).length<=1000000:=(by rw[bD];exact yj.out.2);(refine nM az (i:=10) λK hK=>?_;go_simp);refine(zk pp h s1 _ _ _ _ w5 Hm (by have:=HD.out;omega) PM.out.1 PM.out.2 hl1 hl2 (Ints.eD (bY yJ hx5) (by rw[bJ];omega)) (Ints.eD iT (by rw[bJ];omega))).mono ?_;rintro e w6 ⟨s2,i,rfl,xI,hp6,hc6⟩;have f0:w6.cell? ⟨wr.heap.size,0,none⟩=some (.slice aL (F[k]).1.length cL):=(World.cell?_of_block (xI.keep.block _ hn5 afg)).trans e0;have f1:w6.cell? ⟨wr.heap.size,1,none⟩=some (.slice aR (F[k]).2.length cR):=(World.cell?_of_block (xI.keep.block _ hn5 afg)).trans e1;(refine hK.out _ _ (λ_=>?_) ?_)
   .exact⟨f0,f1⟩
   clear hK K;(try simp only[nP]);(refine nM az (i:=11) λK hK=>?_;go_simp);(refine hK.out _ _ (λ_=>?_) ?_)
   .exact⟨bK f0 _,bK f1 _⟩
   clear hK K;(try simp only[nP]);have AA:=(hmm.ext UE).go hh5 xI.n;have ap7:=xI.keep.size;have UA:=UE.size;refine nM az (i:=12) λK hK=>?_
   refine gY rfl (.tmp 19) (.tmp 30) 80 rfl w.heap.size 3 i0 (.int .i64 0) 1 8 underlying80 hi0 hz0 hz1 hz2 rfl (by decide) (.slice aq L.length cq) L.length _ rfl (AA.l.alloc _) _ 1 _ [.int .i64 ((i:Nat):Int)] rfl rfl (.inr ⟨_,rfl,dJ (dh _ _ _)⟩) one_cell (by have:=HQ.out;unfold maxLen;omega) (by have:=HQ.out;omega) (by rw[eQ];omega) ?_;intro v9 w9 UZ M7 hl9;obtain⟨x9,y9,rfl,-,-⟩:=bH UZ;have hxa:Ext w6 (w6.alloc (.cells #[.int .i64 ((i:Nat):Int)] 3)):=bS (Below.refl _ _) _;have hkg:=fH M7;have hnl:∀b,(Value.slice aq L.length cq).ownBlock=some b->b≠wr.heap.size:=λb hb e=>by have:=(hmm.wh b (.inl hb)).1;omega
   have g0:w9.cell? ⟨wr.heap.size,0,none⟩=some (.slice aL (F[k]).1.length cL):=(World.cell?_of_block (hkg.block _ (bz (bz hn5 xI.keep.size) hxa.size) (λhb=>hnl _ hb rfl))).trans (bK f0 _);have g1:w9.cell? ⟨wr.heap.size,1,none⟩=some (.slice aR (F[k]).2.length cR):=(World.cell?_of_block (hkg.block _ (bz (bz hn5 xI.keep.size) hxa.size) (λhb=>hnl _ hb rfl))).trans (bK f1 _);(refine hK.out _ _ (λ_=>?_) ?_)
   .exact⟨g0,g1⟩
   clear hK K;(try simp only[nP]);refine nU az [13] [_] ?_;clear az ah;go_wp2
   go_roundw
   case rel=>
    have aj5:=(hgo.ext UE).trans xI;have aj4:=(aj5.ext hxa).side hkg (λb hb=>⟨AA.lo (.inl hb),(AA.wh b (.inl hb)).2⟩);have hB6:∀b,jN pp h s2 b->w0.heap.size<=b:=λb hb=>by
     rcases xI.own b hb with c|c
     .exact HB.out b c
     .have:=hE.size;omega
    have Q4:Ext w0 w6:=kK (ax hE UE) xI.keep (λb hb=>HB.out b hb);have hE9:Ext w0 w9:=kK (ax Q4 hxa) hkg (λb hb=>by have:=AA.lo (.inl hb);have:=hx.size;omega);have hm9:=AA.push (news:=[i]) xI.pool hxa M7 UZ (by simp) (by rw[kT,bG];rfl) hl9;have hln:=hp6.len;have YW:=((HL.out.go hgo.pool.good.wf xI).next hp6.lt (QE hgo.pool.good.wf xI.pool.good.wf hF hlt HL.out hp6));exact⟨k+1,s2,L++[i],by omega,by go_num,aj4,hE9,aQ hB6,hm9,aQ YW,aQ (by have:=HD.out;omega)⟩
   case measure=>simp[intOf];omega
  .have h1:¬(((k:Nat):Int)<((F.length:Nat):Int)):=by omega
   have hke:k=F.length:=(by omega);subst hke;obtain⟨aq,cq,rfl,hqc,_⟩:=bH hmm.l;clear oH;go_wp2
   go_ret
   exact⟨s1,_,L,rfl,hmm.l,hgo,HL.out,HD.out,hE,HB.out⟩
end
end Go.Proofs.YteknjeohbcgpdaaGreatDoor