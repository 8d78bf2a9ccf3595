/-
  Contracts of the program's pairs and SumForms, at valid forms. (6 texts.)
-/
import Derived.Test.YteknjeohbcgpdaaGreatDoorK32
import Derived.Test.YteknjeohbcgpdaaGreatDoorK33
import Derived.Test.YteknjeohbcgpdaaGreatDoorK37
import Derived.Test.YteknjeohbcgpdaaGreatDoorK41
set_option maxRecDepth 100000
namespace Go.Proofs.YteknjeohbcgpdaaGreatDoor
open Tryz
section
open Go.RowKit
open bz (dC Nd Gm vl Same ng)
theorem kz.yj{pp h:Nat}{s:iQ}{w wr wa w2:World}{lv rv:Value}{L R:List Nat}{T:Nat->Prop}{A:World->Prop}(m:kz pp h s w wr lv rv L R)(a:oP T A wr)(hT:∀b,T b->s.S b)(hx:Ext wr wa)(hg:wa.grownBy w2 lv.ownBlock):oP T A w2:=
 (a.keep (fV (F:=λ_=>False) hx) (λ_ _=>id)).keep (fD hg) (λb hb hc=>(m.uW b (.inl hc)).2.2 (hT b hb))
end
section
open Go.RowKit
open bz (dC Nd Gm vl Same)
variable {pp h k i x:Nat} {s:iQ} {w:World} {F D:dC} {L:List Nat}
structure pJ(D F:dC)(L:List Nat)(k:Nat):Prop where
 len:L.length=k
 at_:∀j (h:j<L.length),L[j]<D.length/\Same (vl D L[j]) (vl F j)
theorem pJ.nil(D F:dC):pJ D F [] 0:=⟨rfl,λj h=>absurd h (by simp)⟩
theorem pJ.go{s':iQ}{w':World}(n:pJ s.D F L k)(hw:bz.WF s.D)(g:jK pp h s w s' w'):pJ s'.D F L k:=by
 refine⟨n.len,λj h=>?_⟩;obtain⟨h1,h2⟩:=n.at_ j h;have:=g.len;exact⟨by omega,by rw[g.vl hw h1];exact h2⟩
theorem pJ.next(n:pJ D F L k)(hi:i<D.length)(hs:Same (vl D i) (vl F k)):pJ D F (L++[i]) (k+1):=by
 refine⟨by simp[n.len],λj h=>?_⟩;have hl:=n.len;by_cases c:j<L.length
 .rw[dM c];exact n.at_ j c
 .have e:j=k:=by simp at h;omega
  subst e;rw[eB (by omega)];simp only[List.getElem_singleton];exact⟨hi,hs⟩
theorem pJ.get(n:pJ D F L k)(hx:x<k):∃h:x<L.length,L[x]=L.getD x 0:=by
 have hl:=n.len;exact⟨by omega,by rw[aV,aa (by omega)];rfl⟩
theorem pJ.opt(n:pJ D F L k)(hx:x<k):L.getD x 0<D.length/\Same (vl D (L.getD x 0)) (vl F x):=by
 obtain⟨h,e⟩:=n.get hx;rw[<-e];exact n.at_ x h
theorem Oz{f g:Nat->Gm}{l r:List Nat}(hl:∀x,x∈l->Same (f x) (g x))(hr:∀x,x∈r->Same (f x) (g x)):Same (.mk (l.map f) (r.map f)) (.mk (l.map g) (r.map g)):=by
 rw[bz.same_iff];simp only[Gm.l,Gm.r];refine⟨λy hy=>?_,λy hy=>?_,λy hy=>?_,λy hy=>?_⟩
 .obtain⟨x,hx,rfl⟩:=aI.1 hy;exact⟨_,aW hx,hl x hx⟩
 .obtain⟨x,hx,rfl⟩:=aI.1 hy;exact⟨_,aW hx,hl x hx⟩
 .obtain⟨x,hx,rfl⟩:=aI.1 hy;exact⟨_,aW hx,hr x hx⟩
 .obtain⟨x,hx,rfl⟩:=aI.1 hy;exact⟨_,aW hx,hr x hx⟩
theorem O8{D':dC}(hD:bz.WF D)(hD':bz.WF D')(hF:bz.WF F)(hk:k<F.length)(n:pJ D F L k)(p:jo D ((F[k]).1.map λx=>L.getD x 0) ((F[k]).2.map λx=>L.getD x 0) D' i):Same (vl D' i) (vl F k):=by
 have dk:F[k]?=some F[k]:=aa hk;obtain⟨w1,w2⟩:=hF k _ dk;rw[bz.nO hD' p.1,bz.nO hF dk];refine bz.ik (zD (c:=(((F[k]).1.map λx=>L.getD x 0).map (vl D'))) (d:=(((F[k]).2.map λx=>L.getD x 0).map (vl D'))) (λy=>by simp only[aI,bZ]) (λy=>by simp only[aI,bZ])) ?_;rw[jC,jC];refine Oz (λx hx=>?_) (λx hx=>?_)
 .obtain⟨h1,h2⟩:=n.opt (w1 x hx)
  show Same (vl D' (L.getD x 0)) _;rw[p.vl hD hD' h1];exact h2
 .obtain⟨h1,h2⟩:=n.opt (w2 x hx)
  show Same (vl D' (L.getD x 0)) _;rw[p.vl hD hD' h1];exact h2
def UT(pp h:Nat)(s:iQ)(F:dC)(w0 w:World)(e:Ending)(w':World):Prop:=
 ∃s' v' L,e=.returned v'/\w'.ownsRow w.heap.size 3 1 v' L.length ((dx L).map (Value.int .i64))/\jK pp h s w s' w'/\pJ s'.D F L F.length/\s'.D.length<=s.D.length+F.length/\Ext w0 w'/\(∀b,jP pp h s' b->w0.heap.size<=b)
theorem Le(hP:dm w pp h s)(n:Nat)(hn:n<=1000000)(X:Obj):kz pp h s w ((w.alloc X).alloc (.cells (madeCells #[Value.int .i64 0] n) 3)) (.slice (some ⟨w.heap.size+1,0,none⟩) 0 n) (.slice none 0 0) [] []:=by
 have z1:(w.alloc X).heap.size=w.heap.size+1:=fw _ _;have z2:((w.alloc X).alloc (.cells (madeCells #[Value.int .i64 0] n) 3)).heap.size=w.heap.size+1+1:=by rw[fw,z1]
 have hb:=heap_alloc_new (w.alloc X) (.cells (madeCells #[Value.int .i64 0] n) 3);rw[z1]at hb;refine⟨⟨by simp[dx],.inr ⟨w.heap.size+1,n,madeCells #[Value.int .i64 0] n,rfl,by omega,hb,az _,by unfold maxLen;omega,by rw[size_madeCells];simp,by simp[dx]⟩⟩,⟨by simp[dx],.inl ⟨rfl,rfl⟩⟩,?_,?_⟩
 .intro b hb hc;simp[Value.ownBlock]at hc
 .intro b hb
  have:b=w.heap.size+1:=by
   rcases hb with hb|hb
   .simp[Value.ownBlock]at hb;exact hb.symm
   .simp[Value.ownBlock]at hb
  exact⟨by omega,hP.new (by omega)⟩
def Rb:List Row:=[⟨0,[],20,[5]⟩,⟨1,[],21,[0]⟩,⟨2,[],22,[7]⟩,⟨3,[2],23,[21]⟩,⟨4,[],24,[5]⟩,⟨5,[3,4],25,[22,23]⟩,⟨6,[],26,[7]⟩,⟨7,[6],27,[25]⟩,⟨8,[],28,[5]⟩,⟨9,[7,8,5],29,[26,27]⟩,⟨10,[1,5,9,9],30,[20,24,28]⟩,⟨11,[10],31,[29]⟩,⟨12,[0,11,10],32,[19,30]⟩,⟨13,[12,12,0,1,2,3,4,5,6,7,8,9,10,11,12],6,[31]⟩]
set_option maxHeartbeats 4000000 in
theorem RU(pp h:Nat)(s:iQ)(vf:Value)(F:dC)(w0 w:World)(hf:eX w0 0 vf F)(hF:bz.WF F)(hA:∀x,x∈F->x.1.length<=1000000/\x.2.length<=1000000)(hx:Ext w0 w)(hP:dm w pp h s)(hb0:∀b,jP pp h s b->w0.heap.size<=b)(Kg:s.D.length+F.length<=900000):
 Calls prog 120 #[.pointer (some ⟨pp,0,none⟩),.agg #[vf]] w (UT pp h s F w0 w):=by
 obtain⟨i0,hi0,hz0,hz1,hz2⟩:=info_parts iy;obtain⟨aF,iJ,rfl,hcap,xP,-⟩:=id hf;have hh5:h+1+1+1+1<w.heap.size:=hP.ny (by omega);have hx1:Ext w ((w.alloc (.cells #[.slice aF F.length iJ] 28)).alloc (.cells (madeCells #[Value.int .i64 0] F.length) 3)):=by go_grown
 have hm0:=Le hP F.length (by omega) (.cells #[.slice aF F.length iJ] 28);have hbx:=cell_of_row (w.alloc (.cells #[.slice aF F.length iJ] 28)) w.heap.size 0 _ _ _ (heap_alloc_new w _);have Wj:((w.alloc (.cells #[.slice aF F.length iJ] 28)).alloc (.cells (madeCells #[Value.int .i64 0] F.length) 3)).cell? ⟨w.heap.size,0,none⟩=some (.slice aF F.length iJ):=bI hbx _;have hmk:=λw:World=>run_make (P:=prog) w 80 3 i0 (.int .i64 0) underlying80 hi0 hz0 .i64 .i64 (0:Int) (F.length:Int) (by omega) (by omega) (by rw[hz2];omega) (by omega)
 simp only[hz1,kV,Int.toNat_zero,jM]at hmk;go_enter Tryz.func120,Tryz.ntmps120
 go_upto_region 2 with fail
 generalize (w.alloc (.cells #[.slice aF F.length iJ] 28)).alloc (.cells (madeCells #[Value.int .i64 0] F.length) 3)=W0 at *;clear hmk hbx;have uP:jK pp h s w s W0:=jK.refl hP hx1;have hE0:=ay hx hx1;go_wp2
 go_loopw [5,7,15] (λlv _ ii wr=>∃(k:Nat) (s1:iQ) (L:List Nat),k<=F.length/\ii=.int .i64 ((k:Nat):Int)/\jK pp h s w s1 wr/\Ext w0 wr/\Hid (∀b,jP pp h s1 b->w0.heap.size<=b)/\kz pp h s1 w wr lv (.slice none 0 0) L []/\Hid (pJ s1.D F L k)/\Hid (s1.D.length<=s.D.length+k)) (λ_ _ ii _=>F.length-(intOf ii).toNat)
 case atStart=>exact⟨0,s,[],az _,rfl,uP,hE0,aH hb0,hm0,aH (pJ.nil _ _),aH (ai _)⟩
 case round=>
  clear uP hE0 hm0 hx1 Wj;obtain⟨k,s1,L,hk,rfl,hgo,hE,HB,hmm,HL,HD⟩:=hrel;have qU:L.length=k:=HL.out.len;by_cases hlt:k<F.length
  .have h1:((k:Nat):Int)<((F.length:Nat):Int):=by omega
   obtain⟨bF,cF,aL,cL,aR,cR,he,NI,cl,cr,E9,E8⟩:=hf.at hlt;simp only[Value.slice.injEq]at he;obtain⟨rfl,-,rfl⟩:=he;have cl':=(hE.cell (lt_of_cell cl)).trans cl;have NV:=(hE.cell (lt_of_cell cr)).trans cr;have HF:=aH hf;clear cl cr hf;have dk:F[k]?=some F[k]:=aa hlt;obtain⟨QF,QD⟩:=hF k _ dk;obtain⟨al1,al2⟩:=hA _ (ah hlt);obtain⟨aq,cq,rfl,hqc,_⟩:=bD hmm.l;have Sc:Ext wr (wr.alloc (.cells #[.slice aL (F[k]).1.length cL,.slice aR (F[k]).2.length cR] 89)):=(by go_grown);have hbW:=heap_alloc_new wr (.cells #[.slice aL (F[k]).1.length cL,.slice aR (F[k]).2.length cR] 89);have XL:∀x,x∈(F[k]).1->∃h:x<L.length,L[x]=L.getD x 0:=λx hx=>HL.out.get (QF x hx)
   have XK:∀x,x∈(F[k]).2->∃h:x<L.length,L[x]=L.getD x 0:=λx hx=>HL.out.get (QD x hx)
   have hm1:∀x,x∈((F[k]).1.map λx=>L.getD x 0)->x<s1.D.length:=λx hx=>by
    obtain⟨y,hy,rfl⟩:=aI.1 hx;exact(HL.out.opt (QF y hy)).1
   have hm2:∀x,x∈((F[k]).2.map λx=>L.getD x 0)->x<s1.D.length:=λx hx=>by
    obtain⟨y,hy,rfl⟩:=aI.1 hx;exact(HL.out.opt (QD y hy)).1
   have HI:=aH (And.intro (E9.ext hE) (E8.ext hE));have HR:=aH (And.intro XL XK);have DR:=aH (And.intro hm1 hm2);have xB:=aH (And.intro al1 al2);have hnb:wr.heap.size<(wr.alloc (.cells #[.slice aL (F[k]).1.length cL,.slice aR (F[k]).2.length cR] 89)).heap.size:=bG hbW;have hwl:=hgo.keep.size;have HQ:=aH qU;clear XL XK hm1 hm2 al1 al2 QF QD E9 E8 qU;go_upto_region 5 with fail
   generalize wr.alloc (.cells #[.slice aL (F[k]).1.length cL,.slice aR (F[k]).2.length cR] 89)=W at *;have c0:=cell_of_row W wr.heap.size 0 _ _ _ hbW;have c1:=cell_of_row W wr.heap.size 1 _ _ _ hbW;simp only[gE]at c0 c1;refine bW (λV=>V.cell? ⟨wr.heap.size,0,none⟩=some (.slice aL (F[k]).1.length cL)/\V.cell? ⟨wr.heap.size,1,none⟩=some (.slice aR (F[k]).2.length cR)) [13] Rb (by kernel_rfl) ⟨by kernel_rfl,by kernel_rfl,by kernel_rfl⟩ ⟨c0,c1⟩ (λax ae=>?_);(refine bT 0 ax ae ?_;refine bT 1 ax ae ?_;refine bT 2 ax ae ?_;refine bT 3 ax ae ?_;refine bT 4 ax ae ?_;refine bT 6 ax ae ?_;refine bT 7 ax ae ?_;refine bT 8 ax ae ?_);(refine oZ ax (i:=5) λK hK=>?_;go_simp);refine(AB _ _ (F[k]).1 L (λx=>L.getD x 0) _ (HI.out.1.ext (ay Sc (bS ⟨1,rfl⟩))) (Ints.eO (hmm.ext (ay Sc (bS ⟨1,rfl⟩))).l (by rw[bu];have:=HQ.out;omega)) xB.out.1 HR.out.1).mono ?_;rintro e w4 ⟨v4,rfl,He,hx4⟩;have YP:=ay (ay Sc (bS ⟨1,rfl⟩)) hx4;have hn4:wr.heap.size<w4.heap.size:=aQ hnb hx4.size;have d0:w4.cell? ⟨wr.heap.size,0,none⟩=some (.slice aL (F[k]).1.length cL):=(hx4.cell (lt_of_cell c0)).trans c0;have d1:w4.cell? ⟨wr.heap.size,1,none⟩=some (.slice aR (F[k]).2.length cR):=(hx4.cell (lt_of_cell c1)).trans c1;(refine hK.out _ _ (λ_=>?_) ?_)
   .exact⟨d0,d1⟩
   clear hK K;(try simp only[nP]);(refine oZ ax (i:=9) λK hK=>?_;go_simp);refine(AB _ _ (F[k]).2 L (λx=>L.getD x 0) _ (HI.out.2.ext YP) (Ints.eO (hmm.ext YP).l (by rw[bu];have:=HQ.out;omega)) xB.out.2 HR.out.2).mono ?_;rintro e w5 ⟨v5,rfl,fI,hx5⟩;have Sg:=ay YP hx5;have hn5:wr.heap.size<w5.heap.size:=aQ hn4 hx5.size;have e0:w5.cell? ⟨wr.heap.size,0,none⟩=some (.slice aL (F[k]).1.length cL):=(hx5.cell (lt_of_cell d0)).trans d0;have e1:w5.cell? ⟨wr.heap.size,1,none⟩=some (.slice aR (F[k]).2.length cR):=(hx5.cell (lt_of_cell d1)).trans d1;(refine hK.out _ _ (λ_=>?_) ?_)
   .exact⟨e0,e1⟩
   clear hK K;(try simp only[nP]);have Ww:=hgo.pool.ext Sg;have abR:¬jP pp h s1 wr.heap.size:=(hgo.pool.new (ai _)).1;have hl1:(((F[k]).1.map λx=>L.getD x 0)).length<=1000000:=(by rw[aJ];exact xB.out.1);have hl2:(((F[k]).2.map λx=>L.getD x 0)).length<=1000000:=(by rw[aJ];exact xB.out.2);(refine oZ ax (i:=10) λK hK=>?_;go_simp);refine(yF pp h s1 _ _ _ _ w5 Ww (by have:=HD.out;omega) DR.out.1 DR.out.2 hl1 hl2 (Ints.eO (dn He hx5) (by rw[bu];omega)) (Ints.eO fI (by rw[bu];omega))).mono ?_;rintro e w6 ⟨s2,i,rfl,wO,XO,hc6⟩;have f0:w6.cell? ⟨wr.heap.size,0,none⟩=some (.slice aL (F[k]).1.length cL):=(World.cell?_of_block (wO.keep.block _ hn5 abR)).trans e0;have f1:w6.cell? ⟨wr.heap.size,1,none⟩=some (.slice aR (F[k]).2.length cR):=(World.cell?_of_block (wO.keep.block _ hn5 abR)).trans e1;(refine hK.out _ _ (λ_=>?_) ?_)
   .exact⟨f0,f1⟩
   clear hK K;(try simp only[nP]);(refine oZ ax (i:=11) λK hK=>?_;go_simp);(refine hK.out _ _ (λ_=>?_) ?_)
   .exact⟨bI f0 _,bI f1 _⟩
   clear hK K;(try simp only[nP]);have zW:=(hmm.ext Sg).go hh5 wO.n;have alf:=wO.keep.size;have hz5:=Sg.size;refine oZ ax (i:=12) λK hK=>?_
   refine iA rfl (.tmp 19) (.tmp 30) 80 rfl w.heap.size 3 i0 (.int .i64 0) 1 8 underlying80 hi0 hz0 hz1 hz2 rfl (by decide) (.slice aq L.length cq) L.length _ rfl (zW.l.alloc _) _ 1 _ [.int .i64 ((i:Nat):Int)] rfl rfl (.inr ⟨_,rfl,cK (bP _ _ _)⟩) one_cell (by have:=HQ.out;unfold maxLen;omega) (by have:=HQ.out;omega) (by rw[fw];omega) ?_;intro v9 w9 Vb LX Y4;obtain⟨x9,y9,rfl,-,-⟩:=bD Vb;have hxa:Ext w6 (w6.alloc (.cells #[.int .i64 ((i:Nat):Int)] 3)):=bK (Below.refl _ _) _;have hkg:=fD LX;have hnl:∀b,(Value.slice aq L.length cq).ownBlock=some b->b≠wr.heap.size:=λb hb e=>by have:=(hmm.uW b (.inl hb)).1;omega
   have g0:w9.cell? ⟨wr.heap.size,0,none⟩=some (.slice aL (F[k]).1.length cL):=(World.cell?_of_block (hkg.block _ (aQ (aQ hn5 wO.keep.size) hxa.size) (λhb=>hnl _ hb rfl))).trans (bI f0 _);have g1:w9.cell? ⟨wr.heap.size,1,none⟩=some (.slice aR (F[k]).2.length cR):=(World.cell?_of_block (hkg.block _ (aQ (aQ hn5 wO.keep.size) hxa.size) (λhb=>hnl _ hb rfl))).trans (bI f1 _);(refine hK.out _ _ (λ_=>?_) ?_)
   .exact⟨g0,g1⟩
   clear hK K;(try simp only[nP]);refine ow ax [13] [_] ?_;clear ax ae;go_wp2
   go_roundw
   case rel=>
    have afT:=(hgo.ext Sg).trans wO;have afS:=(afT.ext hxa).side hkg (λb hb=>⟨zW.lo (.inl hb),(zW.uW b (.inl hb)).2⟩);have hB6:∀b,jP pp h s2 b->w0.heap.size<=b:=λb hb=>by
     rcases wO.own b hb with c|c
     .exact HB.out b c
     .have:=hE.size;omega
    have Py:Ext w0 w6:=kP (ay hE Sg) wO.keep (λb hb=>HB.out b hb);have hE9:Ext w0 w9:=kP (ay Py hxa) hkg (λb hb=>by have:=zW.lo (.inl hb);have:=hx.size;omega);have hm9:=zW.push (news:=[i]) wO.pool hxa LX Vb (by simp) (by rw[kZ,aU];rfl) Y4;have hln:=XO.len;have Y5:=((HL.out.go hgo.pool.good.wf wO).next XO.lt (O8 hgo.pool.good.wf wO.pool.good.wf hF hlt HL.out XO));exact⟨k+1,s2,L++[i],by omega,by go_num,afS,hE9,aH hB6,hm9,aH Y5,aH (by have:=HD.out;omega)⟩
   case measure=>simp[intOf];omega
  .have h1:¬(((k:Nat):Int)<((F.length:Nat):Int)):=by omega
   have hke:k=F.length:=(by omega);subst hke;obtain⟨aq,cq,rfl,hqc,_⟩:=bD hmm.l;clear qU;go_wp2
   go_ret
   exact⟨s1,_,L,rfl,hmm.l,hgo,HL.out,HD.out,hE,HB.out⟩
end
section
open Go.RowKit
open bz (dC Nd Gm vl Same eu)
def P8(pp h:Nat)(s:iQ)(F:dC)(w0 w:World)(e:Ending)(w':World):Prop:=
 ∃s' j,e=.returned (.int .i64 ((j:Nat):Int))/\j<s'.D.length/\Same (vl s'.D j) (eu F)/\jK pp h s w s' w'/\s'.D.length<=s.D.length+F.length/\Ext w0 w'/\(∀b,jP pp h s' b->w0.heap.size<=b)
set_option maxHeartbeats 4000000 in
theorem zH(pp h:Nat)(s:iQ)(vf:Value)(F:dC)(w0 w:World)(hf:eX w0 0 vf F)(hF:bz.WF F)(hne:0<F.length)(hA:∀x,x∈F->x.1.length<=1000000/\x.2.length<=1000000)(hx:Ext w0 w)(hP:dm w pp h s)(hb0:∀b,jP pp h s b->w0.heap.size<=b)(Kg:s.D.length+F.length<=900000):
 Calls prog 71 #[.pointer (some ⟨pp,0,none⟩),.agg #[vf]] w (P8 pp h s F w0 w):=by
 obtain⟨aF,iJ,rfl,hcap,xP,-⟩:=id hf;have hx1:Ext w (w.alloc (.cells #[.slice aF F.length iJ] 28)):=by go_grown
 have hbx:=cell_of_row (w.alloc (.cells #[.slice aF F.length iJ] 28)) w.heap.size 0 _ _ _ (heap_alloc_new w _);go_enter Tryz.func71,Tryz.ntmps71
 go_upto_region 1 with fail
 have HC:=aH (λV (hV:Ext w V)=>RU pp h s (.slice aF F.length iJ) F w0 V hf hF hA (ay hx hV) (hP.ext hV) hb0 Kg);have uP:∀{s' w1 w2},Ext w w1->jK pp h s w1 s' w2->jK pp h s w s' w2:=λhV g=>(jK.refl hP hV).trans g
 have HG:=aH (And.intro hne hx1);simp only[gE]at hbx;clear hf hA hx hb0 Kg hP hne;generalize w.alloc (.cells #[.slice aF F.length iJ] 28)=W at *;go_upto_region 2 with(go_at_call 120;refine(HC.out _ (by first|exact HG.out.2|exact ay HG.out.2 (bS ⟨1,rfl⟩))).mono ?_;rintro e w2 ⟨s2,v2,L,rfl,ho2,gX,hL2,hd2,hE2,hb2⟩)
 have hln:=hL2.len;obtain⟨g,cap,rfl,hc1,hc2,hc3⟩:=iB ho2 (by have:=HG.out.1;omega);have hlt:F.length-1<L.length:=by have:=HG.out.1;omega
 have hcl:=hc3 (L.length-1) (by omega);have hcz:((dx L).map (Value.int .i64))[L.length-1]?=some (.int .i64 ((L[F.length-1]:Nat):Int)):=by
  have e:L.length-1=F.length-1:=by omega
  rw[e,dB,dx,dB,aa hlt];rfl
 rw[hcz]at hcl;have hat:=aH (hL2.at_ _ hlt);have HE:=aH (And.intro hd2 (And.intro hE2 hb2));obtain⟨n,hn⟩:∃n,L.length=n+1:=⟨L.length-1,by omega⟩;rw[hn,ko]at hcl;rw[hn]at hc1 ⊢;clear hcz hc3 ho2 hd2 hE2 hb2 hL2 hln;have hi:((n:Nat):Int)<(((n+1:Nat)):Int):=by omega
 have hwk:wrap64 ((n:Nat):Int)=((n:Nat):Int):=by unfold maxLen at hc2;unfold wrap64;omega
 go_wp2
 go_ret
 exact⟨s2,_,rfl,hat.out.1,hat.out.2,uP (by first|exact HG.out.2|exact ay HG.out.2 (bS ⟨1,rfl⟩)) gX,HE.out.1,HE.out.2.1,HE.out.2.2⟩
end
section
open Go.RowKit
open bz (dC Nd Gm vl fq eu Same ng)
def Cu:iQ:=⟨.slice none 0 0,.slice none 0 0,.slice none 0 0,[],λ_=>False,λ_=>none⟩
theorem IQ{pp h b:Nat}(hb:jP pp h Cu b):b=pp\/(h<=b/\b<h+1+1+1):=by
 rcases hb with h|h|h|h|h
 .exact .inl h
 .exact .inr h
 .simp[Cu,Value.ownBlock]at h
 .simp[Cu,Value.ownBlock]at h
 .simp[Cu,Value.ownBlock]at h
end
section
open Go.RowKit
open bz (dC Nd Gm vl fq eu Same Canon iK)
def Dy(P:dC->Prop)(w:World)(e:Ending)(w':World):Prop:=
 ∃E vN Fr ok sl,e=.returned (.tuple #[.agg #[vN],.bool ok])/\P E/\ok=gQ E/\Fr=(if ok then E else [])/\FO w' w.heap.size vN Fr.length sl (o9 Fr)/\Ext w w'
theorem Lb(N:Nat)(cn:Nat->Option Nat):miss N cn<=N:=by
 unfold miss;have:=jQ (λx=>(cn x).isNone) (List.range N);rwa [og]at this
theorem PV{pp h:Nat}{s s':iQ}{w w':World}{f j:Nat}{g:Gm}(k:jK pp h s w s' w')(hw:bz.WF s.D)(hf:f<s.D.length)(hc:s'.cn f=some j)(hg:Same (vl s.D f) g):j<s'.D.length/\Hid (∀E,fq E->Same (eu E) (vl s'.D j)->fu E g):=by
 obtain⟨h1,h2⟩:=k.pool.uV.lt f j hc;obtain⟨h3,h4,_⟩:=k.pool.uV.ok f j hc;exact⟨h2,aH λE hE hS=>⟨hE,vl s'.D j,hS,h3,h4.trans (by rw[k.vl hw hf];exact hg.eqv)⟩⟩
set_option maxHeartbeats 1000000 in
theorem Ba(v:Value)(F:dC)(w:World)(hf:eX w 0 v F)(hF:fq F)(hfit:gQ F=true):Calls prog 62 #[.agg #[v]] w (Dy (λE=>fu E (eu F)) w):=by
 obtain⟨aF,iJ,rfl,hcap,xP,-⟩:=id hf;obtain⟨l1,l2,C9⟩:=oG hfit;have hb1:((w.alloc (.cells #[.slice aF F.length iJ] 28)).alloc (.cells #[.slice none 0 0] 28)).heap[w.heap.size]?=some (.cells #[.slice aF F.length iJ] 28 (0,0)):=by
  rw[Below.heap_alloc _ _ _ (by simp)];exact heap_alloc_new _ _
 have hb2:((w.alloc (.cells #[.slice aF F.length iJ] 28)).alloc (.cells #[.slice none 0 0] 28)).heap[w.heap.size+1]?=some (.cells #[.slice none 0 0] 28 (0,0)):=by
  have h:=heap_alloc_new (w.alloc (.cells #[.slice aF F.length iJ] 28)) (.cells #[.slice none 0 0] 28);rw[fw]at h;exact h
 have hx1:Ext w ((w.alloc (.cells #[.slice aF F.length iJ] 28)).alloc (.cells #[.slice none 0 0] 28)):=by go_grown
 have HA:Hid (∀x,x∈F->x.1.length<=1000000/\x.2.length<=1000000):=λx hx=>by
  obtain⟨i,hi,rfl⟩:=aO.1 hx;have:=C9 i hi;exact⟨by omega,by omega⟩
 have HG:=aH (λV (hV:Ext w V)=>qO (.slice aF F.length iJ) F V (hf.ext hV) hF hfit);have HF:=aH hf;have HI:=aH hF;clear C9 hfit hf hF;go_enter Tryz.func62,Tryz.ntmps62
 go_upto_region 1 with fail
 generalize (w.alloc (.cells #[.slice aF F.length iJ] 28)).alloc (.cells #[.slice none 0 0] 28)=W at *;have c0:=cell_of_row W w.heap.size 0 _ _ _ hb1;simp only[gE]at c0;go_upto_region 3 with(go_at_call 67;refine(HG.out W hx1).mono ?_;rintro e w1 ⟨rfl,hxg⟩)
 have hE1:=ay hx1 hxg;go_upto_region 4 with(go_at_call 68;refine(uD w1).mono ?_;rintro e w2 ⟨h,hh,rfl,hp2,yQ,hz2,hx2⟩)
 subst hh;have Dc:=dm.empty hp2 yQ;have hcc:w2.cell? ⟨w.heap.size,0,none⟩=some (.slice aF F.length iJ):=(hx2.cell (lt_of_cell ((hxg.cell (lt_of_cell c0)).trans c0))).trans ((hxg.cell (lt_of_cell c0)).trans c0);have hr2:w2.heap[w.heap.size+1]?=some (.cells #[.slice none 0 0] 28 (0,0)):=by rw[hx2.block _ (bG ((hxg.block _ (bG hb2)).trans hb2)),hxg.block _ (bG hb2)];exact hb2
 have hlt2:w.heap.size+1<w1.heap.size:=bG ((hxg.block _ (bG hb2)).trans hb2);generalize hhz:w1.heap.size=h at *;have Ty:=aH (zH (h+1+1+1+1+1) h Cu (.slice aF F.length iJ) F w1 w2 (HF.out.ext hE1) HI.out.good.wf (by omega) HA.out hx2 Dc (λb hb=>by rcases IQ hb with e|e <;> omega) (by simp[Cu];omega));have HP2:=aH Dc;have HX:=aH (And.intro hE1 hx2);clear hp2 yQ hz2 Dc hx2 hE1 hx1 hxg hb1 hb2 c0
 go_wp2_with (first
  |(go_at_call 69;refine(zI _ h s4 j4 w4 kH.pool hj4).mono ?_;rintro e w5 ⟨E,vN,Fr,ok,sl,rfl,hE,hS,hok,JE,Dg,hx5⟩
    obtain⟨aN,cN,rfl⟩:=Dg.top;have HVV:=aH (And.intro (And.intro hE hS) (And.intro hok JE));have HZ5:=aH hx5;have HFO:=aH Dg;have Jt:w5.heap[w.heap.size+1]?=some (.cells #[.slice none 0 0] 28 (0,0)):=(hx5.block _ (by have:=kH.keep.size;have:=Vn.out.size;omega)).trans hr4;have q0:=cell_of_row w5 (w.heap.size+1) 0 _ _ _ Jt;have q1:=frozen_of_row w5 (w.heap.size+1) 0 _ _ Jt;clear hok JE Dg hE hS)
  |(go_at_call 104;refine(Cw (h+1+1+1+1+1) h s3 j3 w3 hP3 hj3 (by have h1:=hD3;have h2:=Lb (j3+1) s3.cn;simp[Cu]at h1;omega)).mono ?_;rintro e w4 ⟨s4,j4,rfl,kH,af5,hG4⟩
    obtain⟨hj4,HC4⟩:=PV kH hP3.good.wf hj3 af5 hs3;have hr4:w4.heap[w.heap.size+1]?=some (.cells #[.slice none 0 0] 28 (0,0)):=(kH.keep.block _ (by have:=Vn.out.size;omega) (by intro c;have:=HB3.out _ c;omega)).trans hr3)
  |(go_at_call 71;refine Ty.out.mono ?_;rintro e w3 ⟨s3,j3,rfl,hj3,hs3,iX,hD3,xx,hB3⟩
    have hP3:=iX.pool;have Vn:=aH xx;have HB3:=aH hB3;have hr3:w3.heap[w.heap.size+1]?=some (.cells #[.slice none 0 0] 28 (0,0)):=(xx.block _ (by omega)).trans ((HX.out.2.block _ (by omega)).symm.trans hr2);clear xx hB3))
 have HW:=aH (heap_setCell_same w5 (w.heap.size+1) 0 _ _ (.slice aN Fr.length cN) Jt);have Ki:Ext w1 w4:=kP Vn.out kH.keep (λb c=>by have:=HB3.out b c;omega);have Nz:=Ki.size;have hz1:=HX.out.1.size;(try simp only[Exit.inBlock,Exit.then]);refine bodyPost_ret (dY rfl _ _ (w.heap.size+1) 28 #[.slice aN Fr.length cN] (0,0) _ rfl HW.out underlying28 rfl (by kernel_rfl) rfl) rfl ?_;exact⟨E,_,Fr,ok,sl,rfl,HC4.out E HVV.out.1.1 HVV.out.1.2,HVV.out.2.1,HVV.out.2.2,(HFO.out.xm (gI (p:=⟨w.heap.size+1,0,none⟩)) (λb hb=>by subst hb;show w.heap.size+1<w4.heap.size;omega)).lower (show w.heap.size<=w4.heap.size by omega),(ay (ay HX.out.1 Ki) HZ5.out).setCell (p:=⟨w.heap.size+1,0,none⟩) (by show w.heap.size<=w.heap.size+1;omega) _⟩
end
section
open Go.RowKit
open bz (dC Nd Gm vl fq eu Same plus)
variable {w:World} {B:Nat} {v:Value} {F:dC} {sl:Nat->Value}
def UQ(P:dC->Prop)(w:World)(e:Ending)(w':World):Prop:=
 ∃(a:Option Addr) (n c:Nat) (ok:Bool),e=.returned (.tuple #[.agg #[.slice a n c],.bool ok])/\(ok=true->∃E sl,n=E.length/\P E/\fq E/\gQ E=true/\FO w' w.heap.size (.slice a n c) E.length sl (o9 E))/\Ext w w'
theorem FO.YB(h:FO w B v F.length sl (o9 F))(hs:∀j,j<2*F.length->(o9 F j).length<=1152921504606846976)(hl:F.length<=maxLen):eX w B v F:=by
 obtain⟨xs,h1,h2⟩:=h.row;refine eX.eO (K:=λ_=>False) h1 (λi hi=>?_);have g:F.getD i ([],[])=F[i]:=by rw[aV,aa hi];rfl
 have e0:o9 F (2*i)=dx (F[i]).1:=by unfold o9;rw[if_pos (by omega),show 2*i / 2=i by omega,g]
 have e1:o9 F (2*i+1)=dx (F[i]).2:=by unfold o9;rw[if_neg (by omega),show(2*i+1) / 2=i by omega,g]
 have o0:=h.own (2*i) (by omega);have o1:=h.own (2*i+1) (by omega);have s0:=hs (2*i) (by omega);have s1:=hs (2*i+1) (by omega);rw[e0]at o0 s0;rw[e1]at o1 s1;exact⟨sl (2*i),sl (2*i+1),by rw[jk];exact h2 _ (by omega),by rw[jk];exact h2 _ (by omega),Ints.eO o0 s0,Ints.eO o1 s1,λb hb=>⟨(o0.lt b hb).1,(o0.lt b hb).2,id⟩,λb hb=>⟨(o1.lt b hb).1,(o1.lt b hb).2,id⟩⟩
theorem Gp{W:World}(hf:gQ F=true)(h:FO W B v F.length sl (o9 F)):eX W B v F:=by
 unfold gQ at hf;obtain⟨_,f2,f3⟩:=of_decide_eq_true hf;refine h.YB (λj hj=>?_) (by simp[maxLen];omega);have hi:j / 2<F.length:=by omega
 have g:F.getD (j / 2) ([],[])=F[j / 2]:=by rw[aV,aa hi];rfl
 have:=f3 _ hi;unfold o9;split
 .rw[bu,g];omega
 .rw[bu,g];omega
theorem Dy.if_{P:dC->Prop}{w':World}{e:Ending}(h:Dy P w e w')(hP:∀E,P E->fq E):UQ P w e w':=by
 obtain⟨E,vN,Fr,ok,sl,rfl,hE,hok,JE,Dg,hx⟩:=h;obtain⟨a,c,rfl⟩:=Dg.top;refine⟨a,Fr.length,c,ok,rfl,λh=>?_,hx⟩;subst h;simp only[if_true]at JE;subst JE;exact⟨Fr,sl,rfl,hE,hP _ hE,hok.symm,Dg⟩
set_option maxHeartbeats 1000000 in
theorem OQ(va vb:Value)(F G:dC)(w:World)(ha:eX w 0 va F)(hb:eX w 0 vb G)(hF:fq F)(hG:fq G)(fF:gQ F=true)(fG:gQ G=true):
 Calls prog 105 #[.agg #[va],.agg #[vb]] w λe w'=>∃ok:Bool,e=.returned (.bool ok)/\Ext w w':=by
 obtain⟨a,ca,rfl,-,-,-⟩:=id ha;obtain⟨b,cb,rfl,-,-,-⟩:=id hb;obtain⟨l1,l2,-⟩:=oG fF;obtain⟨m1,m2,-⟩:=oG fG;have hx2:Ext w ((w.alloc (.cells #[.slice a F.length ca] 28)).alloc (.cells #[.slice b G.length cb] 28)):=by go_grown
 have b0:((w.alloc (.cells #[.slice a F.length ca] 28)).alloc (.cells #[.slice b G.length cb] 28)).heap[w.heap.size]?=some (.cells #[.slice a F.length ca] 28 (0,0)):=by
  rw[Below.heap_alloc _ _ _ (by simp)];exact heap_alloc_new _ _
 have b1:((w.alloc (.cells #[.slice a F.length ca] 28)).alloc (.cells #[.slice b G.length cb] 28)).heap[w.heap.size+1]?=some (.cells #[.slice b G.length cb] 28 (0,0)):=by
  have h:=heap_alloc_new (w.alloc (.cells #[.slice a F.length ca] 28)) (.cells #[.slice b G.length cb] 28);rw[fw]at h;exact h
 have HA:=aH (λV (hV:Ext w V)=>qO _ F V (ha.ext hV) hF fF);have HB:=aH (λV (hV:Ext w V)=>qO _ G V (hb.ext hV) hG fG);have hnn:F.length*G.length<=120*120:=jR l2 m2;have hmul:wrap64 (((F.length:Nat):Int)*((G.length:Nat):Int))=((F.length*G.length:Nat):Int):=by rw[<-Int.natCast_mul];unfold wrap64;omega
 have hwm:IntKind.i64.wrap (((F.length:Nat):Int)*((G.length:Nat):Int))=((F.length*G.length:Nat):Int):=(Go.IntWalk.i64_left _).trans hmul;clear ha hb hF hG fF fG;go_enter Tryz.func105,Tryz.ntmps105
 go_upto_region 1 with fail
 generalize (w.alloc (.cells #[.slice a F.length ca] 28)).alloc (.cells #[.slice b G.length cb] 28)=W at *;have c0:=cell_of_row W w.heap.size 0 _ _ _ b0;have c1:=cell_of_row W (w.heap.size+1) 0 _ _ _ b1;simp only[gE]at c0 c1
 go_wp2_with (first
  |(go_at_call 67;refine(HB.out _ (ay hx2 hq1)).mono ?_;rintro e w2 ⟨rfl,hx3⟩;have hq2:=ay hq1 hx3;have e0:=(hq2.cell (lt_of_cell c0)).trans c0;have e1:=(hq2.cell (lt_of_cell c1)).trans c1)
  |(go_at_call 67;refine(HA.out _ hx2).mono ?_;rintro e w1 ⟨rfl,hq1⟩;have d0:=(hq1.cell (lt_of_cell c0)).trans c0;have d1:=(hq1.cell (lt_of_cell c1)).trans c1))
 go_ret
 exact⟨_,rfl,ay hx2 hq2⟩
def Vy:List Row:=[⟨0,[],14,[6]⟩,⟨1,[],15,[6]⟩,⟨2,[],16,[6]⟩,⟨3,[],17,[2]⟩,⟨4,[2,3],18,[15,16]⟩,⟨5,[],19,[6]⟩,⟨6,[],20,[3]⟩,⟨7,[5,6,4],21,[18,19]⟩,⟨8,[1,4,7,7],22,[14,17,20]⟩,⟨9,[0,8,8],23,[13,21]⟩,⟨10,[9],24,[22]⟩,⟨11,[9],25,[22]⟩,⟨12,[10,9,0,1,2,3,4,5,6,7,8,9,10,11],0,[4,23]⟩,⟨13,[11,12,0,1,2,3,4,5,6,7,8,9,10,11,12],6,[24]⟩]
set_option maxHeartbeats 2000000 in
theorem FJ(va vb:Value)(F G:dC)(w:World)(ha:eX w 0 va F)(hb:eX w 0 vb G)(hF:fq F)(hG:fq G)(fF:gQ F=true)(fG:gQ G=true):
 Calls prog 63 #[.agg #[va],.agg #[vb]] w (UQ (λE=>Same (eu E) (plus (eu F) (eu G))) w):=by
 obtain⟨a,ca,rfl,-,-,-⟩:=id ha;obtain⟨b,cb,rfl,-,-,-⟩:=id hb;obtain⟨l1,l2,abL⟩:=oG fF;obtain⟨m1,m2,abK⟩:=oG fG;have hb0:(((w.alloc (.cells #[.slice a F.length ca] 28)).alloc (.cells #[.slice b G.length cb] 28)).alloc (.cells #[.slice none 0 0] 28)).heap[w.heap.size]?=some (.cells #[.slice a F.length ca] 28 (0,0)):=by
  rw[Below.heap_alloc _ _ _ (by simp;omega),Below.heap_alloc _ _ _ (by simp)];exact heap_alloc_new _ _
 have hb1:(((w.alloc (.cells #[.slice a F.length ca] 28)).alloc (.cells #[.slice b G.length cb] 28)).alloc (.cells #[.slice none 0 0] 28)).heap[w.heap.size+1]?=some (.cells #[.slice b G.length cb] 28 (0,0)):=by
  rw[Below.heap_alloc _ _ _ (by simp)];have h:=heap_alloc_new (w.alloc (.cells #[.slice a F.length ca] 28)) (.cells #[.slice b G.length cb] 28);rw[fw]at h;exact h
 have hb2:(((w.alloc (.cells #[.slice a F.length ca] 28)).alloc (.cells #[.slice b G.length cb] 28)).alloc (.cells #[.slice none 0 0] 28)).heap[w.heap.size+2]?=some (.cells #[.slice none 0 0] 28 (0,0)):=by
  have h:=heap_alloc_new ((w.alloc (.cells #[.slice a F.length ca] 28)).alloc (.cells #[.slice b G.length cb] 28)) (.cells #[.slice none 0 0] 28);rw[fw,fw]at h;exact h
 have hx3:Ext w (((w.alloc (.cells #[.slice a F.length ca] 28)).alloc (.cells #[.slice b G.length cb] 28)).alloc (.cells #[.slice none 0 0] 28)):=by go_grown
 have HAF:Hid (∀x,x∈F->x.1.length<=1000000/\x.2.length<=1000000):=aH λx hx=>by
  obtain⟨i,hi,rfl⟩:=aO.1 hx;have:=abL i hi;exact⟨by omega,by omega⟩
 have HAG:Hid (∀x,x∈G->x.1.length<=1000000/\x.2.length<=1000000):=aH λx hx=>by
  obtain⟨i,hi,rfl⟩:=aO.1 hx;have:=abK i hi;exact⟨by omega,by omega⟩
 have HPR:=aH (λV (hV:Ext w V)=>OQ _ _ F G V (ha.ext hV) (hb.ext hV) hF hG fF fG);have HF:=aH (And.intro ha hF);have HG:=aH (And.intro hb hG);clear abL abK fF fG ha hb hF hG;go_enter Tryz.func63,Tryz.ntmps63
 go_upto_region 1 with fail
 rw[show w.heap.size+1+1=w.heap.size+2 from rfl];generalize (((w.alloc (.cells #[.slice a F.length ca] 28)).alloc (.cells #[.slice b G.length cb] 28)).alloc (.cells #[.slice none 0 0] 28))=W at *;have c0:=cell_of_row W w.heap.size 0 _ _ _ hb0;have c1:=cell_of_row W (w.heap.size+1) 0 _ _ _ hb1;have q1:=cell_of_row W (w.heap.size+2) 0 _ _ _ hb2;have q2:=frozen_of_row W (w.heap.size+2) 0 _ _ hb2;simp only[gE]at c0 c1 q1;go_upto_region 3 with(go_at_call 105;refine(HPR.out _ hx3).mono ?_;rintro e w1 ⟨ok,rfl,hxg⟩;have r0:=(hxg.block _ (bG hb2)).trans hb2;have r1:=cell_of_row _ (w.heap.size+2) 0 _ _ _ r0;have r2:=frozen_of_row _ (w.heap.size+2) 0 _ _ r0;simp only[gE]at r1)
 ·(try simp only[Exit.inBlock,Exit.then])
  refine bodyPost_ret (dY rfl _ _ (w.heap.size+2) 28 _ (0,0) _ rfl (heap_setCell_same _ (w.heap.size+2) 0 _ _ (.slice none 0 0) r0) underlying28 rfl (by kernel_rfl) rfl) rfl ?_;exact⟨none,0,0,false,rfl,(λh=>by cases h),(ay hx3 hxg).setCell (p:=⟨w.heap.size+2,0,none⟩) (by show w.heap.size<=w.heap.size+2;omega) _⟩
 have hE1:=ay hx3 hxg;have a0:=(hxg.block _ (bG hb0)).trans hb0;have a1:=(hxg.block _ (bG hb1)).trans hb1;clear c0 c1 q1 q2 r1 r2 hb0 hb1 hb2 hx3 hxg;go_upto_region 4 with(go_at_call 68;refine(uD w1).mono ?_;rintro e w2 ⟨h,hh,rfl,hp2,yQ,hz2,hx2⟩)
 subst hh;have Dc:=dm.empty hp2 yQ;have acU:SMap w2 w1.heap.size Cu:=⟨0,_,gu.made _ _ (yQ (w1.heap.size+1+1+1) (by omega) (by omega)),λ_ _ h=>by cases h⟩;have ab0:=bG a0;have hlt1:=bG a1;have hlt2:=bG r0;generalize hhz:w1.heap.size=h at *;have hxd:Ext w2 w2.drew:=bS ⟨1,rfl⟩;have Ha:=ay hx2 hxd;have TA:=Dc.ext hxd;have TI:∀V:World,V.heap[w.heap.size]?=w1.heap[w.heap.size]?->V.heap[w.heap.size+1]?=w1.heap[w.heap.size+1]?->V.cell? ⟨w.heap.size,0,none⟩=some (.slice a F.length ca)/\V.cell? ⟨w.heap.size+1,0,none⟩=some (.slice b G.length cb):=λV h0 h1=>by
  have e0:=cell_of_row V w.heap.size 0 _ _ _ (h0.trans a0);have e1:=cell_of_row V (w.heap.size+1) 0 _ _ _ (h1.trans a1);simp only[gE]at e0 e1;exact⟨e0,e1⟩
 have ae:=TI w2.drew (Ha.block _ (by omega)) (Ha.block _ (by omega));have Ty:=aH (zH (h+1+1+1+1+1) h Cu (.slice a F.length ca) F w1 w2.drew (HF.out.1.ext hE1) HF.out.2.good.wf (by omega) HAF.out Ha TA (λb hb=>by rcases IQ hb with e|e <;> omega) (by simp[Cu];omega));have MM:=aH (And.intro acU (And.intro Dc hxd));have HX:=aH (And.intro hE1 hx2);have Xt:=aH (And.intro TI (And.intro a0 (And.intro a1 r0)));clear hp2 yQ hz2 Dc acU TA a0 a1 r0 hx2 hE1 TI hxd;refine bW (λV=>V.cell? ⟨w.heap.size,0,none⟩=some (.slice a F.length ca)/\V.cell? ⟨w.heap.size+1,0,none⟩=some (.slice b G.length cb)) [12,13] Vy (by kernel_rfl) ⟨by kernel_rfl,by kernel_rfl,by kernel_rfl⟩ ae (λax ae=>?_);(refine bT 0 ax ae ?_;refine bT 1 ax ae ?_;refine bT 2 ax ae ?_;refine bT 3 ax ae ?_;refine bT 5 ax ae ?_;refine bT 6 ax ae ?_);(refine oZ ax (i:=4) λK hK=>?_;go_simp);refine Ty.out.mono ?_;rintro e w3 ⟨s3,j3,rfl,hj3,hs3,iX,hD3,xx,hB3⟩;have ae:=Xt.out.1 w3 (xx.block _ (by omega)) (xx.block _ (by omega));refine hK.out _ _ (λ_=>ae) ?_;clear hK K;(try simp only[nP]);(refine oZ ax (i:=7) λK hK=>?_;go_simp);have amR:s3.D.length<=120:=by have h1:=hD3;simp[Cu]at h1;omega
 refine(zH (h+1+1+1+1+1) h s3 (.slice b G.length cb) G w1 w3 (HG.out.1.ext HX.out.1) HG.out.2.good.wf (by omega) HAG.out xx iX.pool (λb hb=>by have:=hB3 b hb;omega) (by omega)).mono ?_;rintro e w4 ⟨s4,j4,rfl,hj4,hs4,kH,hD4,Ki,hB4⟩;have ae:=Xt.out.1 w4 (Ki.block _ (by omega)) (Ki.block _ (by omega));refine hK.out _ _ (λ_=>ae) ?_;clear hK K;(try simp only[nP]);(refine oZ ax (i:=8) λK hK=>?_;go_simp);have hS4:Bq w4 (h+1+1+1+1+1) h s4.D.length s4:=⟨kH.pool,((MM.out.1.go MM.out.2.1 (jK.refl MM.out.2.1 MM.out.2.2)).go (MM.out.2.1.ext MM.out.2.2) iX).go iX.pool kH,ai _,λi a b=>by omega⟩;have alE:=kH.len;refine(Ru (h+1+1+1+1+1) h s4.D.length s4 j3 j4 w4 hS4 (by omega) (by omega) hj4).mono ?_;rintro e w5 ⟨s5,j5,rfl,hj5,hs5,Zd,hS5⟩;have hk5:∀x,x<w.heap.size+3->w5.heap[x]?=w1.heap[x]?:=λx hx=>by
  have Nz:=Ki.size;rw[Zd.keep.block x (by omega) (by
   rintro(c|c)
   .have:=hB4 _ c;omega
   .omega)]
  exact Ki.block x (by omega)
 have ae:=Xt.out.1 w5 (hk5 _ (by omega)) (hk5 _ (by omega));refine hK.out _ _ (λ_=>ae) ?_;clear hK K;(try simp only[nP]);(refine oZ ax (i:=9) λK hK=>?_;go_simp);refine(zI _ h s5 j5 w5 hS5.pool hj5).mono ?_;rintro e w6 ⟨E,vN,Fr,ok6,sl,rfl,hE,hS,hok,JE,Dg,hx6⟩;obtain⟨aN,cN,rfl⟩:=Dg.top;have ak7:=Zd.keep.size;have ak9:=Ki.size;have hk6:∀x,x<w.heap.size+3->w6.heap[x]?=w1.heap[x]?:=λx hx=>(hx6.block x (by omega)).trans (hk5 x hx)
 have ae:=Xt.out.1 w6 (hk6 _ (by omega)) (hk6 _ (by omega));have HV:=aH (And.intro hE (And.intro hS (And.intro hok (And.intro JE Dg))));have HS:=aH (And.intro hs5 (And.intro hs4 hs3));have r6:=(hk6 (w.heap.size+2) (by omega)).trans Xt.out.2.2.2;have t1:=cell_of_row w6 (w.heap.size+2) 0 _ _ _ r6;have t2:=frozen_of_row w6 (w.heap.size+2) 0 _ _ r6;have hvl:=kH.vl iX.pool.good.wf hj3;have HVL:=aH hvl;have HE5:Hid (Ext w1 w5):=aH (kP Ki Zd.keep (λb hb=>by
  rcases hb with c|c
  .have:=hB4 b c;omega
  .omega))
 simp only[gE]at t1;clear hok JE Dg hE hS hs5 hs4 hs3 hvl;refine hK.out _ _ (λ_=>ae) ?_;clear hK K;(try simp only[nP]);(refine bT 10 ax ae ?_;refine bT 11 ax ae ?_);refine ow ax [12,13] [_,_] ?_;clear ax ae;go_wp2
 have HW:=aH (heap_setCell_same w6 (w.heap.size+2) 0 _ _ (.slice aN Fr.length cN) r6);(try simp only[Exit.inBlock,Exit.then]);refine bodyPost_ret (dY rfl _ _ (w.heap.size+2) 28 #[.slice aN Fr.length cN] (0,0) _ rfl HW.out underlying28 rfl (by kernel_rfl) rfl) rfl ?_;refine⟨aN,Fr.length,cN,ok6,rfl,λhy=>?_,(ay (ay HX.out.1 HE5.out) hx6).setCell (p:=⟨w.heap.size+2,0,none⟩) (by show w.heap.size<=w.heap.size+2;omega) _⟩;obtain⟨hE,hS,hok,JE,Dg⟩:=HV.out;subst hy;simp only[if_true]at JE;subst JE;obtain⟨h5,h4,h3⟩:=HS.out;have hz:=HE5.out.size;refine⟨Fr,sl,rfl,bz.ik hS (bz.ik h5 (bz.mI (by rw[HVL.out];exact h3) h4)),hE,hok.symm,(Dg.xm (gI (p:=⟨w.heap.size+2,0,none⟩)) (λb hb=>by subst hb;show w.heap.size+2<w5.heap.size;omega)).lower (by omega)⟩
end
end Go.Proofs.YteknjeohbcgpdaaGreatDoor