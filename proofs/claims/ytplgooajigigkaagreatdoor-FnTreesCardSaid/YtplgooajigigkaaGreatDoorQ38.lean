/- 38 -/
import Derived.Test.YtplgooajigigkaaGreatDoorQ33
set_option maxRecDepth 100000
set_option maxHeartbeats 4000000
namespace Go.Proofs.YtplgooajigigkaaGreatDoor
open Tryz
section
open Go.RowKit
open aZ (cZ Nd Gm vl Same ng)
variable {pp h:Nat} {s s':iK} {w wr w2:World} {lv rv:Value} {L R:List Nat}
theorem dW.up{F G:Nat->Prop}{a b:World}(h:dW F a b)(k:∀x,F x->G x):dW G a b:=⟨h.os,h.tape,h.output,h.size,λb hb hn=>h.block b hb λc=>hn (k b c)⟩
structure NGo(pp h:Nat)(s:iK)(w:World)(s':iK)(w':World):Prop where
 pool:bX w' pp h s'
 keep:dW (λb=>jI pp h s b\/b=h+1+1+1+1) w w'
 own:∀b,jI pp h s' b->jI pp h s b\/w.heap.size<=b
 old:∀b,s.S b->s'.S b
 lists:∀b,s'.S b->s.S b\/w.heap.size<=b
 more:∃E,s'.D=s.D++E
theorem jd.n{w':World}(k:jd pp h s w s' w'):NGo pp h s w s' w':=⟨k.pool,k.keep.up λ_ h=>.inl h,k.own,k.old,k.lists,k.more⟩
structure l8(pp h:Nat)(s:iK)(w wr:World)(lv rv:Value)(L R:List Nat):Prop where
 l:wr.ownsRow w.heap.size 3 1 lv L.length ((bV L).map (Value.int .i64))
 r:wr.ownsRow w.heap.size 3 1 rv R.length ((bV R).map (Value.int .i64))
 ap:∀b,lv.ownBlock=some b->rv.ownBlock≠some b
 Ep:NU pp h s wr (λb=>lv.ownBlock=some b\/rv.ownBlock=some b)
theorem l8.keep{G:Nat->Prop}(m:l8 pp h s w wr lv rv L R)(hk:dW G wr w2)(hG:∀b,lv.ownBlock=some b\/rv.ownBlock=some b->¬G b)
 (hc:NU pp h s' w2 (λb=>lv.ownBlock=some b\/rv.ownBlock=some b)):l8 pp h s' w w2 lv rv L R:=
 ⟨aV m.l hk (λb hb=>hG b (.inl hb)),aV m.r hk (λb hb=>hG b (.inr hb)),m.ap,hc⟩
theorem l8.ext{pp h:Nat}{s:iK}{w wr w2:World}{lv rv:Value}{L R:List Nat}(m:l8 pp h s w wr lv rv L R)(hx:Ext wr w2):l8 pp h s w w2 lv rv L R:=
 m.keep (iM (F:=λ_=>False) hx) (λ_ _=>id) (m.Ep.ext hx)
theorem l8.lo(m:l8 pp h s w wr lv rv L R){b:Nat}(hb:lv.ownBlock=some b\/rv.ownBlock=some b):w.heap.size<=b:=by
 rcases hb with hb|hb
 .exact(m.l.lt b hb).1
 .exact(m.r.lt b hb).1
theorem l8.go(m:l8 pp h s w wr lv rv L R)(hh:h+1+1+1+1<w.heap.size)(g:NGo pp h s wr s' w2):l8 pp h s' w w2 lv rv L R:=by
 have hz:=g.keep.size;refine m.keep g.keep (λb hb=>?_) (λb hb=>?_)
 .rintro(c|c)
  .exact(m.Ep b hb).2.1 c
  .have:=m.lo hb;omega
 .obtain⟨c1,c2,c3⟩:=m.Ep b hb
  refine⟨by omega,λc=>?_,λc=>?_⟩
  .rcases g.own b c with c|c
   .exact c2 c
   .omega
  .rcases g.lists b c with c|c
   .exact c3 c
   .omega
theorem l8.push{wa:World}{lv':Value}{news:List Nat}{n:Nat}{ys:List Value}(m:l8 pp h s w wr lv rv L R)(hP:bX wr pp h s)(hx:Ext wr wa)(hg:wa.grownBy w2 lv.ownBlock)
 (ho:w2.ownsRow w.heap.size 3 1 lv' n ys) (hn:n=(L++news).length) (hy:ys=(bV (L++news)).map (Value.int .i64)) (hl:lY wa lv lv'):l8 pp h s w w2 lv' rv (L++news) R:=by
 have hz:=hx.size;have hz2:=hg.size;have hL:∀b,lv'.ownBlock=some b->lv.ownBlock=some b\/wr.heap.size<=b:=λb hb=>by
  rcases hl with e|⟨g,e,k⟩
  .exact .inl (e ▸ hb)
  .rw[e]at hb;injection hb with hb;exact .inr (by omega)
 have m1:=m.ext hx;have hkg:=gN hg;have hcm:=m.Ep;refine⟨Kt ho hn hy,aV m1.r hkg (λb hb hq=>m.ap b hq hb),λb hb hc=>?_,λb hb=>?_⟩
 .rcases hL b hb with h1|h1
  .exact m.ap b h1 hc
  .have:=(hcm b (.inr hc)).1;omega
 .have hlt:=ho.lt
  rcases hb with hb|hb
  .refine⟨(hlt b hb).2,?_⟩
   rcases hL b hb with h1|h1
   .exact(hcm b (.inl h1)).2
   .exact hP.new h1
  .have:=hcm b (.inr hb);exact⟨by omega,this.2⟩
end
section
open Go.RowKit
open aZ (cZ Nd Gm vl Same)
variable {pp h k i x:Nat} {s:iK} {w:World} {F D:cZ} {L:List Nat}
structure oJ(D F:cZ)(L:List Nat)(k:Nat):Prop where
 len:L.length=k
 at_:∀j (h:j<L.length),L[j]<D.length/\Same (vl D L[j]) (vl F j)
theorem oJ.nil(D F:cZ):oJ D F [] 0:=⟨rfl,λj h=>absurd h (by simp)⟩
theorem oJ.go{s':iK}{w':World}(n:oJ s.D F L k)(hw:aZ.WF s.D)(g:jd pp h s w s' w'):oJ s'.D F L k:=by
 refine⟨n.len,λj h=>?_⟩;obtain⟨h1,h2⟩:=n.at_ j h;have:=g.len;exact⟨by omega,by rw[g.vl hw h1];exact h2⟩
theorem oJ.next(n:oJ D F L k)(hi:i<D.length)(hs:Same (vl D i) (vl F k)):oJ D F (L++[i]) (k+1):=by
 refine⟨by simp[n.len],λj h=>?_⟩;have hl:=n.len;by_cases c:j<L.length
 .rw[dN c];exact n.at_ j c
 .have e:j=k:=by simp at h;omega
  subst e;rw[fO (by omega)];simp only[List.getElem_singleton];exact⟨hi,hs⟩
theorem oJ.get(n:oJ D F L k)(hx:x<k):∃h:x<L.length,L[x]=L.getD x 0:=by
 have hl:=n.len;exact⟨by omega,by rw[aO,ae (by omega)];rfl⟩
theorem oJ.opt(n:oJ D F L k)(hx:x<k):L.getD x 0<D.length/\Same (vl D (L.getD x 0)) (vl F x):=by
 obtain⟨h,e⟩:=n.get hx;rw[<-e];exact n.at_ x h
theorem Oj{f g:Nat->Gm}{l r:List Nat}(hl:∀x,x∈l->Same (f x) (g x))(hr:∀x,x∈r->Same (f x) (g x)):Same (.mk (l.map f) (r.map f)) (.mk (l.map g) (r.map g)):=by
 rw[aZ.same_iff];simp only[Gm.l,Gm.r];refine⟨λy hy=>?_,λy hy=>?_,λy hy=>?_,λy hy=>?_⟩
 .obtain⟨x,hx,rfl⟩:=ay.1 hy;exact⟨_,bD hx,hl x hx⟩
 .obtain⟨x,hx,rfl⟩:=ay.1 hy;exact⟨_,bD hx,hl x hx⟩
 .obtain⟨x,hx,rfl⟩:=ay.1 hy;exact⟨_,bD hx,hr x hx⟩
 .obtain⟨x,hx,rfl⟩:=ay.1 hy;exact⟨_,bD hx,hr x hx⟩
theorem OU{D':cZ}(hD:aZ.WF D)(hD':aZ.WF D')(hF:aZ.WF F)(hk:k<F.length)(n:oJ D F L k)(p:jA D ((F[k]).1.map λx=>L.getD x 0) ((F[k]).2.map λx=>L.getD x 0) D' i):Same (vl D' i) (vl F k):=by
 have dk:F[k]?=some F[k]:=ae hk;obtain⟨w1,w2⟩:=hF k _ dk;rw[aZ.mK hD' p.1,aZ.mK hF dk];refine aZ.fE (yP (c:=(((F[k]).1.map λx=>L.getD x 0).map (vl D'))) (d:=(((F[k]).2.map λx=>L.getD x 0).map (vl D'))) (λy=>by simp only[ay,bU]) (λy=>by simp only[ay,bU])) ?_;rw[eP,eP];refine Oj (λx hx=>?_) (λx hx=>?_)
 .obtain⟨h1,h2⟩:=n.opt (w1 x hx)
  show Same (vl D' (L.getD x 0)) _;rw[p.vl hD hD' h1];exact h2
 .obtain⟨h1,h2⟩:=n.opt (w2 x hx)
  show Same (vl D' (L.getD x 0)) _;rw[p.vl hD hD' h1];exact h2
def UQ(pp h:Nat)(s:iK)(F:cZ)(w0 w:World)(e:Ending)(w':World):Prop:=
 ∃s' v' L,e=.returned v'/\w'.ownsRow w.heap.size 3 1 v' L.length ((bV L).map (Value.int .i64))/\jd pp h s w s' w'/\oJ s'.D F L F.length/\s'.D.length<=s.D.length+F.length/\Ext w0 w'/\(∀b,jI pp h s' b->w0.heap.size<=b)
theorem KJ(hP:bX w pp h s)(n:Nat)(hn:n<=1000000)(X:Obj):l8 pp h s w ((w.alloc X).alloc (.cells (madeCells #[Value.int .i64 0] n) 3)) (.slice (some ⟨w.heap.size+1,0,none⟩) 0 n) (.slice none 0 0) [] []:=by
 have z1:(w.alloc X).heap.size=w.heap.size+1:=eX _ _;have z2:((w.alloc X).alloc (.cells (madeCells #[Value.int .i64 0] n) 3)).heap.size=w.heap.size+1+1:=by rw[eX,z1]
 have hb:=dV (w.alloc X) (.cells (madeCells #[Value.int .i64 0] n) 3);rw[z1]at hb;refine⟨⟨by simp[bV],.inr ⟨w.heap.size+1,n,madeCells #[Value.int .i64 0] n,rfl,by omega,hb,az _,by unfold maxLen;omega,by rw[size_madeCells];simp,by simp[bV]⟩⟩,⟨by simp[bV],.inl ⟨rfl,rfl⟩⟩,?_,?_⟩
 .intro b hb hc;simp[Value.ownBlock]at hc
 .intro b hb
  have:b=w.heap.size+1:=by
   rcases hb with hb|hb
   .simp[Value.ownBlock]at hb;exact hb.symm
   .simp[Value.ownBlock]at hb
  exact⟨by omega,hP.new (by omega)⟩
def QY:List Row:=[⟨0,[],20,[5]⟩,⟨1,[],21,[0]⟩,⟨2,[],22,[7]⟩,⟨3,[2],23,[21]⟩,⟨4,[],24,[5]⟩,⟨5,[3,4],25,[22,23]⟩,⟨6,[],26,[7]⟩,⟨7,[6],27,[25]⟩,⟨8,[],28,[5]⟩,⟨9,[7,8,5],29,[26,27]⟩,⟨10,[1,5,9,9],30,[20,24,28]⟩,⟨11,[10],31,[29]⟩,⟨12,[0,11,10],32,[19,30]⟩,⟨13,[12,12,0,1,2,3,4,5,6,7,8,9,10,11,12],6,[31]⟩]
theorem RQ(pp h:Nat)(s:iK)(vf:Value)(F:cZ)(w0 w:World)(hf:eZ w0 0 vf F)(hF:aZ.WF F)(hA:∀x,x∈F->x.1.length<=1000000/\x.2.length<=1000000)(hx:Ext w0 w)(hP:bX w pp h s)(hb0:∀b,jI pp h s b->w0.heap.size<=b)(Ak:s.D.length+F.length<=900000):
 Calls prog 127 #[.pointer (some ⟨pp,0,none⟩),.agg #[vf]] w (UQ pp h s F w0 w):=by
 obtain⟨i0,hi0,hz0,hz1,hz2⟩:=info_parts fB;obtain⟨aF,fI,rfl,hcap,yH,-⟩:=id hf;have hh5:h+1+1+1+1<w.heap.size:=hP.ni (by omega);have hx1:Ext w ((w.alloc (.cells #[.slice aF F.length fI] 30)).alloc (.cells (madeCells #[Value.int .i64 0] F.length) 3)):=by go_grown
 have hm0:=KJ hP F.length (by omega) (.cells #[.slice aF F.length fI] 30);have hbx:=bI (w.alloc (.cells #[.slice aF F.length fI] 30)) w.heap.size 0 _ _ _ (dV w _);have Xr:((w.alloc (.cells #[.slice aF F.length fI] 30)).alloc (.cells (madeCells #[Value.int .i64 0] F.length) 3)).cell? ⟨w.heap.size,0,none⟩=some (.slice aF F.length fI):=aQ hbx _;have hmk:=λw:World=>run_make (P:=prog) w 41 3 i0 (.int .i64 0) underlying41 hi0 hz0 .i64 .i64 (0:Int) (F.length:Int) (by omega) (by omega) (by rw[hz2];omega) (by omega)
 simp only[hz1,eB,Int.toNat_zero,jo]at hmk;go_enter Tryz.func127,Tryz.ntmps127
 go_upto_region 2 with fail
 generalize (w.alloc (.cells #[.slice aF F.length fI] 30)).alloc (.cells (madeCells #[Value.int .i64 0] F.length) 3)=W0 at *;clear hmk hbx;have Ag:jd pp h s w s W0:=jd.refl hP hx1;have hE0:=ah hx hx1;go_wp2
 go_loopw [5,7,15] (λlv _ ii wr=>∃(k:Nat) (s1:iK) (L:List Nat),k<=F.length/\ii=.int .i64 ((k:Nat):Int)/\jd pp h s w s1 wr/\Ext w0 wr/\Hid (∀b,jI pp h s1 b->w0.heap.size<=b)/\l8 pp h s1 w wr lv (.slice none 0 0) L []/\Hid (oJ s1.D F L k)/\Hid (s1.D.length<=s.D.length+k)) (λ_ _ ii _=>F.length-(intOf ii).toNat)
 case atStart=>exact⟨0,s,[],az _,rfl,Ag,hE0,aI hb0,hm0,aI (oJ.nil _ _),aI (ax _)⟩
 case round=>
  clear Ag hE0 hm0 hx1 Xr;obtain⟨k,s1,L,hk,rfl,hgo,hE,HB,hmm,HL,HD⟩:=hrel;have Ld:L.length=k:=HL.out.len;by_cases hlt:k<F.length
  .have h1:((k:Nat):Int)<((F.length:Nat):Int):=by omega
   obtain⟨bF,cF,aL,cL,aR,cR,he,Qf,cl,cr,C9,C8⟩:=hf.at hlt;simp only[gz]at he;obtain⟨rfl,-,rfl⟩:=he;have cl':=dP hE cl;have LZ:=dP hE cr;have HF:=aI hf;clear cl cr hf;have dk:F[k]?=some F[k]:=ae hlt;obtain⟨QB,QA⟩:=hF k _ dk;obtain⟨xq,Uv⟩:=hA _ (aj hlt);obtain⟨aq,cq,rfl,hqc,_⟩:=bu hmm.l;have II:Ext wr (wr.alloc (.cells #[.slice aL (F[k]).1.length cL,.slice aR (F[k]).2.length cR] 91)):=(by go_grown);have hbW:=dV wr (.cells #[.slice aL (F[k]).1.length cL,.slice aR (F[k]).2.length cR] 91);have YP:∀x,x∈(F[k]).1->∃h:x<L.length,L[x]=L.getD x 0:=λx hx=>HL.out.get (QB x hx)
   have YO:∀x,x∈(F[k]).2->∃h:x<L.length,L[x]=L.getD x 0:=λx hx=>HL.out.get (QA x hx)
   have hm1:∀x,x∈((F[k]).1.map λx=>L.getD x 0)->x<s1.D.length:=λx hx=>by
    obtain⟨y,hy,rfl⟩:=ay.1 hx;exact(HL.out.opt (QB y hy)).1
   have hm2:∀x,x∈((F[k]).2.map λx=>L.getD x 0)->x<s1.D.length:=λx hx=>by
    obtain⟨y,hy,rfl⟩:=ay.1 hx;exact(HL.out.opt (QA y hy)).1
   have HI:=jW (C9.ext hE) (C8.ext hE);have HR:=jW YP YO;have HMM:=jW hm1 hm2;have zX:=jW xq Uv;have hnb:wr.heap.size<(wr.alloc (.cells #[.slice aL (F[k]).1.length cL,.slice aR (F[k]).2.length cR] 91)).heap.size:=bq hbW;have hwl:=hgo.keep.size;have HQ:=aI Ld;clear YP YO hm1 hm2 xq Uv QB QA C9 C8 Ld;go_upto_region 5 with fail
   generalize wr.alloc (.cells #[.slice aL (F[k]).1.length cL,.slice aR (F[k]).2.length cR] 91)=W at *;have c0:=bI W wr.heap.size 0 _ _ _ hbW;have c1:=bI W wr.heap.size 1 _ _ _ hbW;simp only[gE]at c0 c1;refine mQ (λV=>V.cell? ⟨wr.heap.size,0,none⟩=some (.slice aL (F[k]).1.length cL)/\V.cell? ⟨wr.heap.size,1,none⟩=some (.slice aR (F[k]).2.length cR)) [13] QY ⟨c0,c1⟩ (λai aa=>?_);(refine bg 0 ai aa ?_;refine bg 1 ai aa ?_;refine bg 2 ai aa ?_;refine bg 3 ai aa ?_;refine bg 4 ai aa ?_;refine bg 6 ai aa ?_;refine bg 7 ai aa ?_;refine bg 8 ai aa ?_);(refine kS ai (i:=5) λK hK=>?_;go_simp);refine(zG _ _ (F[k]).1 L (λx=>L.getD x 0) _ (HI.out.1.ext (ah II (dz ⟨1,rfl⟩))) (Ints.dX (hmm.ext (ah II (dz ⟨1,rfl⟩))).l (by rw[aP];have:=HQ.out;omega)) zX.out.1 HR.out.1).mono ?_;rintro e w4 ⟨v4,rfl,CZ,hx4⟩;have ZP:=ah (ah II (dz ⟨1,rfl⟩)) hx4;have hn4:wr.heap.size<w4.heap.size:=aJ hnb hx4.size;have d0:w4.cell? ⟨wr.heap.size,0,none⟩=some (.slice aL (F[k]).1.length cL):=dP hx4 c0;have d1:w4.cell? ⟨wr.heap.size,1,none⟩=some (.slice aR (F[k]).2.length cR):=dP hx4 c1;(refine hK.out _ _ (λ_=>?_) ?_)
   .exact⟨d0,d1⟩
   clear hK K;(try simp only[nP]);(refine kS ai (i:=9) λK hK=>?_;go_simp);refine(zG _ _ (F[k]).2 L (λx=>L.getD x 0) _ (HI.out.2.ext ZP) (Ints.dX (hmm.ext ZP).l (by rw[aP];have:=HQ.out;omega)) zX.out.2 HR.out.2).mono ?_;rintro e w5 ⟨v5,rfl,ji,hx5⟩;have Sk:=ah ZP hx5;have hn5:wr.heap.size<w5.heap.size:=aJ hn4 hx5.size;have e0:w5.cell? ⟨wr.heap.size,0,none⟩=some (.slice aL (F[k]).1.length cL):=dP hx5 d0;have e1:w5.cell? ⟨wr.heap.size,1,none⟩=some (.slice aR (F[k]).2.length cR):=dP hx5 d1;(refine hK.out _ _ (λ_=>?_) ?_)
   .exact⟨e0,e1⟩
   clear hK K;(try simp only[nP]);have hP5:=hgo.pool.ext Sk;have acJ:¬jI pp h s1 wr.heap.size:=(hgo.pool.new (ax _)).1;have hl1:(((F[k]).1.map λx=>L.getD x 0)).length<=1000000:=(by rw[bH];exact zX.out.1);have hl2:(((F[k]).2.map λx=>L.getD x 0)).length<=1000000:=(by rw[bH];exact zX.out.2);(refine kS ai (i:=10) λK hK=>?_;go_simp);refine(Bv pp h s1 _ _ _ _ w5 hP5 (by have:=HD.out;omega) HMM.out.1 HMM.out.2 hl1 hl2 (Ints.dX (bW CZ hx5) (by rw[aP];omega)) (Ints.dX ji (by rw[aP];omega))).mono ?_;rintro e w6 ⟨s2,i,rfl,uN,Vs,hc6⟩;have f0:w6.cell? ⟨wr.heap.size,0,none⟩=some (.slice aL (F[k]).1.length cL):=(lh (uN.keep.block _ hn5 acJ)).trans e0;have f1:w6.cell? ⟨wr.heap.size,1,none⟩=some (.slice aR (F[k]).2.length cR):=(lh (uN.keep.block _ hn5 acJ)).trans e1;(refine hK.out _ _ (λ_=>?_) ?_)
   .exact⟨f0,f1⟩
   clear hK K;(try simp only[nP]);(refine kS ai (i:=11) λK hK=>?_;go_simp);(refine hK.out _ _ (λ_=>?_) ?_)
   .exact⟨aQ f0 _,aQ f1 _⟩
   clear hK K;(try simp only[nP]);have Fy:=(hmm.ext Sk).go hh5 uN.n;have al3:=uN.keep.size;have Nk:=Sk.size;refine kS ai (i:=12) λK hK=>?_
   refine gu rfl (.tmp 19) (.tmp 30) 41 rfl w.heap.size 3 i0 (.int .i64 0) 1 8 underlying41 hi0 hz0 hz1 hz2 rfl (by decide) (.slice aq L.length cq) L.length _ rfl (Fy.l.alloc _) _ 1 _ [.int .i64 ((i:Nat):Int)] rfl rfl (.inr ⟨_,rfl,dA (bY _ _ _)⟩) one_cell (by have:=HQ.out;unfold maxLen;omega) (by have:=HQ.out;omega) (by rw[eX];omega) ?_;intro v9 w9 Vt Lv Z5;obtain⟨x9,y9,rfl,-,-⟩:=bu Vt;have hxa:Ext w6 (w6.alloc (.cells #[.int .i64 ((i:Nat):Int)] 3)):=bJ (fJ _ _) _;have hkg:=gN Lv;have hnl:∀b,(Value.slice aq L.length cq).ownBlock=some b->b≠wr.heap.size:=λb hb e=>by have:=(hmm.Ep b (.inl hb)).1;omega
   have g0:w9.cell? ⟨wr.heap.size,0,none⟩=some (.slice aL (F[k]).1.length cL):=(lh (hkg.block _ (aJ (aJ hn5 uN.keep.size) hxa.size) (λhb=>hnl _ hb rfl))).trans (aQ f0 _);have g1:w9.cell? ⟨wr.heap.size,1,none⟩=some (.slice aR (F[k]).2.length cR):=(lh (hkg.block _ (aJ (aJ hn5 uN.keep.size) hxa.size) (λhb=>hnl _ hb rfl))).trans (aQ f1 _);(refine hK.out _ _ (λ_=>?_) ?_)
   .exact⟨g0,g1⟩
   clear hK K;(try simp only[nP]);refine mM ai [13] [_] ?_;clear ai aa;go_wp2
   go_roundw
   case rel=>
    have agL:=(hgo.ext Sk).trans uN;have agK:=(agL.ext hxa).side hkg (λb hb=>⟨Fy.lo (.inl hb),(Fy.Ep b (.inl hb)).2⟩);have hB6:∀b,jI pp h s2 b->w0.heap.size<=b:=λb hb=>by
     rcases uN.own b hb with c|c
     .exact HB.out b c
     .have:=hE.size;omega
    have Jf:Ext w0 w6:=jQ (ah hE Sk) uN.keep (λb hb=>HB.out b hb);have XF:Ext w0 w9:=jQ (ah Jf hxa) hkg (λb hb=>by have:=Fy.lo (.inl hb);have:=hx.size;omega);have hm9:=Fy.push (news:=[i]) uN.pool hxa Lv Vt (by simp) (by rw[mq,bz];rfl) Z5;have hln:=Vs.len;have Lj:=((HL.out.go hgo.pool.good.wf uN).next Vs.lt (OU hgo.pool.good.wf uN.pool.good.wf hF hlt HL.out Vs));exact⟨k+1,s2,L++[i],by omega,by go_num,agK,XF,aI hB6,hm9,aI Lj,aI (by have:=HD.out;omega)⟩
   case measure=>simp[intOf];omega
  .have h1:¬(((k:Nat):Int)<((F.length:Nat):Int)):=by omega
   have hke:k=F.length:=(by omega);subst hke;obtain⟨aq,cq,rfl,hqc,_⟩:=bu hmm.l;clear Ld;go_wp2
   go_ret
   exact⟨s1,_,L,rfl,hmm.l,hgo,HL.out,HD.out,hE,HB.out⟩
end
