/- 38 -/
import Derived.Test.YtplgooajigigkaaGreatDoorK37
set_option maxRecDepth 100000
set_option maxHeartbeats 4000000
namespace Go.Proofs.YtplgooajigigkaaGreatDoor
open Tryz
open Go.RowKit
open bE (dh Nd Gm vl bI bz Same)
variable {Fs:List dh} {L:List Nat} {k i:Nat} {D:dh}
structure mM(D:dh)(Fs:List dh)(L:List Nat)(k:Nat):Prop where
 len:L.length=k
 at_:∀j (h:j<L.length) (h':j<Fs.length),L[j]<D.length/\Same (vl D L[j]) (bz Fs[j])
theorem mM.nil(D:dh)(Fs:List dh):mM D Fs [] 0:=⟨rfl,λj h=>absurd h (by simp)⟩
theorem mM.go{pp h:Nat}{s s':jF}{w w':World}(n:mM s.D Fs L k)(hw:bE.WF s.D)(g:jr pp h s w s' w'):mM s'.D Fs L k:=by
 refine⟨n.len,λj h h'=>?_⟩;obtain⟨h1,h2⟩:=n.at_ j h h';have:=g.len;exact⟨by omega,by rw[g.vl hw h1];exact h2⟩
theorem mM.next(n:mM D Fs L k)(hk:k<Fs.length)(hi:i<D.length)(hs:Same (vl D i) (bz Fs[k])):mM D Fs (L++[i]) (k+1):=by
 refine⟨by simp[n.len],λj h h'=>?_⟩;have hl:=n.len;by_cases c:j<L.length
 .rw[dM c];exact n.at_ j c h'
 .have e:j=k:=by simp at h;omega
  subst e;rw[eQ (by omega)];simp only[List.getElem_singleton];exact⟨hi,hs⟩
theorem mM.lt(n:mM D Fs L Fs.length):∀x,x∈L->x<D.length:=λx hx=>by
 obtain⟨j,hj,rfl⟩:=aQ.1 hx;exact(n.at_ j hj (by have:=n.len;omega)).1
def gOf(Fs Gs:List dh):Gm:=.mk (Fs.map bz) (Gs.map bz)
theorem R9{D':dh}{Gs:List dh}{R:List Nat}(hD:bE.WF D)(hD':bE.WF D')(hl:mM D Fs L Fs.length)(hr:mM D Gs R Gs.length)(p:jN D L R D' i):Same (vl D' i) (gOf Fs Gs):=by
 rw[bE.mJ hD' p.1,bE.same_iff];have hll:=hl.len;have hrl:=hr.len;simp only[gOf,Gm.l,Gm.r];refine⟨λx hx=>?_,λy hy=>?_,λx hx=>?_,λy hy=>?_⟩
 .obtain⟨k,hk,rfl⟩:=az.1 hx
  obtain⟨j,hj,rfl⟩:=aQ.1 (cz.1 hk);obtain⟨h1,h2⟩:=hl.at_ j hj (by omega);exact⟨_,aV (ai (show j<Fs.length by omega)),by rw[p.vl hD hD' h1];exact h2⟩
 .obtain⟨o,ho,rfl⟩:=az.1 hy
  obtain⟨j,hj,rfl⟩:=aQ.1 ho;obtain⟨h1,h2⟩:=hl.at_ j (by omega) hj;exact⟨_,aV (cz.2 (ai (show j<L.length by omega))),by rw[p.vl hD hD' h1];exact h2⟩
 .obtain⟨k,hk,rfl⟩:=az.1 hx
  obtain⟨j,hj,rfl⟩:=aQ.1 (cz.1 hk);obtain⟨h1,h2⟩:=hr.at_ j hj (by omega);exact⟨_,aV (ai (show j<Gs.length by omega)),by rw[p.vl hD hD' h1];exact h2⟩
 .obtain⟨o,ho,rfl⟩:=az.1 hy
  obtain⟨j,hj,rfl⟩:=aQ.1 ho;obtain⟨h1,h2⟩:=hr.at_ j (by omega) hj;exact⟨_,aV (cz.2 (ai (show j<R.length by omega))),by rw[p.vl hD hD' h1];exact h2⟩
structure GY(W0 W2 wr:World)(pp h lb:Nat)(s:jF)(lv rv:Value)(L R:List Nat):Prop where
 pool:dA wr pp h s
 own:∀b,lg pp h s b->W0.heap.size<=b
 ext:Ext W0 wr
 mem:l8 pp h s W2 wr lv rv L R
 box:wr.heap[lb]?=some (.cells #[lv,rv] 117 (0,0))
 lbo:¬lg pp h s lb/\¬s.S lb
 lb0:W0.heap.size<=lb
 lb2:lb<W2.heap.size
 hh:h+1+1+1+1<W2.heap.size
 sz:W2.heap.size<=wr.heap.size
section
variable {W0 W2 wr wa w2:World} {pp h lb i:Nat} {s s':jF} {lv rv De rv':Value} {L R L' R':List Nat}
variable {o:Option Nat} {n:Nat} {ys:List Value}
theorem GY.go(m:GY W0 W2 wr pp h lb s lv rv L R)(g:jr pp h s wr s' w2)(hE:Ext W0 w2)(hb:∀b,lg pp h s' b->W0.heap.size<=b):GY W0 W2 w2 pp h lb s' lv rv L R:=by
 have hlt:=bW m.box;refine⟨g.pool,hb,hE,m.mem.go m.hh g.n,(g.keep.block lb hlt m.lbo.1).trans m.box,⟨λc=>?_,λc=>?_⟩,m.lb0,m.lb2,m.hh,bZ m.sz g.keep.size⟩
 .rcases g.own lb c with c|c
  .exact m.lbo.1 c
  .omega
 .rcases g.lists lb c with c|c
  .exact m.lbo.2 c
  .omega
theorem GY.ext'(m:GY W0 W2 wr pp h lb s lv rv L R)(hx:Ext wr w2):GY W0 W2 w2 pp h lb s lv rv L R:=
 m.go (jr.refl m.pool hx) (ah m.ext hx) m.own
theorem GY.set(m:GY W0 W2 wr pp h lb s lv rv L R)(ho:∀b,o=some b->lv.ownBlock=some b\/rv.ownBlock=some b)(hx:Ext wr wa)(hg:wa.grownBy w2 o)(n:l8 pp h s W2 w2 De rv' L' R')(k:Nat)(v:Value)
 (xc:(w2.setCell ⟨lb,k,none⟩ v).heap[lb]?=some (.cells #[De,rv'] 117 (0,0))):GY W0 W2 (w2.setCell ⟨lb,k,none⟩ v) pp h lb s De rv' L' R':=by
 have hk1:=fP hg;have hs:fJ (λb=>b=lb) w2 (w2.setCell ⟨lb,k,none⟩ v):=dH (p:=⟨lb,k,none⟩);have h0:=m.lb0;have h2:=m.lb2;have hsz:=hs.size;have hP2:=(m.pool.ext hx).keep hk1 (λb hb hc=>(m.mem.xK b (ho b hc)).2.1 hb) (λb hb hc=>(m.mem.xK b (ho b hc)).2.2 hb);refine⟨hP2.keep hs (λb hb hc=>m.lbo.1 (hc ▸ hb)) (λb hb hc=>m.lbo.2 (hc ▸ hb)),m.own,?_,?_,xc,m.lbo,h0,h2,m.hh,?_⟩
 .exact(ko (ah m.ext hx) hk1 (λb hb=>by have:=m.mem.lo (ho b hb);omega)).setCell (p:=⟨lb,k,none⟩) h0 _
 .exact n.keep hs (λb hb hc=>by have:=n.lo hb;omega) (λb hb=>⟨by have:=(n.xK b hb).1;omega,(n.xK b hb).2⟩)
 .have:=m.sz;have:=hx.size;have:=hk1.size;omega
theorem GY.acD(m:GY W0 W2 wr pp h lb s lv rv L R)(ho:∀b,o=some b->lv.ownBlock=some b\/rv.ownBlock=some b)(hx:Ext wr wa)(hg:wa.grownBy w2 o):w2.heap[lb]?=some (.cells #[lv,rv] 117 (0,0)):=by
 have hlt:=bW m.box;have h2:=m.lb2;exact((fP hg).block lb (by have:=hx.size;omega) (λhb=>by have:=m.mem.lo (ho lb hb);omega)).trans ((hx.block lb hlt).trans m.box)
theorem GY.acY(m:GY W0 W2 wr pp h lb s lv rv L R)(hx:Ext wr wa)(hg:wa.grownBy w2 lv.ownBlock)(ho:w2.ownsRow W2.heap.size 3 1 De n ys)(hn:n=(L++[i]).length)(hy:ys=(dB (L++[i])).map (Value.int .i64))(hl:pX wa lv De):
 GY W0 W2 (w2.setCell ⟨lb,0,none⟩ De) pp h lb s De rv (L++[i]) R/\w2.cell? ⟨lb,0,none⟩=some lv/\w2.frozen? ⟨lb,0,none⟩=false:=by
 have hb:=m.acD (λb h=>.inl h) hx hg;exact⟨m.set (λb h=>.inl h) hx hg (m.mem.push m.pool hx hg ho hn hy hl) 0 _ (gK w2 lb 0 _ _ De hb),bQ w2 lb 0 _ _ _ hb,gQ w2 lb 0 _ _ hb⟩
theorem GY.acX(m:GY W0 W2 wr pp h lb s lv rv L R)(hx:Ext wr wa)(hg:wa.grownBy w2 rv.ownBlock)(ho:w2.ownsRow W2.heap.size 3 1 rv' n ys)(hn:n=(R++[i]).length)(hy:ys=(dB (R++[i])).map (Value.int .i64))(hl:pX wa rv rv'):
 GY W0 W2 (w2.setCell ⟨lb,1,none⟩ rv') pp h lb s lv rv' L (R++[i])/\w2.cell? ⟨lb,1,none⟩=some rv/\w2.frozen? ⟨lb,1,none⟩=false:=by
 have hb:=m.acD (λb h=>.inr h) hx hg;exact⟨m.set (λb h=>.inr h) hx hg (m.mem.swap.push m.pool hx hg ho hn hy hl).swap 1 _ (gK w2 lb 1 _ _ rv' hb),bQ w2 lb 1 _ _ _ hb,gQ w2 lb 1 _ _ hb⟩
end
def Uh(Fs Gs:List dh)(w:World)(e:Ending)(w':World):Prop:=
 ∃(a:Option Addr) (n c:Nat) (ok:Bool),e=.returned (.tuple #[.agg #[.slice a n c],.bool ok])/\(ok=true->∃M,n=M.length/\bI M/\Same (bz M) (gOf Fs Gs)/\dm M=true/\dI w' w.heap.size (.slice a n c) M)/\
  (ok=false->∀M,bI M->Same (bz M) (gOf Fs Gs)->dm M=false)/\Ext w w'
def KW:List Row:=[⟨0,[],41,[8]⟩,⟨1,[],42,[8]⟩,⟨2,[1],43,[7,41]⟩,⟨3,[2],44,[42]⟩,⟨4,[],45,[6]⟩,⟨5,[],46,[11]⟩,⟨6,[4,5],47,[44,45]⟩,⟨7,[6],48,[46]⟩,⟨8,[3,7,6],49,[43,47]⟩,⟨9,[0,0,1,2,3,4,5,6,7,8],50,[7,40]⟩,⟨10,[9,8,8,0,1,2,3,4,5,6,7,8],0,[49,48]⟩]
theorem Js(va vb:Value)(Fs Gs:List dh)(w:World)(hA:oH w va Fs)(hB:oH w vb Gs)(hF:∀F,F∈Fs->bI F/\dm F=true)(hG:∀F,F∈Gs->bI F/\dm F=true)(lF:Fs.length<=100)(lG:Gs.length<=100):
 Calls prog 79 #[va,vb] w (Uh Fs Gs w):=by
 obtain⟨i0,hi0,hz0,hz1,hz2⟩:=info_parts iU;obtain⟨aF,cF,rfl,-⟩:=hA.open;obtain⟨aG,cG,rfl,-⟩:=hB.open;have hb0:=eu w (.cells #[.slice none 0 0] 30);have hx0:Ext w (w.alloc (.cells #[.slice none 0 0] 30)):=by go_grown
 have hs0:(w.alloc (.cells #[.slice none 0 0] 30)).heap.size=w.heap.size+1:=fU _ _;have g1:¬((100:Int)<((Fs.length:Nat):Int)):=by omega
 have g2:¬((100:Int)<((Gs.length:Nat):Int)):=by omega
 have HA:=jm (hA.ext hx0) (hB.ext hx0);have HF:=jm hF hG;clear hA hB hF hG;go_enter Tryz.func79,Tryz.ntmps79
 go_upto_region 1 with fail
 generalize w.alloc (.cells #[.slice none 0 0] 30)=W0 at *;go_upto_region 4 with(go_at_call 55;refine(qY W0).mono ?_;rintro e w1 ⟨h,hh,rfl,hp1,tT,aga,hx1⟩;have hHh:=aW hh;clear hh)
 have hh:=hHh.out;have hP1:=dA.empty hp1 tT;obtain⟨W2,hW2,m0⟩:∃W,W=w1.alloc (.cells #[.slice none 0 0,.slice none 0 0] 117)/\GY W0 W W (h+1+1+1+1+1) h w1.heap.size uo (.slice none 0 0) (.slice none 0 0) [] []:=by
  refine⟨_,rfl,?_⟩;have hxa:Ext w1 (w1.alloc (.cells #[.slice none 0 0,.slice none 0 0] 117)):=bY (gz _ _) _;have hsz:(w1.alloc (.cells #[.slice none 0 0,.slice none 0 0] 117)).heap.size=w1.heap.size+1:=fU _ _;have hP:=hP1.ext hxa;refine⟨hP,λb hb=>by rcases uY hb with e|e <;> omega,ah hx1 hxa,⟨⟨by simp[dB],.inl ⟨rfl,rfl⟩⟩,⟨by simp[dB],.inl ⟨rfl,rfl⟩⟩,λb hb=>by simp[Value.ownBlock]at hb,λb hb=>by simp[Value.ownBlock]at hb⟩,eu w1 _,⟨λhb=>by rcases uY hb with e|e <;> omega,λhb=>by simp[uo]at hb⟩,by omega,by omega,by omega,aJ _⟩
 have hbW:=(ik hx1 hb0);clear hh hp1 tT aga hP1 hbW g1 g2;go_upto_region 5 with fail
 rw[<-hW2];clear hW2 hx1;generalize w1.heap.size=lb at *;obtain⟨pp,Ke⟩:=fu (h+1+1+1+1+1);rw[<-Ke]at m0 ⊢;clear Ke hHh;go_wp2
 go_loopw [8,9,11,26] (λ_ _ _ ki wr=>∃(k:Nat) (s:jF) (lv rv:Value) (L R:List Nat),k<=2/\ki=.int .i64 ((k:Nat):Int)/\GY W0 W2 wr pp h lb s lv rv L R/\Hid (mM s.D Fs L (if k=0 then 0 else Fs.length))/\Hid (mM s.D Gs R (if k=2 then Gs.length else 0))/\Hid (s.D.length<=120*(L.length+R.length))) (λ_ _ _ ki _=>2-(intOf ki).toNat)
 case atStart=>exact⟨0,uo,_,_,[],[],by omega,by go_num,m0,aW (mM.nil _ _),aW (mM.nil _ _),aW (by simp[uo])⟩
 case round=>
  clear m0;obtain⟨k,s,lv,rv,L,R,hk,rfl,hm,HL,HR,HD⟩:=hrel;rcases(show k=0\/k=1\/k=2 by omega)with rfl|rfl|rfl
  .have hKK:=True.intro
   clear hKK;have ix:∀w,(Instr.index 115 (.agg #[.slice aF Fs.length cF,.slice aG Gs.length cG]) (.int .i64 (0:Int))).run prog w=.ok (.slice aF Fs.length cF) w:=λ_=>by kernel_rfl
   have ix2:∀w,(Instr.index 115 (.agg #[.slice aF Fs.length cF,.slice aG Gs.length cG]) (.int .i64 ((0:Nat):Int))).run prog w=.ok (.slice aF Fs.length cF) w:=λ_=>by kernel_rfl
   go_upto_region 9 with fail
   go_loopw [11,32] (λ_ ii wr=>∃(i:Nat) (s:jF) (lv:Value) (L:List Nat),i<=Fs.length/\ii=.int .i64 ((i:Nat):Int)/\GY W0 W2 wr pp h lb s lv rv L R/\Hid (mM s.D Fs L (if 0=0 then i else Fs.length))/\Hid (mM s.D Gs R (if 0=0 then 0 else i))/\Hid (s.D.length<=120*(L.length+R.length))) (λ_ ii _=>Fs.length-(intOf ii).toNat)
   case atStart=>exact⟨0,s,_,_,aU _,by go_num,hm,HL,HR,HD⟩
   case round=>
    clear hm HL HR HD ix ix2;obtain⟨i,s1,lv,L,hi,rfl,hm,HL,HR,HD⟩:=hrel;by_cases hlt:i<Fs.length
    .have h1:((i:Nat):Int)<((Fs.length:Nat):Int):=by omega
     obtain⟨bb,off,cap',aE,cE,e',hci,hN⟩:=HA.out.1.at_ hlt;simp only[il,true_and]at e';obtain⟨rfl,rfl⟩:=e';obtain⟨hI,hfi⟩:=HF.out.1 _ (ai hlt);have Xv:=fw hm.ext hci;have kg:=aW hlt;obtain⟨E,eE⟩:=fu (Fs[i]'(kg.out));rw[<-eE]at Xv hN hI hfi;have EE:=aW eE;clear eE hci;obtain⟨l1,l2,uq⟩:=l6 hfi;have HAE:Hid (∀x,x∈E->x.1.length<=1000000/\x.2.length<=1000000):=λx hx=>by
      obtain⟨i,hi,rfl⟩:=aQ.1 hx;have:=uq i hi;exact⟨by omega,by omega⟩
     have hxa:Ext wr (wr.alloc (.cells #[.slice aE E.length cE] 30)):=(by go_grown);have hg0:=eu wr (.cells #[.slice aE E.length cE] 30);obtain⟨aq,cq,rfl,-,-⟩:=bT hm.mem.l;clear uq hlt;go_upto_region 11 with fail
     have hm1:=hm.ext' hxa;have hgz:=bW hg0;generalize wr.alloc (.cells #[.slice aE E.length cE] 30)=W at *;have c0:=bQ W wr.heap.size 0 _ _ _ hg0;simp only[gE]at c0;have YY:=aW (ni (.slice aE E.length cE) E W (hN.ext hm1.ext) hI hfi);go_upto_region 13 with(go_at_call 54;refine YY.out.mono ?_;rintro e w3 ⟨rfl,hx3⟩)
     have xJ:=hm1.ext' hx3;have c3:=fw hx3 c0;have b3:=bQ w3 lb 0 _ _ _ xJ.box;simp only[gE]at b3;have Ri:L.length<=100:=by first|(have h9:L.length=i:=HL.out.len;omega)|(have h9:L.length=Fs.length:=HL.out.len;omega)
     have hRl:R.length<=100:=by first|(have h9:R.length=0:=HR.out.len;omega)|(have h9:R.length=i:=HR.out.len;omega)
     have hDl:=HD.out;have HR0:=aW (λV (hV:Ext w3 V)=>sH pp h s1 (.slice aE E.length cE) E W0 V hN hI.good.wf (by omega) HAE.out (ah xJ.ext hV) (xJ.pool.ext hV) xJ.own (by omega));have YU:=aW xJ;have HXD:Hid (Ext w3 w3.drew):=aW (dQ ⟨1,rfl⟩);have HXL:Hid (mM s1.D Fs L i):=aW HL.out;have HW2:Hid (W2.heap.size<=w3.drew.heap.size):=aW (by exact xJ.sz);have HNW:Hid (¬lg pp h s1 wr.heap.size):=aW (hm.pool.new (aJ _)).1;have HLB:Hid (∀b,(Value.slice aq L.length cq).ownBlock=some b->b<wr.heap.size):=aW λb hb=>(hm.mem.l.lt b hb).2
     clear hm hm1 xJ hxa hg0 hx3 c0 YY hN Xv;refine oJ (λV=>V.cell? ⟨lb,0,none⟩=some (.slice aq L.length cq)/\V.cell? ⟨wr.heap.size,0,none⟩=some (.slice aE E.length cE)) [9,10] KW ⟨b3,c3⟩ (λaj ae=>?_);(refine bP 0 aj ae ?_;refine bP 1 aj ae ?_;refine bP 2 aj ae ?_;refine bP 3 aj ae ?_;refine bP 4 aj ae ?_;refine bP 5 aj ae ?_);(refine jv aj (i:=6) λK hK=>?_;go_simp);refine(HR0.out _ HXD.out).mono ?_;rintro e w4 ⟨s4,j4,rfl,hj4,hs4,jq,hD4,oK,hB4⟩;have P9:=aW ((YU.out.ext' HXD.out).go jq oK hB4);have akZ:W2.heap.size<=w4.heap.size:=bZ HW2.out jq.keep.size;have HGX:Hid (mM s4.D Fs (L++[j4]) (i+1)):=aW ((HXL.out.go YU.out.pool.good.wf jq).next kg.out hj4 (by rw[<-EE.out];exact hs4));have HOX:=aW (HR.out.go YU.out.pool.good.wf jq);have b4:=bQ w4 lb 0 _ _ _ P9.out.box;simp only[gE]at b4;have c4:=(mP (jq.keep.block wr.heap.size (bg (lt_of_cell c3) HXD.out.size) HNW.out)).trans (fw HXD.out c3);clear jq oK hB4 hj4 hs4;(refine hK.out _ _ (λ_=>?_) ?_)
     .exact⟨b4,c4⟩
     clear hK K;(try simp only[nP]);(refine jv aj (i:=7) λK hK=>?_;go_simp);(refine hK.out _ _ (λ_=>?_) ?_)
     .exact⟨aI b4 _,aI c4 _⟩
     clear hK K;(try simp only[nP]);refine jv aj (i:=8) λK hK=>?_
     refine jf rfl (.tmp 43) (.tmp 47) 41 rfl W2.heap.size 3 i0 (.int .i64 0) 1 8 underlying41 hi0 hz0 hz1 hz2 rfl (by decide) (.slice aq L.length cq) L.length _ rfl (dD P9.out.mem.l (bY (gz _ _) _)) _ 1 _ [.int .i64 ((j4:Nat):Int)] rfl rfl (.inr ⟨_,rfl,fD (dW _ _ _)⟩) one_cell (by unfold maxLen;omega) (by omega) (by rw[fU];omega) ?_;intro v9 w9 Fv Av L8;obtain⟨x9,y9,rfl,-,-⟩:=bT Fv;have c9:=(mP ((fP Av).block wr.heap.size (bg (lt_of_cell c4) (bY (gz _ _) _).size) (λhb=>by have:=HLB.out _ hb;omega))).trans (aI c4 (.cells #[.int .i64 ((j4:Nat):Int)] 3));obtain⟨Zg,q1,q2⟩:=P9.out.acY (i:=j4) (bY (gz _ _) _) Av Fv (by simp) (by rw[lS,dw];rfl) L8;have HM9:=aW Zg;clear Zg Fv Av L8;(refine hK.out _ _ (λ_=>?_) ?_)
     .exact⟨q1,c9⟩
     clear hK K;(try simp only[nP]);refine nQ aj [9,10] [_,_] ?_;clear aj ae b3 c3 b4 c4;go_wp2
     go_roundw
     case rel=>exact⟨i+1,s4,_,_,by omega,by go_num,HM9.out,by first|exact HGX|exact HOX,by first|exact HGX|exact HOX,aW (by simp only[bu,gI,qw];omega)⟩
     case measure=>simp[intOf];omega
    .have h1:¬(((i:Nat):Int)<((Fs.length:Nat):Int)):=by omega
     have hie:i=Fs.length:=(by omega);subst hie;go_wp2
     go_roundw
     case rel=>exact⟨0+1,s1,lv,rv,L,R,by omega,by go_num,hm,HL,HR,HD⟩
     case measure=>simp[intOf]
  .rw[show(((1:Nat)):Int)=1 from rfl]
   have ix:∀w,(Instr.index 115 (.agg #[.slice aF Fs.length cF,.slice aG Gs.length cG]) (.int .i64 (1:Int))).run prog w=.ok (.slice aG Gs.length cG) w:=λ_=>by kernel_rfl
   have ix2:∀w,(Instr.index 115 (.agg #[.slice aF Fs.length cF,.slice aG Gs.length cG]) (.int .i64 ((1:Nat):Int))).run prog w=.ok (.slice aG Gs.length cG) w:=λ_=>by kernel_rfl
   go_upto_region 9 with fail
   go_loopw [11,32] (λ_ ii wr=>∃(i:Nat) (s:jF) (rv:Value) (R:List Nat),i<=Gs.length/\ii=.int .i64 ((i:Nat):Int)/\GY W0 W2 wr pp h lb s lv rv L R/\Hid (mM s.D Fs L (if 1=0 then i else Fs.length))/\Hid (mM s.D Gs R (if 1=0 then 0 else i))/\Hid (s.D.length<=120*(L.length+R.length))) (λ_ ii _=>Gs.length-(intOf ii).toNat)
   case atStart=>exact⟨0,s,_,_,aU _,by go_num,hm,HL,HR,HD⟩
   case round=>
    clear hm HL HR HD ix ix2;obtain⟨i,s1,rv,R,hi,rfl,hm,HL,HR,HD⟩:=hrel;by_cases hlt:i<Gs.length
    .have h1:((i:Nat):Int)<((Gs.length:Nat):Int):=by omega
     obtain⟨bb,off,cap',aE,cE,e',hci,hN⟩:=HA.out.2.at_ hlt;simp only[il,true_and]at e';obtain⟨rfl,rfl⟩:=e';obtain⟨hI,hfi⟩:=HF.out.2 _ (ai hlt);have Xv:=fw hm.ext hci;have kg:=aW hlt;obtain⟨E,eE⟩:=fu (Gs[i]'(kg.out));rw[<-eE]at Xv hN hI hfi;have EE:=aW eE;clear eE hci;obtain⟨l1,l2,uq⟩:=l6 hfi;have HAE:Hid (∀x,x∈E->x.1.length<=1000000/\x.2.length<=1000000):=λx hx=>by
      obtain⟨i,hi,rfl⟩:=aQ.1 hx;have:=uq i hi;exact⟨by omega,by omega⟩
     have hxa:Ext wr (wr.alloc (.cells #[.slice aE E.length cE] 30)):=(by go_grown);have hg0:=eu wr (.cells #[.slice aE E.length cE] 30);obtain⟨aq,cq,rfl,-,-⟩:=bT hm.mem.r;clear uq hlt;go_upto_region 11 with fail
     have hm1:=hm.ext' hxa;have hgz:=bW hg0;generalize wr.alloc (.cells #[.slice aE E.length cE] 30)=W at *;have c0:=bQ W wr.heap.size 0 _ _ _ hg0;simp only[gE]at c0;have YY:=aW (ni (.slice aE E.length cE) E W (hN.ext hm1.ext) hI hfi);go_upto_region 13 with(go_at_call 54;refine YY.out.mono ?_;rintro e w3 ⟨rfl,hx3⟩)
     have xJ:=hm1.ext' hx3;have c3:=fw hx3 c0;have b3:=bQ w3 lb 1 _ _ _ xJ.box;simp only[gE]at b3;have Ri:L.length<=100:=by first|(have h9:L.length=i:=HL.out.len;omega)|(have h9:L.length=Fs.length:=HL.out.len;omega)
     have hRl:R.length<=100:=by first|(have h9:R.length=0:=HR.out.len;omega)|(have h9:R.length=i:=HR.out.len;omega)
     have hDl:=HD.out;have HR0:=aW (λV (hV:Ext w3 V)=>sH pp h s1 (.slice aE E.length cE) E W0 V hN hI.good.wf (by omega) HAE.out (ah xJ.ext hV) (xJ.pool.ext hV) xJ.own (by omega));have YU:=aW xJ;have HXD:Hid (Ext w3 w3.drew):=aW (dQ ⟨1,rfl⟩);have HXL:Hid (mM s1.D Gs R i):=aW HR.out;have HW2:Hid (W2.heap.size<=w3.drew.heap.size):=aW (by exact xJ.sz);have HNW:Hid (¬lg pp h s1 wr.heap.size):=aW (hm.pool.new (aJ _)).1;have HLB:Hid (∀b,(Value.slice aq R.length cq).ownBlock=some b->b<wr.heap.size):=aW λb hb=>(hm.mem.r.lt b hb).2
     clear hm hm1 xJ hxa hg0 hx3 c0 YY hN Xv;refine oJ (λV=>V.cell? ⟨lb,1,none⟩=some (.slice aq R.length cq)/\V.cell? ⟨wr.heap.size,0,none⟩=some (.slice aE E.length cE)) [9,10] KW ⟨b3,c3⟩ (λaj ae=>?_);(refine bP 0 aj ae ?_;refine bP 1 aj ae ?_;refine bP 2 aj ae ?_;refine bP 3 aj ae ?_;refine bP 4 aj ae ?_;refine bP 5 aj ae ?_);(refine jv aj (i:=6) λK hK=>?_;go_simp);refine(HR0.out _ HXD.out).mono ?_;rintro e w4 ⟨s4,j4,rfl,hj4,hs4,jq,hD4,oK,hB4⟩;have P9:=aW ((YU.out.ext' HXD.out).go jq oK hB4);have akZ:W2.heap.size<=w4.heap.size:=bZ HW2.out jq.keep.size;have HGX:Hid (mM s4.D Gs (R++[j4]) (i+1)):=aW ((HXL.out.go YU.out.pool.good.wf jq).next kg.out hj4 (by rw[<-EE.out];exact hs4));have HOX:=aW (HL.out.go YU.out.pool.good.wf jq);have b4:=bQ w4 lb 1 _ _ _ P9.out.box;simp only[gE]at b4;have c4:=(mP (jq.keep.block wr.heap.size (bg (lt_of_cell c3) HXD.out.size) HNW.out)).trans (fw HXD.out c3);clear jq oK hB4 hj4 hs4;(refine hK.out _ _ (λ_=>?_) ?_)
     .exact⟨b4,c4⟩
     clear hK K;(try simp only[nP]);(refine jv aj (i:=7) λK hK=>?_;go_simp);(refine hK.out _ _ (λ_=>?_) ?_)
     .exact⟨aI b4 _,aI c4 _⟩
     clear hK K;(try simp only[nP]);refine jv aj (i:=8) λK hK=>?_
     refine jf rfl (.tmp 43) (.tmp 47) 41 rfl W2.heap.size 3 i0 (.int .i64 0) 1 8 underlying41 hi0 hz0 hz1 hz2 rfl (by decide) (.slice aq R.length cq) R.length _ rfl (dD P9.out.mem.r (bY (gz _ _) _)) _ 1 _ [.int .i64 ((j4:Nat):Int)] rfl rfl (.inr ⟨_,rfl,fD (dW _ _ _)⟩) one_cell (by unfold maxLen;omega) (by omega) (by rw[fU];omega) ?_;intro v9 w9 Fv Av L8;obtain⟨x9,y9,rfl,-,-⟩:=bT Fv;have c9:=(mP ((fP Av).block wr.heap.size (bg (lt_of_cell c4) (bY (gz _ _) _).size) (λhb=>by have:=HLB.out _ hb;omega))).trans (aI c4 (.cells #[.int .i64 ((j4:Nat):Int)] 3));obtain⟨Zg,q1,q2⟩:=P9.out.acX (i:=j4) (bY (gz _ _) _) Av Fv (by simp) (by rw[lS,dw];rfl) L8;have HM9:=aW Zg;clear Zg Fv Av L8;(refine hK.out _ _ (λ_=>?_) ?_)
     .exact⟨q1,c9⟩
     clear hK K;(try simp only[nP]);refine nQ aj [9,10] [_,_] ?_;clear aj ae b3 c3 b4 c4;go_wp2
     go_roundw
     case rel=>exact⟨i+1,s4,_,_,by omega,by go_num,HM9.out,by first|exact HGX|exact HOX,by first|exact HGX|exact HOX,aW (by simp only[bu,gI,qw];omega)⟩
     case measure=>simp[intOf];omega
    .have h1:¬(((i:Nat):Int)<((Gs.length:Nat):Int)):=by omega
     have hie:i=Gs.length:=(by omega);subst hie;go_wp2
     go_roundw
     case rel=>exact⟨1+1,s1,lv,rv,L,R,by omega,by go_num,hm,HL,HR,HD⟩
     case measure=>simp[intOf]
  .obtain⟨al,cl,rfl,-,-⟩:=bT hm.mem.l
   obtain⟨ar,cr,rfl,-,-⟩:=bT hm.mem.r;have b0:=bQ wr lb 0 _ _ _ hm.box;have b1:=bQ wr lb 1 _ _ _ hm.box;simp only[gE]at b0 b1;have hlX:mM s.D Fs L Fs.length:=HL.out;have hrX:mM s.D Gs R Gs.length:=HR.out;have hll:=hlX.len;have hrl:=hrX.len;have hDl:=HD.out;have HN:=aW (λV (hV:Ext wr V)=>qW pp h s (.slice al L.length cl) (.slice ar R.length cr) L R V (hm.pool.ext hV) (by omega) hlX.lt hrX.lt (by omega) (by omega) (Ints.gm (dD hm.mem.l hV) (by rw[bG];omega)) (Ints.gm (dD hm.mem.r hV) (by rw[bG];omega)));have HX:=jm hlX hrX;have HM:=aW hm;have hr0:=ik hm.ext hb0;clear hm hlX hrX HL HR HD hll hrl hDl
   go_wp2_with (first
    |(go_at_call 72;refine(yQ pp h s5 j5 w5 HP5.out.1 HP5.out.2.1).mono ?_;rintro e w6 ⟨E,vN,Fr,ok6,sl,rfl,hE,hS,hok,ze,qG,hx6⟩
      obtain⟨aN,cN,rfl⟩:=qG.top;have hr6:=(hx6.block w.heap.size (bg (bW hb0) HP5.out.2.2.1.size)).trans (ik HP5.out.2.2.1 hb0);have t1:=bQ w6 w.heap.size 0 _ _ _ hr6;have t2:=gQ w6 w.heap.size 0 _ _ hr6;simp only[gE]at t1;have HV:=Aw hE hS hok ze qG;have HR6:=aW hr6;have Zu:=aW hx6;clear hE hS hok ze qG hx6 hr6)
    |(go_at_call 125;refine(HN.out _ (gz _ _)).mono ?_;rintro e w5 ⟨s5,j5,rfl,oq,Gj,ag8⟩
      have HP5:=Ap oq.pool Gj.lt (ko (ah HM.out.ext (gz _ _)) oq.keep HM.out.own) (R9 HM.out.pool.good.wf oq.pool.good.wf HX.out.1 HX.out.2 Gj);clear oq Gj ag8))
   (try simp only[Exit.inBlock,Exit.then]);have HW:=aW (gK w6 w.heap.size 0 _ _ (.slice aN Fr.length cN) HR6.out);refine mg w.heap.size 30 #[.slice aN Fr.length cN] HW.out underlying30 ?_;obtain⟨hE,hS,hok,ze,qG⟩:=HV.out;obtain⟨-,-,uj,hsame⟩:=HP5.out;refine⟨aN,Fr.length,cN,ok6,rfl,λhy=>?_,λhy M i1 i2=>?_,(ah (ah hx0 uj) Zu.out).setCell (p:=⟨w.heap.size,0,none⟩) (aJ _) _⟩
   .subst hy
    simp only[if_true]at ze;subst ze;have hz:=uj.size;exact⟨Fr,rfl,hE,bE.dn hS hsame,hok.symm,((Ak hok.symm qG).set (p:=⟨w.heap.size,0,none⟩) (by show w.heap.size<w5.heap.size;omega) _).weaken (by omega)⟩
   .have e:M=E:=bE.kQ i1 hE (bE.dn i2 (bE.dU (bE.dn hS hsame)))
    rw[e,<-hok,hy]
