/- 34 -/
import Derived.Test.YtplgooajigigkaaGreatDoorK31
set_option maxRecDepth 100000
set_option maxHeartbeats 4000000
namespace Go.Proofs.YtplgooajigigkaaGreatDoor
open Tryz
open Go.RowKit
open bE (dh Nd)
variable {w:World} {B n e g cap i:Nat} {v:Value} {sl:Nat->Value} {ls:Nat->List Int} {xs:List Value} {F:List ru}
def PW(l r:List Int)(w:World)(e:Ending)(w':World):Prop:=
 ∃(a:Option Addr) (c:Nat) (a2:Option Addr) (c2:Nat),e=.returned (.agg #[.slice a l.length c,.slice a2 r.length c2])/\w'.ownsRow w.heap.size 3 1 (.slice a l.length c) l.length (l.map (Value.int .i64))/\w'.ownsRow w.heap.size 3 1 (.slice a2 r.length c2) r.length (r.map (Value.int .i64))/\
  (∀b,Value.ownBlock (.slice a l.length c)=some b->Value.ownBlock (.slice a2 r.length c2)≠some b)/\Ext w w'
theorem Ns(v1 v2:Value)(l r:List Int)(w:World)(h1:Ints w v1 l)(h2:Ints w v2 r)(hl:l.length<=1048576)(hr:r.length<=1048576):
 Calls prog 71 #[.agg #[v1,v2]] w (PW l r w):=by
 obtain⟨a1,k1,rfl,-⟩:=id h1;obtain⟨a2,k2,rfl,-⟩:=id h2;obtain⟨W,hW,hE,b0,b1,b2,hz⟩:=Zt w (.cells #[.slice a1 l.length k1,.slice a2 r.length k2] 102) (.cells #[.slice none 0 0,.slice none 0 0] 91) (.cells #[.slice none 0 0,.slice none 0 0] 91);have c0:=bQ W w.heap.size 0 _ _ _ b0;simp only[gE]at c0;have HI:=jm h1 h2;clear h1 h2;go_enter Tryz.func71,Tryz.ntmps71
 go_upto_region 2 with fail
 rw[<-hW];clear hW;go_upto_region 3 with(go_at_call 122;refine(Ex _ l _ (HI.out.1.ext hE) hl).mono ?_;rintro e w1 ⟨v',rfl,ho,hx⟩;obtain⟨a',c',rfl,-⟩:=bT ho;have e2:=ik hx b2;have d20:=bQ w1 (w.heap.size+1+1) 0 _ _ _ e2;have f20:=gQ w1 (w.heap.size+1+1) 0 _ _ e2)
 have e0:=ik hx b0;have e1:=ik hx b1;have g2:=gK w1 (w.heap.size+1+1) 0 _ _ (.slice a' l.length c') e2;have g0:(w1.setCell ⟨w.heap.size+1+1,0,none⟩ (.slice a' l.length c')).heap[w.heap.size]?=some (.cells #[.slice a1 l.length k1,.slice a2 r.length k2] 102 (0,0)):=by rw[tQ _ _ _ _ (by simp <;> omega)];exact e0
 have g1:(w1.setCell ⟨w.heap.size+1+1,0,none⟩ (.slice a' l.length c')).heap[w.heap.size+1]?=some (.cells #[.slice none 0 0,.slice none 0 0] 91 (0,0)):=by rw[tQ _ _ _ _ (by simp <;> omega)];exact e1
 have hsep:∀b,Value.ownBlock (.slice a' l.length c')=some b->w.heap.size+1+1<b/\b<w1.heap.size:=λb hb=>by have:=ho.lt b hb;omega
 have ho2:=bS ho (dH (p:=⟨w.heap.size+1+1,0,none⟩) (v:=.slice a' l.length c')) (λb hb e=>by have:=hsep b hb;simp at e;omega);have hE2:=ll (ah hE hx) (w.heap.size+1+1) 0 (.slice a' l.length c');have hzz:w1.heap.size<=(w1.setCell ⟨w.heap.size+1+1,0,none⟩ (.slice a' l.length c')).heap.size:=(dH (w:=w1) (p:=⟨w.heap.size+1+1,0,none⟩) (v:=.slice a' l.length c')).size;have HO:=jm ho2 hsep;clear ho ho2 e0 e1 e2 d20 f20 b0 b1 b2 c0 hx hE hsep;generalize w1.setCell ⟨w.heap.size+1+1,0,none⟩ (.slice a' l.length c')=W2 at *;have h01:=bQ W2 w.heap.size 1 _ _ _ g0;simp only[gE]at h01;go_upto_region 4 with(go_at_call 122;refine(Ex _ r _ (HI.out.2.ext hE2) hr).mono ?_;rintro e w3 ⟨v3,rfl,ho3,hx3⟩;obtain⟨a3,c3,rfl,-⟩:=bT ho3;have j2:=ik hx3 g2;have d21:=bQ w3 (w.heap.size+1+1) 1 _ _ _ j2;have f21:=gQ w3 (w.heap.size+1+1) 1 _ _ j2)
 have j1:=ik hx3 g1;have m2:=gK w3 (w.heap.size+1+1) 1 _ _ (.slice a3 r.length c3) j2;have m1:(w3.setCell ⟨w.heap.size+1+1,1,none⟩ (.slice a3 r.length c3)).heap[w.heap.size+1]?=some (.cells #[.slice none 0 0,.slice none 0 0] 91 (0,0)):=by rw[tQ _ _ _ _ (by simp <;> omega)];exact j1
 have Iy:∀b,Value.ownBlock (.slice a3 r.length c3)=some b->W2.heap.size<=b:=λb hb=>(ho3.lt b hb).1
 have hW2:w.heap.size+1+1<W2.heap.size:=bW g2;have Dx:=bS ho3 (dH (p:=⟨w.heap.size+1+1,1,none⟩) (v:=.slice a3 r.length c3)) (λb hb e=>by have:=Iy b hb;simp at e;omega);have lq:=bS (dD HO.out.1 hx3) (dH (p:=⟨w.heap.size+1+1,1,none⟩) (v:=.slice a3 r.length c3)) (λb hb e=>by have:=(HO.out.2 b hb).1;simp at e;omega);have oK:=ll (ah hE2 hx3) (w.heap.size+1+1) 1 (.slice a3 r.length c3);have HQ:=Ap Dx lq Iy oK;clear ho3 Dx lq oK hE2 hx3 j1 j2 d21 f21 g0 g1 g2 h01 Iy;generalize w3.setCell ⟨w.heap.size+1+1,1,none⟩ (.slice a3 r.length c3)=W3 at *;have q20:=bQ W3 (w.heap.size+1+1) 0 _ _ _ m2;have q21:=bQ W3 (w.heap.size+1+1) 1 _ _ _ m2;have q10:=bQ W3 (w.heap.size+1) 0 _ _ _ m1;have q11:=bQ W3 (w.heap.size+1) 1 _ _ _ m1;have r10:=gQ W3 (w.heap.size+1) 0 _ _ m1;have r11:=gQ W3 (w.heap.size+1) 1 _ _ m1;have HH:=aW (gK _ _ 1 _ _ (.slice a3 r.length c3) (gK W3 (w.heap.size+1) 0 _ _ (.slice a' l.length c') m1));clear m1 m2;go_wp2
 (try simp only[Exit.inBlock,Exit.then]);refine bodyPost_ret (results_cell_row rfl _ _ (w.heap.size+1) 91 #[.slice a' l.length c',.slice a3 r.length c3] (0,0) _ rfl HH.out underlying91 rfl (by kernel_rfl)) rfl ?_;obtain⟨Dx,lq,Iy,oK⟩:=HQ.out
 have hk:∀{n:Nat} {v:Value} {xs:List Value} (_:∀b,v.ownBlock=some b->w.heap.size+1<b) (o:W3.ownsRow w.heap.size 3 1 v n xs),((W3.setCell ⟨w.heap.size+1,0,none⟩ (.slice a' l.length c')).setCell ⟨w.heap.size+1,1,none⟩ (.slice a3 r.length c3)).ownsRow w.heap.size 3 1 v n xs:=λh o=>
  bS (bS o (dH (p:=⟨w.heap.size+1,0,none⟩)) (λb hb e=>by have:=h b hb;simp at e;omega)) (dH (p:=⟨w.heap.size+1,1,none⟩)) (λb hb e=>by have:=h b hb;simp at e;omega)
 refine⟨a',c',a3,c3,rfl,hk (λb hb=>by have:=(HO.out.2 b hb).1;omega) (qd lq (by omega)),hk (λb hb=>by have:=Iy b hb;omega) (qd Dx (by omega)),λb hb e=>?_,ll (ll oK (w.heap.size+1) 0 _) (w.heap.size+1) 1 _⟩;have h1:=(HO.out.2 b hb).2;have h2:=Iy b e;omega
def Ob(F:List ru)(j:Nat):List Int:=if j % 2=0 then(F.getD (j / 2) ([],[])).1 else(F.getD (j / 2) ([],[])).2
structure FOk(w:World)(B:Nat)(v:Value)(n m:Nat)(sl:Nat->Value)(ls:Nat->List Int):Prop where
 row:∃xs,w.ownsRow B 91 2 v n xs/\∀j,j<2*m->xs[j]?=some (sl j)
 own:∀j,j<2*m->w.ownsRow B 3 1 (sl j) (ls j).length ((ls j).map (Value.int .i64))
 ap:∀i j,i<2*m->j<2*m->i≠j->∀b,(sl i).ownBlock=some b->(sl j).ownBlock≠some b
 Zr:∀j,j<2*m->∀b,(sl j).ownBlock=some b->v.ownBlock≠some b
theorem FOk.fo(h:FOk w B v n n sl ls):FO w B v n sl ls:=⟨h.row,h.own,h.ap,h.Zr⟩
theorem xU{k size:Nat}(h:w.ownsRow B e size (.slice (some ⟨g,0,none⟩) n cap) n xs)(x:Value):
 (w.setCell ⟨g,k,none⟩ x).ownsRow B e size (.slice (some ⟨g,0,none⟩) n cap) n (xs.set k x):=by
 obtain⟨hl,h2⟩:=h;refine⟨by simpa using hl,?_⟩;rcases h2 with⟨e1,e2⟩|⟨g',cap',cur,e1,hb,hg,hnc,hcm,hcs,ht⟩
 .cases e1
 .simp only[il,bU,Addr.mk.injEq,and_true,true_and]at e1
  obtain⟨rfl,rfl⟩:=e1;refine .inr ⟨g,cap,cur.setIfInBounds k x,rfl,hb,gK w g k _ _ x hg,hnc,hcm,by simpa using hcs,?_⟩;rw[Array.toList_setIfInBounds,List.take_set,ht]
theorem Oa(h:i<F.length):Ob F (2*i)=(F[i]).1/\Ob F (2*i+1)=(F[i]).2:=by
 have g:F.getD i ([],[])=F[i]:=by rw[bD,af h];rfl
 constructor
 .unfold Ob;rw[if_pos (by omega),show 2*i / 2=i by omega,g]
 .unfold Ob;rw[if_neg (by omega),show(2*i+1) / 2=i by omega,g]
theorem FOk.next{w1:World}{m:Nat}{u:Value}(h:FOk w B (.slice (some ⟨g,0,none⟩) n cap) n m sl ls)(hm:m<n)(hx:Ext w w1)
 (o1:w1.ownsRow w.heap.size 3 1 u (ls (2*m)).length ((ls (2*m)).map (Value.int .i64))) (o2:w1.ownsRow w.heap.size 3 1 v (ls (2*m+1)).length ((ls (2*m+1)).map (Value.int .i64))) (hap:∀b,u.ownBlock=some b->v.ownBlock≠some b) (hB:B<=w.heap.size):
 FOk ((w1.setCell ⟨g,m*2,none⟩ u).setCell ⟨g,m*2+1,none⟩ v) B (.slice (some ⟨g,0,none⟩) n cap) n (m+1) (λj=>if j=2*m then u else if j=2*m+1 then v else sl j) ls:=by
 obtain⟨xs,hr,hc⟩:=h.row;have hg:g<w.heap.size:=(hr.lt g rfl).2;have hl:xs.length=n*2:=by have:=hr.1;omega
 have keep:∀{x:Value} {k:Nat} {l:List Value} (_:∀b,x.ownBlock=some b->b≠g) (_:w1.ownsRow B 3 1 x k l),((w1.setCell ⟨g,m*2,none⟩ u).setCell ⟨g,m*2+1,none⟩ v).ownsRow B 3 1 x k l:=λhb o=>
  bS (bS o (dH (p:=⟨g,m*2,none⟩)) (λb h1 e=>hb b h1 e)) (dH (p:=⟨g,m*2+1,none⟩)) (λb h1 e=>hb b h1 e)
 have ub:∀b,u.ownBlock=some b->w.heap.size<=b:=λb hb=>(o1.lt b hb).1
 have vb:∀b,v.ownBlock=some b->w.heap.size<=b:=λb hb=>(o2.lt b hb).1
 have slb:∀j,j<2*m->∀b,(sl j).ownBlock=some b->b<w.heap.size/\b≠g:=λj hj b hb=>⟨((h.own j hj).lt b hb).2,λe=>by subst e;exact h.Zr j hj b hb rfl⟩
 refine⟨⟨(xs.set (m*2) u).set (m*2+1) v,xU (xU (dD hr hx) u) v,λj hj=>?_⟩,λj hj=>?_,λi j hi hj hij b h1 h2=>?_,λj hj b h1 h2=>?_⟩
 .show _=some (if j=2*m then u else if j=2*m+1 then v else sl j)
  by_cases c1:j=2*m
  .subst c1;rw[if_pos rfl,ic (by omega),iY 2 m,kK (by omega)]
  .rw[if_neg c1]
   by_cases c2:j=2*m+1
   .subst c2;rw[if_pos rfl,iY 2 m,kK (by simp;omega)]
   .rw[if_neg c2,ic (by omega),ic (by omega)];exact hc j (by omega)
 .show World.ownsRow _ _ _ _ (if j=2*m then u else if j=2*m+1 then v else sl j) _ _
  by_cases c1:j=2*m
  .subst c1;rw[if_pos rfl];exact keep (λb hb e=>by have:=ub b hb;omega) (qd o1 hB)
  .rw[if_neg c1]
   by_cases c2:j=2*m+1
   .subst c2;rw[if_pos rfl];exact keep (λb hb e=>by have:=vb b hb;omega) (qd o2 hB)
   .rw[if_neg c2];exact keep (λb hb=>(slb j (by omega) b hb).2) (dD (h.own j (by omega)) hx)
 .replace h1:Value.ownBlock (if i=2*m then u else if i=2*m+1 then v else sl i)=some b:=h1
  replace h2:Value.ownBlock (if j=2*m then u else if j=2*m+1 then v else sl j)=some b:=h2;by_cases i1:i=2*m
  .rw[if_pos i1]at h1
   rw[if_neg (by omega)]at h2;by_cases j2:j=2*m+1
   .rw[if_pos j2]at h2;exact hap b h1 h2
   .rw[if_neg j2]at h2;have:=ub b h1;have:=(slb j (by omega) b h2).1;omega
  .rw[if_neg i1]at h1
   by_cases i2:i=2*m+1
   .rw[if_pos i2]at h1
    by_cases j1:j=2*m
    .rw[if_pos j1]at h2;exact hap b h2 h1
    .rw[if_neg j1,if_neg (by omega)]at h2;have:=vb b h1;have:=(slb j (by omega) b h2).1;omega
   .rw[if_neg i2]at h1
    have hi':=(slb i (by omega) b h1).1;by_cases j1:j=2*m
    .rw[if_pos j1]at h2;have:=ub b h2;omega
    .rw[if_neg j1]at h2
     by_cases j2:j=2*m+1
     .rw[if_pos j2]at h2;have:=vb b h2;omega
     .rw[if_neg j2]at h2;exact h.ap i j (by omega) (by omega) hij b h1 h2
 .replace h1:Value.ownBlock (if j=2*m then u else if j=2*m+1 then v else sl j)=some b:=h1
  simp[Value.ownBlock]at h2;subst h2;by_cases j1:j=2*m
  .rw[if_pos j1]at h1;have:=ub _ h1;omega
  .rw[if_neg j1]at h1
   by_cases j2:j=2*m+1
   .rw[if_pos j2]at h1;have:=vb _ h1;omega
   .rw[if_neg j2]at h1;exact(slb j (by omega) _ h1).2 rfl
theorem RQ(h:w.ownsRow B e 2 (.slice (some ⟨g,0,none⟩) n cap) n xs)(hl:xs.length=n*2)(hi:i<n)(u:Value):
 ∃x0 x1,w.frozen? ⟨g,i*2,none⟩=false/\w.cell? ⟨g,i*2,none⟩=some x0/\(w.setCell ⟨g,i*2,none⟩ u).frozen? ⟨g,i*2+1,none⟩=false/\(w.setCell ⟨g,i*2,none⟩ u).cell? ⟨g,i*2+1,none⟩=some x1:=by
 have h2:=xU (k:=i*2) h u;obtain⟨g',c',e1,_,_,k1⟩:=iy h (by omega);simp only[il,bU,Addr.mk.injEq,and_true,true_and]at e1;obtain⟨rfl,-⟩:=e1;obtain⟨g2,c2,e2,_,_,k2⟩:=iy h2 (by omega);simp only[il,bU,Addr.mk.injEq,and_true,true_and]at e2;obtain⟨rfl,-⟩:=e2;exact⟨xs[i*2]'(by omega),xs[i*2+1]'(by omega),h.frozenAt _,(k1 _ (by omega)).trans (af (by omega)),h2.frozenAt _,(k2 _ (by omega)).trans (by rw[ic (by omega)];exact af (by omega))⟩
def MZ(F:List ru)(w:World)(e:Ending)(w':World):Prop:=∃(v':Value) (sl:Nat->Value),e=.returned v'/\FO w' w.heap.size v' F.length sl (Ob F)/\Ext w w'
theorem KC(v:Value)(F:List ru)(w:World)(h:oW w v F)(hl:F.length<=1048576)(hls:∀nd,nd∈F->nd.1.length<=1048576/\nd.2.length<=1048576):
 Calls prog 31 #[v] w (MZ F w):=by
 obtain⟨iN,hiN,zN0,zN1,zN2⟩:=info_parts vG;obtain⟨a,cap,rfl,hc1,hm1,-⟩:=id h;have hmk:=λw:World=>run_make (P:=prog) w 28 91 iN (.agg #[.slice none 0 0,.slice none 0 0]) underlying28 hiN zN0 .i64 .i64 (F.length:Int) (F.length:Int) (by omega) (by omega) (by rw[zN2];omega) (by omega)
 simp only[zN1,jB,Value.cells]at hmk;obtain⟨cs,hcs⟩:=fu (madeCells #[Value.slice none 0 0,Value.slice none 0 0] (F.length*2));rw[<-hcs]at hmk;have hr0:=World.ownsRow_lit w (base:=w.heap.size) cs F.length (e:=91) (size:=2) (aJ _) (by unfold maxLen;omega) (by rw[hcs,size_madeCells]);obtain⟨W0,hW0,hx0,-,-⟩:=Ce w (.cells cs 91);rw[<-hW0]at hr0;have f0:FOk W0 w.heap.size (.slice (some ⟨w.heap.size,0,none⟩) F.length F.length) F.length 0 (λ_=>.slice none 0 0) (Ob F):=⟨⟨_,hr0,λj hj=>absurd hj (by omega)⟩,λj hj=>absurd hj (by omega),λi j hi=>absurd hi (by omega),λj hj=>absurd hj (by omega)⟩;have HH:=jm h hls;clear hcs hr0 h hls;go_enter Tryz.func31,Tryz.ntmps31
 go_upto_region 2 with fail
 rw[<-hW0];clear hW0 hmk;obtain⟨B0,hBE⟩:=fu w.heap.size;rw[<-hBE]at f0 ⊢;have HBE:=aW hBE;clear hBE;have hB0:B0<=W0.heap.size:=by obtain⟨xs,hr,_⟩:=f0.row;exact Nat.le_of_lt (hr.lt B0 rfl).2
 go_wp2
 go_loopw [4] (λkk wr=>∃(i:Nat) (sl:Nat->Value),i<=F.length/\kk=.int .i64 ((i:Nat):Int)/\FOk wr B0 (.slice (some ⟨B0,0,none⟩) F.length F.length) F.length i sl (Ob F)/\Ext w wr/\Hid (B0<=wr.heap.size)) (λkk _=>F.length-(intOf kk).toNat)
 case atStart=>exact⟨0,_,aU _,by go_num,f0,hx0,hB0⟩
 case round=>
  clear f0 hx0 hB0;obtain⟨i,sl,hi,rfl,hF,hx,HB⟩:=hrel;by_cases hlt:i<F.length
  .have g1:((i:Nat):Int)<((F.length:Nat):Int):=by omega
   obtain⟨b1,off,d1,aL,cL,aR,cR,he1,-,l1,r1,iL,iR⟩:=(HH.out.1.ext hx).at hlt;simp only[il]at he1;obtain⟨rfl,-,rfl⟩:=he1;obtain⟨e1,e2⟩:=Oa hlt;obtain⟨m1,m2⟩:=HH.out.2 _ (ai hlt);obtain⟨zL,WI⟩:=fu ((F[i]).1);obtain⟨zR,WH⟩:=fu ((F[i]).2);rw[<-WI]at l1 iL e1 m1;rw[<-WH]at r1 iR e2 m2;have HT:=aW (Ns _ _ zL zR wr iL iR m1 m2);have HE:=jm e1 e2;have HFX:=jm hF hx;have kg:=aW hlt;clear iL iR e1 e2 m1 m2 WI WH hF hx hlt;go_upto_region 5 with fail
   go_wp2_with (go_at_call 71;refine HT.out.mono ?_;rintro e w1 ⟨a3,c3,a4,c4,rfl,ho1,ho2,hap,hx1⟩
                have ZA:=Ap ho1 ho2 hap hx1;obtain⟨xs,hr,hxs⟩:=HFX.out.1.row;have hr1:=dD hr hx1;have hlx:xs.length=F.length*2:=(by have:=hr1.1;omega);obtain⟨x0,x1,fz0,cz0,fz1,cz1⟩:=RQ hr1 hlx kg.out (.slice a3 zL.length c3);clear hr hr1 hxs hlx ho1 ho2 hap hx1)
   go_roundw
   case rel=>
    obtain⟨ho1,ho2,hap,hx1⟩:=ZA.out;have hlt:=kg.out;have nx:=HFX.out.1.next hlt hx1 (u:=.slice a3 zL.length c3) (v:=.slice a4 zR.length c4) (by rw[HE.out.1];exact ho1) (by rw[HE.out.2];exact ho2) hap HB.out;refine⟨i+1,_,by omega,by go_num,nx,((ah HFX.out.2 hx1).setCell (p:=⟨B0,i*2,none⟩) (by show w.heap.size<=B0;rw[HBE.out];exact aJ _) _).setCell (p:=⟨B0,i*2+1,none⟩) (by show w.heap.size<=B0;rw[HBE.out];exact aJ _) _,?_⟩;exact bZ HB.out (bZ hx1.size (bZ (dH (w:=w1) (p:=⟨B0,i*2,none⟩) (v:=.slice a3 zL.length c3)).size (dH (p:=⟨B0,i*2+1,none⟩) (v:=.slice a4 zR.length c4)).size))
   case measure=>have:=kg.out;simp[intOf];omega
  .have g1:¬(((i:Nat):Int)<((F.length:Nat):Int)):=by omega
   have hie:i=F.length:=(by omega);subst hie;have YZ:=aW hF.fo;clear hF;go_wp2
   go_ret
   exact⟨_,sl,rfl,by rw[<-HBE.out];exact YZ.out,hx⟩
theorem FO.down{B':Nat}(h:FO w B v n sl ls)(hB:B'<=B):FO w B' v n sl ls:=by
 obtain⟨xs,h1,h2⟩:=h.row;exact⟨⟨xs,qd h1 hB,h2⟩,λj hj=>qd (h.own j hj) hB,h.ap,h.Zr⟩
def PX(F:List ru)(w:World)(e:Ending)(w':World):Prop:=∃(a:Option Addr) (c:Nat) (sl:Nat->Value),e=.returned (.agg #[.slice a F.length c])/\FO w' w.heap.size (.slice a F.length c) F.length sl (Ob F)/\Ext w w'
theorem wC(v:Value)(F:List ru)(w:World)(h:oW w v F)(hl:F.length<=1048576)(hls:∀nd,nd∈F->nd.1.length<=1048576/\nd.2.length<=1048576):
 Calls prog 7 #[.agg #[v]] w (PX F w):=by
 obtain⟨a1,k1,rfl⟩:=h.slice;obtain⟨W,hW,hE,b0,b1,b2,hz⟩:=Zt w (.cells #[.slice a1 F.length k1] 24) (.cells #[.slice none 0 0] 30) (.cells #[.slice none 0 0] 30);have c0:=bQ W w.heap.size 0 _ _ _ b0;simp only[gE]at c0;have HT:=aW (KC _ F W (h.ext hE) hl hls);clear h hls;go_enter Tryz.func7,Tryz.ntmps7
 go_upto_region 2 with fail
 rw[<-hW];clear hW;go_upto_region 3 with(go_at_call 31;refine HT.out.mono ?_;rintro e w1 ⟨v',sl,rfl,qG,hx⟩;obtain⟨a',c',rfl⟩:=qG.top;have e2:=ik hx b2;have d20:=bQ w1 (w.heap.size+1+1) 0 _ _ _ e2;have f20:=gQ w1 (w.heap.size+1+1) 0 _ _ e2)
 have e1:=ik hx b1;have g2:=gK w1 (w.heap.size+1+1) 0 _ _ (.slice a' F.length c') e2;have g1:(w1.setCell ⟨w.heap.size+1+1,0,none⟩ (.slice a' F.length c')).heap[w.heap.size+1]?=some (.cells #[.slice none 0 0] 30 (0,0)):=by rw[tQ _ _ _ _ (by simp <;> omega)];exact e1
 have hE2:=ll (ah hE hx) (w.heap.size+1+1) 0 (.slice a' F.length c');have hF2:=qG.oP (dH (p:=⟨w.heap.size+1+1,0,none⟩) (v:=.slice a' F.length c')) (λb hb=>by subst hb;show w.heap.size+1+1<W.heap.size;omega);have HQ:=jm hF2 hE2;clear hF2 hE2 qG hx hE e1 e2 d20 f20 b0 b1 b2 c0;generalize w1.setCell ⟨w.heap.size+1+1,0,none⟩ (.slice a' F.length c')=W2 at *;have q2:=bQ W2 (w.heap.size+1+1) 0 _ _ _ g2;have q1:=bQ W2 (w.heap.size+1) 0 _ _ _ g1;have r1:=gQ W2 (w.heap.size+1) 0 _ _ g1;have HH:=aW (gK W2 (w.heap.size+1) 0 _ _ (.slice a' F.length c') g1);clear g1 g2;go_wp2
 (try simp only[Exit.inBlock,Exit.then]);refine bodyPost_ret (results_cell_row rfl _ _ (w.heap.size+1) 30 #[.slice a' F.length c'] (0,0) _ rfl HH.out underlying30 rfl (by kernel_rfl)) rfl ?_;exact⟨a',c',sl,rfl,(HQ.out.1.oP (dH (p:=⟨w.heap.size+1,0,none⟩)) (λb hb=>by subst hb;show w.heap.size+1<W.heap.size;omega)).down (by omega),ll HQ.out.2 (w.heap.size+1) 0 _⟩
theorem wD(t p:Int)(w:World):Calls prog 8 #[.agg #[.int .i64 t,.int .i64 p]] w λe w'=>e=.returned (.agg #[.int .i64 t,.int .i64 p])/\Ext w w':=by
 obtain⟨W,hW,hE,b0,b1,b2,hz⟩:=Zt w (.cells #[.int .i64 t,.int .i64 p] 26) (.cells #[.int .i64 0,.int .i64 0] 34) (.cells #[.int .i64 0,.int .i64 0] 34);have c0:=bQ W w.heap.size 0 _ _ _ b0;simp only[gE]at c0;have d20:=bQ W (w.heap.size+1+1) 0 _ _ _ b2;have f20:=gQ W (w.heap.size+1+1) 0 _ _ b2;go_enter Tryz.func8,Tryz.ntmps8
 go_upto_region 2 with fail
 rw[<-hW];clear hW;go_upto_region 3 with fail
 have g2:=gK W (w.heap.size+1+1) 0 _ _ (.int .i64 t) b2;have g0:(W.setCell ⟨w.heap.size+1+1,0,none⟩ (.int .i64 t)).heap[w.heap.size]?=some (.cells #[.int .i64 t,.int .i64 p] 26 (0,0)):=by rw[tQ _ _ _ _ (by simp <;> omega)];exact b0
 have g1:(W.setCell ⟨w.heap.size+1+1,0,none⟩ (.int .i64 t)).heap[w.heap.size+1]?=some (.cells #[.int .i64 0,.int .i64 0] 34 (0,0)):=by rw[tQ _ _ _ _ (by simp <;> omega)];exact b1
 have hE2:=ll hE (w.heap.size+1+1) 0 (.int .i64 t);clear d20 f20 b0 b1 b2 c0 hE;generalize W.setCell ⟨w.heap.size+1+1,0,none⟩ (.int .i64 t)=W2 at *;have h01:=bQ W2 w.heap.size 1 _ _ _ g0;have d21:=bQ W2 (w.heap.size+1+1) 1 _ _ _ g2;have f21:=gQ W2 (w.heap.size+1+1) 1 _ _ g2;simp only[gE]at h01;go_upto_region 4 with fail
 have m2:=gK W2 (w.heap.size+1+1) 1 _ _ (.int .i64 p) g2;have m1:(W2.setCell ⟨w.heap.size+1+1,1,none⟩ (.int .i64 p)).heap[w.heap.size+1]?=some (.cells #[.int .i64 0,.int .i64 0] 34 (0,0)):=by rw[tQ _ _ _ _ (by simp <;> omega)];exact g1
 have HE4:=aW (ll hE2 (w.heap.size+1+1) 1 (.int .i64 p));clear h01 d21 f21 g0 g1 g2 hE2;generalize W2.setCell ⟨w.heap.size+1+1,1,none⟩ (.int .i64 p)=W3 at *;have q20:=bQ W3 (w.heap.size+1+1) 0 _ _ _ m2;have q21:=bQ W3 (w.heap.size+1+1) 1 _ _ _ m2;have q10:=bQ W3 (w.heap.size+1) 0 _ _ _ m1;have q11:=bQ W3 (w.heap.size+1) 1 _ _ _ m1;have r10:=gQ W3 (w.heap.size+1) 0 _ _ m1;have r11:=gQ W3 (w.heap.size+1) 1 _ _ m1;have HH:=aW (gK _ _ 1 _ _ (.int .i64 p) (gK W3 (w.heap.size+1) 0 _ _ (.int .i64 t) m1));clear m1 m2;go_wp2
 (try simp only[Exit.inBlock,Exit.then]);refine bodyPost_ret (results_cell_row rfl _ _ (w.heap.size+1) 34 #[.int .i64 t,.int .i64 p] (0,0) _ rfl HH.out underlying34 rfl (by kernel_rfl)) rfl ?_;exact⟨rfl,ll (ll HE4.out (w.heap.size+1) 0 _) (w.heap.size+1) 1 _⟩
theorem FO.ES(h:FO w B v F.length sl (Ob F))(hs:∀nd,nd∈F->nd.1.length<=1048576/\nd.2.length<=1048576)(hl:F.length<=1048576):kH w v F:=by
 obtain⟨xs,h1,h2⟩:=h.row;obtain⟨a,cap,rfl,hc,hm⟩:=bT h1;refine⟨a,cap,rfl,hc,by unfold maxLen;omega,λh0=>?_⟩;obtain⟨g,cap',e,_,_,hcell⟩:=iy h1 h0;simp only[il]at e;obtain⟨rfl,-,-⟩:=e;refine⟨g,rfl,λi hi=>?_⟩;obtain⟨e0,e1⟩:=Oa hi;obtain⟨s0,s1⟩:=hs _ (ai hi);have o0:=h.own (2*i) (by omega);have o1:=h.own (2*i+1) (by omega);rw[e0]at o0;rw[e1]at o1;exact⟨sl (2*i),sl (2*i+1),by rw[hcell _ (by omega),iY];exact h2 _ (by omega),by rw[hcell _ (by omega),iY];exact h2 _ (by omega),Ints.gm o0 (by omega),Ints.gm o1 (by omega),λb hb=>(o0.lt b hb).2,λb hb=>(o1.lt b hb).2⟩
