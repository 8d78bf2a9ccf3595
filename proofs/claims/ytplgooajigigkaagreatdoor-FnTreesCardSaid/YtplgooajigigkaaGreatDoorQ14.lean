/- 14 -/
import Derived.Test.YtplgooajigigkaaGreatDoorQ13
set_option maxRecDepth 100000
set_option maxHeartbeats 4000000
namespace Go.Proofs.YtplgooajigigkaaGreatDoor
open Tryz
section
open Go.RowKit
open aZ (bG bT)
variable {p b:Nat} {t:Int} {V:World}
def xw(t:Int)(p:Nat):Value:=.agg #[.int .i64 t,.int .i64 (p:Int)]
def sc(t:Int)(p:Nat):Int:=t*2 ^ (24-p)
theorem ab5:(0:Int)<2 ^ (24-p)/\(2:Int) ^ (24-p)<=16777216:=by
 refine⟨Int.pow_pos (by omega),?_⟩;have h:(2:Int) ^ (24-p)*1<=2 ^ (24-p)*2 ^ (24-(24-p)):=Int.mul_le_mul_of_nonneg_left (by have:(0:Int)<2 ^ (24-(24-p)):=Int.pow_pos (by omega);omega) (Int.le_of_lt (Int.pow_pos (by omega)));rw[<-rP,show 24-p+(24-(24-p))=24 by omega]at h;omega
theorem uz{B:Int}(h1:-B<=t)(h2:t<=B):-(B*16777216)<=sc t p/\sc t p<=B*16777216:=by
 obtain⟨a,b⟩:=ab5 (p:=p);unfold sc;have hB:0<=B:=by omega
 have h3:B*2 ^ (24-p)<=B*16777216:=Int.mul_le_mul_of_nonneg_left b hB;have h4:t*2 ^ (24-p)<=B*2 ^ (24-p):=Int.mul_le_mul_of_nonneg_right h2 (by omega);have h5:-B*2 ^ (24-p)<=t*2 ^ (24-p):=Int.mul_le_mul_of_nonneg_right h1 (by omega);rw[Int.neg_mul]at h5;omega
theorem oV(t:Int)(p:Nat)(w:World)(hp:p<=24)(h1:-17179869184<=t)(h2:t<=17179869184):Calls prog 141 #[xw t p] w λe w'=>e=.returned (.int .i64 (sc t p))/\Ext w w':=by
 have hb:=uz (p:=p) (B:=17179869184) (by omega) h2;have hx:Ext w (w.alloc (.cells #[.int .i64 t,.int .i64 (p:Int)] 34)):=by go_grown
 have hk:(24-(p:Int)).toNat=24-p:=by omega
 have hq:(0:Int)<=24-(p:Int):=by omega
 have hw:wrap64 (sc t p)=sc t p:=by unfold wrap64;omega
 have hc0:=bI (w.alloc (.cells #[.int .i64 t,.int .i64 (p:Int)] 34)) w.heap.size 0 _ _ _ (dV w _);have hc1:=bI (w.alloc (.cells #[.int .i64 t,.int .i64 (p:Int)] 34)) w.heap.size 1 _ _ _ (dV w _);unfold sc at hw;unfold xw;go_enter Tryz.func141,Tryz.ntmps141
 go_wp2
 go_ret
 exact⟨jy hw,hx⟩
theorem xJ(a:Int):(a.tmod 2 == 0)=decide (a % 2=0):=by
 rw[fV];simp only[beq_iff_eq,decide_eq_true_eq];rw[<-Int.dvd_iff_tmod_eq_zero];omega
theorem MU{a:Int}(h:a % 2=0):a.tdiv 2=a / 2:=Int.tdiv_eq_ediv_of_dvd (by omega)
theorem dn{w:World}{x y:Value}{T:TypeId}(h:w.heap[b]?=some (.cells #[x,y] T (0,0))):
 w.cell? ⟨b,0,none⟩=some x/\w.frozen? ⟨b,0,none⟩=false/\(∀u,(w.setCell ⟨b,0,none⟩ u).cell? ⟨b,1,none⟩=some y/\(w.setCell ⟨b,0,none⟩ u).frozen? ⟨b,1,none⟩=false)/\
 ∀u v,((w.setCell ⟨b,0,none⟩ u).setCell ⟨b,1,none⟩ v).heap[b]?=some (.cells #[u,v] T (0,0)):=by
 have h1:∀u,(w.setCell ⟨b,0,none⟩ u).heap[b]?=some (.cells #[u,y] T (0,0)):=λu=>iV w b 0 _ _ u h
 exact⟨bI w b 0 _ _ _ h,iW w b 0 _ _ h,λu=>⟨bI _ b 1 _ _ _ (h1 u),iW _ b 1 _ _ (h1 u)⟩,λu v=>iV _ b 1 _ _ v (h1 u)⟩
theorem BI(t:Int)(p:Nat)(w:World)(hp:p<=64)(h1:-9223372036854775808<=t)(h2:t<=9223372036854775807):Calls prog 140 #[.int .i64 t,.int .i64 (p:Int)] w λe w'=>e=.returned (xw (bG p t) (bT p t))/\Ext w w':=by
 have hx:Ext w (w.alloc (.cells #[.int .i64 0,.int .i64 0] 34)):=by go_grown
 have hb:=dV w (.cells #[.int .i64 0,.int .i64 0] 34);go_enter Tryz.func140,Tryz.ntmps140
 go_upto_region 1 with fail
 generalize w.alloc (.cells #[.int .i64 0,.int .i64 0] 34)=W at *;go_loopw [0,1] (λtt pp wr=>wr=W/\∃(a:Int) (q:Nat),tt=.int .i64 a/\pp=.int .i64 (q:Int)/\q<=64/\-9223372036854775808<=a/\a<=9223372036854775807/\Hid (bG q a=bG p t/\bT q a=bT p t)) (λ_ pp _=>(intOf pp).toNat)
 case atStart=>exact⟨rfl,t,p,rfl,rfl,hp,h1,h2,aI ⟨rfl,rfl⟩⟩
 case round=>
  clear h1 h2 hp;obtain⟨rfl,a,q,rfl,rfl,hq,h1,h2,HE⟩:=hrel;by_cases h0:0<q
  .have g0:(0:Int)<((q:Nat):Int):=by omega
   by_cases e:a % 2=0
   .have e1:(a.tmod 2 == 0)=true:=by rw[xJ];simpa using e
    have e2:=MU e;have e3:wrap64 (a / 2)=a / 2:=(by unfold wrap64;omega);have HN:Hid (bG (q-1) (a / 2)=bG p t/\bT (q-1) (a / 2)=bT p t):=by
     obtain⟨x,y⟩:=HE.out;obtain⟨n,rfl⟩:∃n,q=n+1:=⟨q-1,by omega⟩;rw[bG,if_pos e]at x;rw[bT,if_pos e]at y;exact aI ⟨x,y⟩
    clear HE;go_wp2
    go_roundw
    case rel=>exact⟨trivial,a / 2,q-1,by go_num,by go_num,by omega,by omega,by omega,HN⟩
    case measure=>simp[intOf];omega
   .have e1:(a.tmod 2 == 0)=false:=by rw[xJ];simpa using e
    have HN:Hid (bG p t=a/\bT p t=q):=by
     obtain⟨x,y⟩:=HE.out;obtain⟨n,rfl⟩:∃n,q=n+1:=⟨q-1,by omega⟩;rw[bG,if_neg e]at x;rw[bT,if_neg e]at y;exact aI ⟨x.symm,y.symm⟩
    clear HE;obtain⟨q0,q1,q2,q3⟩:=dn hb;have q4:=(q2 (.int .i64 a)).1;have q5:=(q2 (.int .i64 a)).2;have HQ:=jW (q3 (.int .i64 a) (.int .i64 (q:Int))) hx;clear q2 q3 hb hx;go_wp2
    (try simp only[Exit.inBlock,Exit.then]);refine bodyPost_ret (results_cell_row rfl _ _ w.heap.size 34 #[.int .i64 a,.int .i64 (q:Int)] (0,0) _ rfl HQ.out.1 underlying34 rfl (by kernel_rfl)) rfl ?_;refine⟨by rw[HN.out.1,HN.out.2];rfl,(HQ.out.2.setCell (p:=⟨w.heap.size,0,none⟩) (ax _) _).setCell (p:=⟨w.heap.size,1,none⟩) (ax _) _⟩
  .have g0:¬(0:Int)<((q:Nat):Int):=by omega
   have HN:Hid (bG p t=a/\bT p t=q):=by
    obtain⟨x,y⟩:=HE.out;obtain rfl:q=0:=(by omega);exact aI ⟨x.symm,y.symm⟩
   clear HE;obtain⟨q0,q1,q2,q3⟩:=dn hb;have q4:=(q2 (.int .i64 a)).1;have q5:=(q2 (.int .i64 a)).2;have HQ:=jW (q3 (.int .i64 a) (.int .i64 (q:Int))) hx;clear q2 q3 hb hx;go_wp2
   (try simp only[Exit.inBlock,Exit.then]);refine bodyPost_ret (results_cell_row rfl _ _ w.heap.size 34 #[.int .i64 a,.int .i64 (q:Int)] (0,0) _ rfl HQ.out.1 underlying34 rfl (by kernel_rfl)) rfl ?_;refine⟨by rw[HN.out.1,HN.out.2];rfl,(HQ.out.2.setCell (p:=⟨w.heap.size,0,none⟩) (ax _) _).setCell (p:=⟨w.heap.size,1,none⟩) (ax _) _⟩
theorem kX(t:Int)(p:Nat):xw t p=.agg #[.int .i64 t,.int .i64 (p:Int)]:=rfl
def CG(V:World)(b:Nat)(t:Int)(p:Nat):Prop:=V.heap[b]?=some (.cells #[.int .i64 t,.int .i64 (p:Int)] 34 (0,0))
theorem CG.ext{V':World}(h:CG V b t p)(hx:Ext V V'):CG V' b t p:=kY hx h
theorem CG.cells(h:CG V b t p):V.cell? ⟨b,0,none⟩=some (.int .i64 t)/\V.cell? ⟨b,1,none⟩=some (.int .i64 (p:Int)):=⟨bI V b 0 _ _ _ h,bI V b 1 _ _ _ h⟩
theorem CG.four{c:Nat}{u:Int}{q:Nat}(h:CG V b t p)(k:CG V c u q):V.cell? ⟨b,0,none⟩=some (.int .i64 t)/\V.cell? ⟨b,1,none⟩=some (.int .i64 (p:Int))/\V.cell? ⟨c,0,none⟩=some (.int .i64 u)/\V.cell? ⟨c,1,none⟩=some (.int .i64 (q:Int)):=
 ⟨h.cells.1,h.cells.2,k.cells.1,k.cells.2⟩
theorem iy(w:World):Ext w w.drew:=dz ⟨1,rfl⟩
def Om:List Row:=[⟨0,[],6,[2]⟩,⟨1,[0],7,[5]⟩,⟨2,[],8,[3]⟩,⟨3,[2,1],9,[7]⟩,⟨4,[1,3],10,[6,8]⟩,⟨5,[4,3],11,[9]⟩,⟨6,[5,5,0,1,2,3,4,5],0,[4,10]⟩]
theorem D8(t u:Int)(p q:Nat)(w:World)(hp:p<=24)(hq:q<=24)(h1:-17179869184<=t)(h2:t<=17179869184)(h3:-17179869184<=u)(h4:u<=17179869184):
 Calls prog 98 #[xw t p,xw u q] w λe w'=>e=.returned (xw (bG 24 (sc t p+sc u q)) (bT 24 (sc t p+sc u q)))/\Ext w w':=by
 have b1:=uz (p:=p) (B:=17179869184) (by omega) h2;have b2:=uz (p:=q) (B:=17179869184) (by omega) h4;obtain⟨W,hW⟩:=eu (((w.alloc (.cells #[.int .i64 t,.int .i64 (p:Int)] 34)).alloc (.cells #[.int .i64 u,.int .i64 (q:Int)] 34)).alloc (.cells #[.int .i64 0,.int .i64 0] 34));have hx:Ext w W:=by subst hW;go_grown
 have hb0:W.heap[w.heap.size]?=some (.cells #[.int .i64 t,.int .i64 (p:Int)] 34 (0,0)):=by
  rw[hW,gI _ _ _ (by simp;omega),gI _ _ _ (by simp)];exact dV _ _
 have hb1:W.heap[w.heap.size+1]?=some (.cells #[.int .i64 u,.int .i64 (q:Int)] 34 (0,0)):=by
  rw[hW,gI _ _ _ (by simp)];have h:=dV (w.alloc (.cells #[.int .i64 t,.int .i64 (p:Int)] 34)) (.cells #[.int .i64 u,.int .i64 (q:Int)] 34);rw[eX]at h;exact h
 have hb2:W.heap[w.heap.size+1+1]?=some (.cells #[.int .i64 0,.int .i64 0] 34 (0,0)):=by
  rw[hW];have h:=dV ((w.alloc (.cells #[.int .i64 t,.int .i64 (p:Int)] 34)).alloc (.cells #[.int .i64 u,.int .i64 (q:Int)] 34)) (.cells #[.int .i64 0,.int .i64 0] 34);rw[eX,eX]at h;exact h
 have d0:CG W w.heap.size t p:=hb0;have d1:CG W (w.heap.size+1) u q:=hb1;have d2:CG W (w.heap.size+1+1) 0 0:=hb2;clear hb0 hb1 hb2;have aa:=(d0.ext (iy W)).four (d1.ext (iy W));have HD:=yD d0 d1 d2;have HX:=aI hx;have b3:IntKind.i64.wrap (sc t p+sc u q)=sc t p+sc u q:=(oo _).trans (by unfold wrap64;omega);clear d0 d1 d2 hx;rw[kX,kX];go_enter Tryz.func98,Tryz.ntmps98
 go_upto_region 1 with fail
 rw[<-hW];clear hW;refine mQ (λV=>V.cell? ⟨w.heap.size,0,none⟩=some (.int .i64 t)/\V.cell? ⟨w.heap.size,1,none⟩=some (.int .i64 (p:Int))/\V.cell? ⟨w.heap.size+1,0,none⟩=some (.int .i64 u)/\V.cell? ⟨w.heap.size+1,1,none⟩=some (.int .i64 (q:Int))) [6] Om aa (λai aa=>?_);(refine bg 0 ai aa ?_;refine bg 2 ai aa ?_);(refine kS ai (i:=1) λK hK=>?_;go_simp);refine(oV t p _ hp h1 h2).mono ?_;rintro e w1 ⟨rfl,hx1⟩;have hE1:=ah (iy W) hx1;refine hK.out _ _ (λ_=>(HD.out.1.ext hE1).four (HD.out.2.1.ext hE1)) ?_;have aa:=(HD.out.1.ext hE1).four (HD.out.2.1.ext hE1);clear hK K;(try simp only[nP]);(refine kS ai (i:=3) λK hK=>?_;go_simp);refine(oV u q _ hq h3 h4).mono ?_;rintro e w2 ⟨rfl,hx2⟩;have hE2:=ah hE1 hx2;refine hK.out _ _ (λ_=>(HD.out.1.ext hE2).four (HD.out.2.1.ext hE2)) ?_;have aa:=(HD.out.1.ext hE2).four (HD.out.2.1.ext hE2);clear hK K;(try simp only[nP]);(refine bg 4 ai aa ?_);(refine kS ai (i:=5) λK hK=>?_;go_simp);refine(BI _ 24 _ (by omega) (by omega) (by omega)).mono ?_;rintro e w3 ⟨rfl,hx3⟩;have pG:=ah hE2 hx3;refine hK.out _ _ (λ_=>(HD.out.1.ext pG).four (HD.out.2.1.ext pG)) ?_;clear hK K aa;have aa:=(HD.out.1.ext pG).four (HD.out.2.1.ext pG);(try simp only[nP]);refine mM ai [6] [_] ?_;clear ai aa;obtain⟨q0,q1,q2,q3⟩:=dn (HD.out.2.2.ext pG);have q4:=(q2 (.int .i64 (bG 24 (sc t p+sc u q)))).1;have q5:=(q2 (.int .i64 (bG 24 (sc t p+sc u q)))).2;have HQ:=aI (q3 (.int .i64 (bG 24 (sc t p+sc u q))) (.int .i64 ((bT 24 (sc t p+sc u q):Nat):Int)));have HE:=aI (ah HX.out pG);clear q2 q3 pG hE2 hE1 hx3 hx2 hx1;simp only[kX];go_wp2
 (try simp only[Exit.inBlock,Exit.then]);refine bodyPost_ret (results_cell_row rfl _ _ (w.heap.size+1+1) 34 #[.int .i64 (bG 24 (sc t p+sc u q)),.int .i64 ((bT 24 (sc t p+sc u q):Nat):Int)] (0,0) _ rfl HQ.out underlying34 rfl (by kernel_rfl)) rfl ?_;exact⟨rfl,oG (oG HE.out (w.heap.size+1+1) 0 _) (w.heap.size+1+1) 1 _⟩
theorem OX(t:Int)(p:Nat)(w:World)(h1:-9223372036854775807<=t)(h2:t<=9223372036854775807):Calls prog 138 #[xw t p] w λe w'=>e=.returned (xw (-t) p)/\Ext w w':=by
 obtain⟨W,hW⟩:=eu ((w.alloc (.cells #[.int .i64 t,.int .i64 (p:Int)] 34)).alloc (.cells #[.int .i64 0,.int .i64 0] 34));have hx:Ext w W:=by subst hW;go_grown
 have d0:CG W w.heap.size t p:=by
  show W.heap[w.heap.size]?=_;rw[hW,gI _ _ _ (by simp)];exact dV _ _
 have d1:CG W (w.heap.size+1) 0 0:=by
  show W.heap[w.heap.size+1]?=_;rw[hW];have h:=dV (w.alloc (.cells #[.int .i64 t,.int .i64 (p:Int)] 34)) (.cells #[.int .i64 0,.int .i64 0] 34);rw[eX]at h;exact h
 have b3:wrap64 (-t)=-t:=by unfold wrap64;omega
 obtain⟨c0,c1⟩:=d0.cells;obtain⟨q0,q1,q2,q3⟩:=dn d1;have q4:=(q2 (.int .i64 (-t))).1;have q5:=(q2 (.int .i64 (-t))).2;have HQ:=aI (q3 (.int .i64 (-t)) (.int .i64 (p:Int)));have HE:=aI hx;clear q2 q3 hx d0 d1;rw[kX];go_enter Tryz.func138,Tryz.ntmps138
 go_upto_region 1 with fail
 rw[<-hW];clear hW;go_wp2
 (try simp only[Exit.inBlock,Exit.then]);refine bodyPost_ret (results_cell_row rfl _ _ (w.heap.size+1) 34 #[.int .i64 (-t),.int .i64 (p:Int)] (0,0) _ rfl HQ.out underlying34 rfl (by kernel_rfl)) rfl ?_;exact⟨rfl,oG (oG HE.out (w.heap.size+1) 0 _) (w.heap.size+1) 1 _⟩
def Ka:List Row:=[⟨0,[],6,[2]⟩,⟨1,[0],7,[5]⟩,⟨2,[],8,[3]⟩,⟨3,[2,1],9,[7]⟩,⟨4,[1,3],10,[6,8]⟩,⟨5,[4,3,0,1,2,3,4],5,[9]⟩]
theorem KN(t u:Int)(p q:Nat)(w:World)(hp:p<=24)(hq:q<=24)(h1:-17179869184<=t)(h2:t<=17179869184)(h3:-17179869184<=u)(h4:u<=17179869184):
 Calls prog 157 #[xw t p,xw u q] w λe w'=>e=.returned (.bool (decide (sc t p<sc u q)))/\Ext w w':=by
 obtain⟨W,hW⟩:=eu ((w.alloc (.cells #[.int .i64 t,.int .i64 (p:Int)] 34)).alloc (.cells #[.int .i64 u,.int .i64 (q:Int)] 34));have hx:Ext w W:=by subst hW;go_grown
 have d0:CG W w.heap.size t p:=by
  show W.heap[w.heap.size]?=_;rw[hW,gI _ _ _ (by simp)];exact dV _ _
 have d1:CG W (w.heap.size+1) u q:=by
  show W.heap[w.heap.size+1]?=_;rw[hW];have h:=dV (w.alloc (.cells #[.int .i64 t,.int .i64 (p:Int)] 34)) (.cells #[.int .i64 u,.int .i64 (q:Int)] 34);rw[eX]at h;exact h
 have aa:=(d0.ext (iy W)).four (d1.ext (iy W));have HD:=jW d0 d1;have HX:=aI hx;clear d0 d1 hx;rw[kX,kX];go_enter Tryz.func157,Tryz.ntmps157
 go_upto_region 1 with fail
 rw[<-hW];clear hW;refine mQ (λV=>V.cell? ⟨w.heap.size,0,none⟩=some (.int .i64 t)/\V.cell? ⟨w.heap.size,1,none⟩=some (.int .i64 (p:Int))/\V.cell? ⟨w.heap.size+1,0,none⟩=some (.int .i64 u)/\V.cell? ⟨w.heap.size+1,1,none⟩=some (.int .i64 (q:Int))) [5] Ka aa (λai aa=>?_);(refine bg 0 ai aa ?_;refine bg 2 ai aa ?_);(refine kS ai (i:=1) λK hK=>?_;go_simp);refine(oV t p _ hp h1 h2).mono ?_;rintro e w1 ⟨rfl,hx1⟩;have hE1:=ah (iy W) hx1;refine hK.out _ _ (λ_=>(HD.out.1.ext hE1).four (HD.out.2.ext hE1)) ?_;have aa:=(HD.out.1.ext hE1).four (HD.out.2.ext hE1);clear hK K;(try simp only[nP]);(refine kS ai (i:=3) λK hK=>?_;go_simp);refine(oV u q _ hq h3 h4).mono ?_;rintro e w2 ⟨rfl,hx2⟩;have hE2:=ah hE1 hx2;refine hK.out _ _ (λ_=>(HD.out.1.ext hE2).four (HD.out.2.ext hE2)) ?_;have aa:=(HD.out.1.ext hE2).four (HD.out.2.ext hE2);clear hK K;(try simp only[nP]);have HE:=aI (ah HX.out hE2);clear hE2 hE1 hx2 hx1;by_cases hlt:sc t p<sc u q
 all_goals
  (refine bg 4 ai aa ?_);refine mM ai [5] [_] ?_;clear ai aa;go_wp2
  go_ret
  exact⟨dI (by simp[hlt]),HE.out⟩
end
section
open Go.RowKit
theorem xq(w:World)(X:Obj):∃W,W=w.alloc X/\Ext w W/\W.heap[w.heap.size]?=some X/\W.heap.size=w.heap.size+1:=⟨_,rfl,by go_grown,dV _ _,eX _ _⟩
theorem Uv(w:World)(X Y:Obj):∃W,W=(w.alloc X).alloc Y/\Ext w W/\W.heap[w.heap.size]?=some X/\W.heap[w.heap.size+1]?=some Y/\W.heap.size=w.heap.size+1+1:=by
 refine⟨_,rfl,by go_grown,?_,?_,by simp only[eX]⟩
 .rw[gI _ _ _ (by simp only[eX];omega)];exact dV _ _
 .have h:=dV (w.alloc X) Y;rw[eX]at h;exact h
def CJ(Q:Prop)(w:World)(e:Ending)(w':World):Prop:=∃b:Bool,e=.returned (.bool b)/\(b=true↔Q)/\Ext w w'
end
section
open Go.RowKit
open aZ (bG bT)
def Hz(X:Int):Nat:=if 0<X then 1 else((-X) / 16777216).toNat+2
theorem Wv{X:Int}{n:Nat}(h:1<=n):16777216<X+(n:Int)*16777216↔Hz X<=n:=by
 unfold Hz;split <;> omega
theorem Wu(X:Int):1<=Hz X:=by unfold Hz;split <;> omega
def ZB(X:Int):Int:=bG (bT 24 (X+(Hz X:Int)*16777216)+Hz X-1) (bG 24 (X+(Hz X:Int)*16777216))
def ZC(X:Int):Nat:=bT (bT 24 (X+(Hz X:Int)*16777216)+Hz X-1) (bG 24 (X+(Hz X:Int)*16777216))
theorem OZ(t:Int)(p:Nat)(w:World)(hp:p<=24)(h1:-1048576<=t)(h2:t<=1048576)(hX:-335544320<=sc t p)(hX2:sc t p<=335544320):
 Calls prog 139 #[xw t p] w λe w'=>e=.returned (xw (ZB (sc t p)) (ZC (sc t p)))/\Ext w w':=by
 have hb:=uz (p:=p) (B:=1048576) (by omega) h2;obtain⟨W,hW,hx,b0,b1,hz⟩:=Uv w (.cells #[.int .i64 t,.int .i64 (p:Int)] 34) (.cells #[.int .i64 0,.int .i64 0] 34);have hNs:Hz (sc t p)<=22:=by unfold Hz;split <;> omega
 have hNp:=Wu (sc t p);have hs1:sc 1 0=16777216:=by decide
 have hsn:∀n:Nat,sc (n:Int) 0=(n:Int)*16777216:=λn=>by unfold sc;simp
 obtain⟨X,YX⟩:=eu (sc t p);obtain⟨N,hNe⟩:=eu (Hz X);rw[<-YX]at hX hX2 hb hNs hNp ⊢;rw[<-hNe]at hNs hNp;have HX:=yD hx b0 b1;have HN:=JM YX hNe hNs hNp;have HB:=jW hX hX2;have tH:Hid (∀(n:Nat) (V:World),n<=22->Calls prog 98 #[xw t p,xw (n:Int) 0] V λe w'=>e=.returned (xw (bG 24 (X+(n:Int)*16777216)) (bT 24 (X+(n:Int)*16777216)))/\Ext V w'):=aI λn V hn=>by
  have h:=D8 t (n:Int) p 0 V (by omega) (by omega) (by omega) (by omega) (by omega) (by omega);rw[hsn,<-YX]at h;exact h
 have low:=λn:Nat=>aZ.uH 24 (X+(n:Int)*16777216)
 have U5:Hid (∀(n:Nat) (V:World),1<=n->n<=22->Calls prog 157 #[xw 1 0,xw (bG 24 (X+(n:Int)*16777216)) (bT 24 (X+(n:Int)*16777216))] V λe w'=>e=.returned (.bool (decide (N<=n)))/\Ext V w'):=aI λn V hn1 hn=>by
  have e:=(low n).2.1;have l1:=(low n).1;have l2:=aZ.qd 24 (X+(n:Int)*16777216);have h:=KN 1 (bG 24 (X+(n:Int)*16777216)) 0 (bT 24 (X+(n:Int)*16777216)) V (by omega) l1 (by omega) (by omega) (by omega) (by omega);rw[hs1,show sc (bG 24 (X+(n:Int)*16777216)) (bT 24 (X+(n:Int)*16777216))=X+(n:Int)*16777216 from e]at h;rw[hNe,show decide (Hz X<=n)=decide (16777216<X+(n:Int)*16777216) from decide_eq_decide.2 (Wv hn1).symm];exact h
 have Zi:Hid (∀V:World,Calls prog 140 #[.int .i64 (bG 24 (X+(N:Int)*16777216)),.int .i64 (((bT 24 (X+(N:Int)*16777216):Nat):Int)+(N:Int)-1)] V λe w'=>e=.returned (xw (ZB X) (ZC X))/\Ext V w'):=aI λV=>by
  have l1:=(low N).1;have l2:=aZ.qd 24 (X+(N:Int)*16777216);have h:=BI (bG 24 (X+(N:Int)*16777216)) (bT 24 (X+(N:Int)*16777216)+N-1) V (by omega) (by omega) (by omega);rw[show((bT 24 (X+(N:Int)*16777216)+N-1:Nat):Int)=((bT 24 (X+(N:Int)*16777216):Nat):Int)+(N:Int)-1 by omega]at h;unfold ZB ZC;rw[<-hNe];exact h
 have HLP:=aI (low N).1;have c0:=bI W w.heap.size 0 _ _ _ b0;have c1:=bI W w.heap.size 1 _ _ _ b0;simp only[gE]at c0 c1;clear low hsn hs1 hb b0 b1 hx YX hNe hX hX2;simp only[kX]at tH U5 Zi ⊢;go_enter Tryz.func139,Tryz.ntmps139
 go_upto_region 1 with fail
 rw[<-hW];clear hW;go_upto_region 2 with fail
 go_loopw [3] (λnn wr=>∃n:Nat,1<=n/\n<=N/\nn=.int .i64 ((n:Nat):Int)/\Ext W wr) (λnn _=>N-(intOf nn).toNat)
 case atStart=>exact⟨1,ax _,hNp,rfl,fJ _ _⟩
 case round=>
  obtain⟨n,hn1,hn,rfl,hE⟩:=hrel;have d0:=dP hE c0;have d1:=dP hE c1;have HE:=aI hE;by_cases hlt:n<N
  .have hd:decide (N<=n)=false:=by simp;omega
   have HL:Hid (∀V:World,Calls prog 157 #[.agg #[.int .i64 1,.int .i64 ((0:Nat):Int)],.agg #[.int .i64 (bG 24 (X+(n:Int)*16777216)),.int .i64 ((bT 24 (X+(n:Int)*16777216):Nat):Int)]] V λe w'=>e=.returned (.bool false)/\Ext V w'):=aI λV=>by
    have h:=U5.out n V hn1 (by omega);rw[hd]at h;exact h
   have HA:=aI (λV=>tH.out n V (by omega));have Qn:=yD hlt hn1 hNs;clear hd hE c0 c1 hlt hn hn1 hNs
   go_wp2_with (first
    |(go_at_call 157;refine(HL.out _).mono ?_;rintro e w3 ⟨rfl,hx3⟩)
    |(go_at_call 98;refine(HA.out _).mono ?_;rintro e w2 ⟨rfl,hx2⟩))
   go_roundw
   case rel=>exact⟨n+1,by omega,Qn.out.1,by have:=Qn.out;rw[show wrap64 ((n:Int)+1)=(n:Int)+1 by unfold wrap64;omega];rfl,ah HE.out (ah hx2 hx3)⟩
   case measure=>have:=Qn.out;have hwk:wrap64 ((n:Int)+1)=(n:Int)+1:=(by unfold wrap64;omega);rw[hwk];simp only[intOf];have:=hNp;omega
  .have hne:n=N:=by omega
   subst hne;have hd:decide (n<=n)=true:=(by simp);have HL:Hid (∀V:World,Calls prog 157 #[.agg #[.int .i64 1,.int .i64 ((0:Nat):Int)],.agg #[.int .i64 (bG 24 (X+(n:Int)*16777216)),.int .i64 ((bT 24 (X+(n:Int)*16777216):Nat):Int)]] V λe w'=>e=.returned (.bool true)/\Ext V w'):=aI λV=>by
    have h:=U5.out n V hn1 (by omega);rw[hd]at h;exact h
   have HA:=aI (λV=>tH.out n V (by omega));have d1b:=kY hE HX.out.2.2;have HXX:=jW (ah HX.out.1 hE) d1b;clear hd hE c0 c1 hn d1b
   go_upto_region 4 with(first
    |(go_at_call 157;refine(HL.out _).mono ?_;rintro e w3 ⟨rfl,hx3⟩;have g0:=dP (ah hx2 hx3) d0;have g1:=dP (ah hx2 hx3) d1)
    |(go_at_call 98;refine(HA.out _).mono ?_;rintro e w2 ⟨rfl,hx2⟩))
   go_upto_region 5 with(go_at_call 98;refine(HA.out _).mono ?_;rintro e w4 ⟨rfl,hx4⟩)
   have hxa:Ext w4 (w4.alloc (.cells #[.int .i64 (bG 24 (X+(n:Int)*16777216)),.int .i64 ((bT 24 (X+(n:Int)*16777216):Nat):Int)] 34)):=(by go_grown);have Xu:=dV w4 (.cells #[.int .i64 (bG 24 (X+(n:Int)*16777216)),.int .i64 ((bT 24 (X+(n:Int)*16777216):Nat):Int)] 34);have hx5:=ah (ah (ah hx2 hx3) hx4) hxa;have b5:=kY hx5 HXX.out.2;generalize w4.alloc (.cells #[.int .i64 (bG 24 (X+(n:Int)*16777216)),.int .i64 ((bT 24 (X+(n:Int)*16777216):Nat):Int)] 34)=W5 at *;have q0:=bI W5 w4.heap.size 0 _ _ _ Xu;have q1:=bI W5 w4.heap.size 1 _ _ _ Xu;simp only[gE]at q0 q1;have HH5:=jW b5 hx5;have hlp:=HLP.out;clear Xu hx5 b5 hxa hx4 hx3 hx2 g0 g1 d0 d1
   go_wp2_with (go_at_call 140;refine(Zi.out _).mono ?_;rintro e w6 ⟨rfl,hx6⟩
                have b6:=kY hx6 HH5.out.1;have z1:=bI w6 (w.heap.size+1) 0 _ _ _ b6;have z2:=bI w6 (w.heap.size+1) 1 _ _ _ b6;have z3:=iW w6 (w.heap.size+1) 0 _ _ b6;have z4:=iW w6 (w.heap.size+1) 1 _ _ b6;have H6:=jW b6 hx6;clear b6 hx6)
   (try simp only[Exit.inBlock,Exit.then]);refine bodyPost_ret (results_cell_row rfl _ _ (w.heap.size+1) 34 #[.int .i64 (ZB X),.int .i64 ((ZC X:Nat):Int)] (0,0) _ rfl (iV _ _ 1 _ _ (.int .i64 ((ZC X:Nat):Int)) (iV w6 (w.heap.size+1) 0 _ _ (.int .i64 (ZB X)) H6.out.1)) underlying34 rfl (by kernel_rfl)) rfl ?_;exact⟨rfl,oG (oG (ah (ah HXX.out.1 HH5.out.2) H6.out.2) (w.heap.size+1) 0 _) (w.heap.size+1) 1 _⟩
end
section
open Go.RowKit
theorem O9:(prog.info? 5).map (λi=>(i.zero,i.size,i.bytes))=some (some (.int .u8 0),1,1):=by kernel_rfl
def Vh(w:World)(e:Ending)(w':World):Prop:=∃(v':Value) (Yu:List Nat),e=.returned v'/\nX w' v' (wJ Yu)/\(∀u,u∈Yu->u<256)/\Ext w w'
theorem VP:((List.range 256).all λu=>decide (0<=bits BinOp.xor IntKind.u8 ((u:Nat):Int) 1/\bits BinOp.xor IntKind.u8 ((u:Nat):Int) 1<256))=true:=by decide +kernel
theorem Qt{u:Nat}(h:u<256):∃x:Nat,x<256/\bits BinOp.xor IntKind.u8 ((u:Nat):Int) 1=((x:Nat):Int):=by
 have:=of_decide_eq_true (List.all_eq_true.1 VP u (dJ.2 h));exact⟨(bits BinOp.xor IntKind.u8 ((u:Nat):Int) 1).toNat,by omega,by omega⟩
theorem nX.at8{w:World}{a:Option Addr}{n cap:Nat}{us:List Nat}(h:nX w (.slice a n cap) (wJ us)){i:Nat}(hi:i<us.length):∃b off,a=some ⟨b,off,none⟩/\∀j (hj:j<us.length),w.cell? ⟨b,off+j,none⟩=some (.int .u8 ((us[j]:Nat):Int)):=by
 obtain⟨a',cap',e,-,-,hc⟩:=h;simp only[gz]at e;obtain⟨rfl,-,-⟩:=e;obtain⟨b,off,rfl,hcl⟩:=hc (by simp[wJ];omega);refine⟨b,off,rfl,λj hj=>?_⟩;have:=hcl j (by simp[wJ];exact hj)
 simpa [wJ]using this
theorem Bf(v:Value)(us:List Nat)(w:World)(hv:nX w v (wJ us))(hs:∀u,u∈us->u<256)(hl:us.length<=65536):Calls prog 22 #[v,.int .i64 1] w (Vh w):=by
 obtain⟨i0,hi0,hz0,hz1,hz2⟩:=info_parts O9;obtain⟨a,cap,rfl,-,-,-⟩:=id hv;have hn:(wJ us).length=us.length:=by simp[wJ]
 rw[hn]at hv ⊢;have HV:=yD hv hs hl;clear hv hs hn;go_enter Tryz.func22,Tryz.ntmps22
 go_upto_region 2 with fail
 have hx0:Ext w (w.alloc (.cells #[.int .u8 (37+(us.length:Int) % 50)] 5)):=by go_grown
 have ho0:(w.alloc (.cells #[.int .u8 (37+(us.length:Int) % 50)] 5)).ownsRow w.heap.size 5 1 (.slice (some ⟨w.heap.size,0,none⟩) 1 1) 1 (wJ [37+us.length % 50]):=by
  have e:(.int .u8 (37+(us.length:Int) % 50):Value)=.int .u8 ((37+us.length % 50:Nat):Int):=by congr 1
  rw[e];exact⟨by simp[wJ],.inr ⟨w.heap.size,1,_,rfl,ax _,dV w _,ax _,by decide,rfl,by simp[wJ]⟩⟩
 generalize w.alloc (.cells #[.int .u8 (37+(us.length:Int) % 50)] 5)=W at *;have HI:=JM hi0 hz0 hz1 hz2;clear hi0 hz0 hz1 hz2;go_wp2
 go_loopw [5,6] (λov ii wr=>∃(i:Nat) (out:List Nat),ii=.int .i64 ((i:Nat):Int)/\1<=i/\i<=70000/\out.length<=i/\wr.ownsRow w.heap.size 5 1 ov out.length (wJ out)/\Ext w wr/\Hid (∀u,u∈out->u<256)) (λ_ ii _=>us.length-(intOf ii).toNat)
 case atStart=>exact⟨1,[37+us.length % 50],rfl,by omega,by omega,by simp,ho0,hx0,aI λu hu=>by simp at hu;omega⟩
 case round=>
  clear ho0 hx0;obtain⟨i,out,rfl,hi1,hi7,hol,ho,hx,HS⟩:=hrel;obtain⟨ao,co,rfl,Tc,Xp⟩:=bu ho;by_cases hlt:i<us.length
  .have h1:((i:Nat):Int)<((us.length:Nat):Int):=by omega
   obtain⟨b,off,rfl,hcl⟩:=(HV.out.1.ext hx).at8 hlt;have c1:=hcl i hlt;have hu:=HV.out.2.1 _ (aj hlt);generalize us[i]=u at c1 hu;have hlen:us.length<=65536:=HV.out.2.2;have hz:=hx.size;clear hcl;obtain⟨x,Ae,hxe⟩:=Qt hu;have hzo:out.length<=70000:=(by omega);have HX8:=yD Ae hx hi7;clear hu Ae hi7;go_wp2_with (at_builtin;refine dm rfl (.tmp 22) (.tmp 30) 39 rfl w.heap.size 5 i0 (.int .u8 0) 1 1 underlying39 HI.out.1 HI.out.2.1 HI.out.2.2.1 HI.out.2.2.2 rfl (by decide) (.slice ao out.length co) out.length (wJ out) rfl (ho.alloc _) _ 1 _ [.int .u8 ((x:Nat):Int)] rfl rfl (.inr ⟨_,rfl,dA (bY _ _ _)⟩) (by intro u hu;simp at hu;subst hu;rfl) (by unfold maxLen;omega) (by omega) (by rw[eX];omega) ?_;intro v7 w7 zf zS Lj)
   go_roundw
   case rel=>exact⟨i+1,out++[x],by go_num,by omega,by have:=HX8.out.2.2;omega,by simp;omega,by rw[aK];simpa [wJ]using zf,dw (bJ HX8.out.2.1 _) zS (λq hq=>(ho.lt q hq).1),aI λu hu=>by
    rcases aM.1 hu with h|h
    .exact HS.out u h
    .obtain rfl:u=x:=by simpa using h
     exact HX8.out.1⟩
   case measure=>simp[intOf];omega
  .have h1:¬(((i:Nat):Int)<((us.length:Nat):Int)):=by omega
   go_wp2
   go_ret
   exact⟨_,out,rfl,nX.dX ho (by simp[wJ];omega),HS.out,hx⟩
end
