/- 31 -/
import Derived.Test.YtplgooajigigkaaGreatDoorK26
import Derived.Test.YtplgooajigigkaaGreatDoorK30
set_option maxRecDepth 100000
set_option maxHeartbeats 4000000
namespace Go.Proofs.YtplgooajigigkaaGreatDoor
open Tryz
section
open Go.RowKit
open bE (dO dP)
variable {p b:Nat} {t:Int} {V:World}
def tY(t:Int)(p:Nat):Value:=.agg #[.int .i64 t,.int .i64 (p:Int)]
def sc(t:Int)(p:Nat):Int:=t*2 ^ (24-p)
theorem VH:(0:Int)<2 ^ (24-p)/\(2:Int) ^ (24-p)<=16777216:=by
 refine⟨wu (by omega),?_⟩;have h:(2:Int) ^ (24-p)*1<=2 ^ (24-p)*2 ^ (24-(24-p)):=rX (by have:(0:Int)<2 ^ (24-(24-p)):=wu (by omega);omega) (Int.le_of_lt (wu (by omega)));rw[<-wy,show 24-p+(24-(24-p))=24 by omega]at h;omega
theorem qb{B:Int}(h1:-B<=t)(h2:t<=B):-(B*16777216)<=sc t p/\sc t p<=B*16777216:=by
 obtain⟨a,b⟩:=VH (p:=p);unfold sc;have hB:0<=B:=by omega
 have h3:B*2 ^ (24-p)<=B*16777216:=rX b hB;have h4:t*2 ^ (24-p)<=B*2 ^ (24-p):=Int.mul_le_mul_of_nonneg_right h2 (by omega);have h5:-B*2 ^ (24-p)<=t*2 ^ (24-p):=Int.mul_le_mul_of_nonneg_right h1 (by omega);rw[Int.neg_mul]at h5;omega
theorem mW(t:Int)(p:Nat)(w:World)(hp:p<=24)(h1:-17179869184<=t)(h2:t<=17179869184):Calls prog 141 #[tY t p] w λe w'=>e=.returned (.int .i64 (sc t p))/\Ext w w':=by
 have hb:=qb (p:=p) (B:=17179869184) (by omega) h2;have hx:Ext w (w.alloc (.cells #[.int .i64 t,.int .i64 (p:Int)] 34)):=by go_grown
 have hk:(24-(p:Int)).toNat=24-p:=by omega
 have hq:(0:Int)<=24-(p:Int):=by omega
 have hw:wrap64 (sc t p)=sc t p:=by unfold wrap64;omega
 have hc0:=bQ (w.alloc (.cells #[.int .i64 t,.int .i64 (p:Int)] 34)) w.heap.size 0 _ _ _ (eu w _);have hc1:=bQ (w.alloc (.cells #[.int .i64 t,.int .i64 (p:Int)] 34)) w.heap.size 1 _ _ _ (eu w _);unfold sc at hw;unfold tY;go_enter Tryz.func141,Tryz.ntmps141
 go_wp2
 go_ret
 exact⟨iW hw,hx⟩
theorem AX(a:Int):(a.tmod 2 == 0)=decide (a % 2=0):=by
 rw[uk];simp only[beq_iff_eq,decide_eq_true_eq];rw[<-Int.dvd_iff_tmod_eq_zero];omega
theorem QA{a:Int}(h:a % 2=0):a.tdiv 2=a / 2:=Int.tdiv_eq_ediv_of_dvd (by omega)
theorem eZ{w:World}{x y:Value}{T:TypeId}(h:w.heap[b]?=some (.cells #[x,y] T (0,0))):
 w.cell? ⟨b,0,none⟩=some x/\w.frozen? ⟨b,0,none⟩=false/\(∀u,(w.setCell ⟨b,0,none⟩ u).cell? ⟨b,1,none⟩=some y/\(w.setCell ⟨b,0,none⟩ u).frozen? ⟨b,1,none⟩=false)/\
 ∀u v,((w.setCell ⟨b,0,none⟩ u).setCell ⟨b,1,none⟩ v).heap[b]?=some (.cells #[u,v] T (0,0)):=by
 have h1:∀u,(w.setCell ⟨b,0,none⟩ u).heap[b]?=some (.cells #[u,y] T (0,0)):=λu=>gK w b 0 _ _ u h
 exact⟨bQ w b 0 _ _ _ h,gQ w b 0 _ _ h,λu=>⟨bQ _ b 1 _ _ _ (h1 u),gQ _ b 1 _ _ (h1 u)⟩,λu v=>gK _ b 1 _ _ v (h1 u)⟩
theorem Fb(t:Int)(p:Nat)(w:World)(hp:p<=64)(h1:-9223372036854775808<=t)(h2:t<=9223372036854775807):Calls prog 140 #[.int .i64 t,.int .i64 (p:Int)] w λe w'=>e=.returned (tY (dO p t) (dP p t))/\Ext w w':=by
 have hx:Ext w (w.alloc (.cells #[.int .i64 0,.int .i64 0] 34)):=by go_grown
 have hb:=eu w (.cells #[.int .i64 0,.int .i64 0] 34);go_enter Tryz.func140,Tryz.ntmps140
 go_upto_region 1 with fail
 generalize w.alloc (.cells #[.int .i64 0,.int .i64 0] 34)=W at *;go_loopw [0,1] (λtt pp wr=>wr=W/\∃(a:Int) (q:Nat),tt=.int .i64 a/\pp=.int .i64 (q:Int)/\q<=64/\-9223372036854775808<=a/\a<=9223372036854775807/\Hid (dO q a=dO p t/\dP q a=dP p t)) (λ_ pp _=>(intOf pp).toNat)
 case atStart=>exact⟨rfl,t,p,rfl,rfl,hp,h1,h2,aW ⟨rfl,rfl⟩⟩
 case round=>
  clear h1 h2 hp;obtain⟨rfl,a,q,rfl,rfl,hq,h1,h2,HE⟩:=hrel;by_cases h0:0<q
  .have g0:(0:Int)<((q:Nat):Int):=by omega
   by_cases e:a % 2=0
   .have e1:(a.tmod 2 == 0)=true:=by rw[AX];simpa using e
    have e2:=QA e;have e3:wrap64 (a / 2)=a / 2:=(by unfold wrap64;omega);have HN:Hid (dO (q-1) (a / 2)=dO p t/\dP (q-1) (a / 2)=dP p t):=by
     obtain⟨x,y⟩:=HE.out;obtain⟨n,rfl⟩:∃n,q=n+1:=⟨q-1,by omega⟩;rw[dO,if_pos e]at x;rw[dP,if_pos e]at y;exact aW ⟨x,y⟩
    clear HE;go_wp2
    go_roundw
    case rel=>exact⟨trivial,a / 2,q-1,by go_num,by go_num,by omega,by omega,by omega,HN⟩
    case measure=>simp[intOf];omega
   .have e1:(a.tmod 2 == 0)=false:=by rw[AX];simpa using e
    have HN:Hid (dO p t=a/\dP p t=q):=by
     obtain⟨x,y⟩:=HE.out;obtain⟨n,rfl⟩:∃n,q=n+1:=⟨q-1,by omega⟩;rw[dO,if_neg e]at x;rw[dP,if_neg e]at y;exact aW ⟨x.symm,y.symm⟩
    clear HE;obtain⟨q0,q1,q2,q3⟩:=eZ hb;have q4:=(q2 (.int .i64 a)).1;have q5:=(q2 (.int .i64 a)).2;have HQ:=jm (q3 (.int .i64 a) (.int .i64 (q:Int))) hx;clear q2 q3 hb hx;go_wp2
    (try simp only[Exit.inBlock,Exit.then]);refine bodyPost_ret (results_cell_row rfl _ _ w.heap.size 34 #[.int .i64 a,.int .i64 (q:Int)] (0,0) _ rfl HQ.out.1 underlying34 rfl (by kernel_rfl)) rfl ?_;refine⟨by rw[HN.out.1,HN.out.2];rfl,(HQ.out.2.setCell (p:=⟨w.heap.size,0,none⟩) (aJ _) _).setCell (p:=⟨w.heap.size,1,none⟩) (aJ _) _⟩
  .have g0:¬(0:Int)<((q:Nat):Int):=by omega
   have HN:Hid (dO p t=a/\dP p t=q):=by
    obtain⟨x,y⟩:=HE.out;obtain rfl:q=0:=(by omega);exact aW ⟨x.symm,y.symm⟩
   clear HE;obtain⟨q0,q1,q2,q3⟩:=eZ hb;have q4:=(q2 (.int .i64 a)).1;have q5:=(q2 (.int .i64 a)).2;have HQ:=jm (q3 (.int .i64 a) (.int .i64 (q:Int))) hx;clear q2 q3 hb hx;go_wp2
   (try simp only[Exit.inBlock,Exit.then]);refine bodyPost_ret (results_cell_row rfl _ _ w.heap.size 34 #[.int .i64 a,.int .i64 (q:Int)] (0,0) _ rfl HQ.out.1 underlying34 rfl (by kernel_rfl)) rfl ?_;refine⟨by rw[HN.out.1,HN.out.2];rfl,(HQ.out.2.setCell (p:=⟨w.heap.size,0,none⟩) (aJ _) _).setCell (p:=⟨w.heap.size,1,none⟩) (aJ _) _⟩
theorem gM(t:Int)(p:Nat):tY t p=.agg #[.int .i64 t,.int .i64 (p:Int)]:=rfl
def oQ(V:World)(b:Nat)(t:Int)(p:Nat):Prop:=V.heap[b]?=some (.cells #[.int .i64 t,.int .i64 (p:Int)] 34 (0,0))
theorem oQ.ext{V':World}(h:oQ V b t p)(hx:Ext V V'):oQ V' b t p:=ik hx h
theorem oQ.cells(h:oQ V b t p):V.cell? ⟨b,0,none⟩=some (.int .i64 t)/\V.cell? ⟨b,1,none⟩=some (.int .i64 (p:Int)):=⟨bQ V b 0 _ _ _ h,bQ V b 1 _ _ _ h⟩
theorem oQ.four{c:Nat}{u:Int}{q:Nat}(h:oQ V b t p)(k:oQ V c u q):V.cell? ⟨b,0,none⟩=some (.int .i64 t)/\V.cell? ⟨b,1,none⟩=some (.int .i64 (p:Int))/\V.cell? ⟨c,0,none⟩=some (.int .i64 u)/\V.cell? ⟨c,1,none⟩=some (.int .i64 (q:Int)):=
 ⟨h.cells.1,h.cells.2,k.cells.1,k.cells.2⟩
theorem eX(w:World):Ext w w.drew:=dQ ⟨1,rfl⟩
def R5:List Row:=[⟨0,[],6,[2]⟩,⟨1,[0],7,[5]⟩,⟨2,[],8,[3]⟩,⟨3,[2,1],9,[7]⟩,⟨4,[1,3],10,[6,8]⟩,⟨5,[4,3],11,[9]⟩,⟨6,[5,5,0,1,2,3,4,5],0,[4,10]⟩]
theorem sI(t u:Int)(p q:Nat)(w:World)(hp:p<=24)(hq:q<=24)(h1:-17179869184<=t)(h2:t<=17179869184)(h3:-17179869184<=u)(h4:u<=17179869184):
 Calls prog 98 #[tY t p,tY u q] w λe w'=>e=.returned (tY (dO 24 (sc t p+sc u q)) (dP 24 (sc t p+sc u q)))/\Ext w w':=by
 have b1:=qb (p:=p) (B:=17179869184) (by omega) h2;have b2:=qb (p:=q) (B:=17179869184) (by omega) h4;obtain⟨W,hW⟩:=fu (((w.alloc (.cells #[.int .i64 t,.int .i64 (p:Int)] 34)).alloc (.cells #[.int .i64 u,.int .i64 (q:Int)] 34)).alloc (.cells #[.int .i64 0,.int .i64 0] 34));have hx:Ext w W:=by subst hW;go_grown
 have hb0:W.heap[w.heap.size]?=some (.cells #[.int .i64 t,.int .i64 (p:Int)] 34 (0,0)):=by
  rw[hW,jo _ _ _ (by simp;omega),jo _ _ _ (by simp)];exact eu _ _
 have hb1:W.heap[w.heap.size+1]?=some (.cells #[.int .i64 u,.int .i64 (q:Int)] 34 (0,0)):=by
  rw[hW,jo _ _ _ (by simp)];have h:=eu (w.alloc (.cells #[.int .i64 t,.int .i64 (p:Int)] 34)) (.cells #[.int .i64 u,.int .i64 (q:Int)] 34);rw[fU]at h;exact h
 have hb2:W.heap[w.heap.size+1+1]?=some (.cells #[.int .i64 0,.int .i64 0] 34 (0,0)):=by
  rw[hW];have h:=eu ((w.alloc (.cells #[.int .i64 t,.int .i64 (p:Int)] 34)).alloc (.cells #[.int .i64 u,.int .i64 (q:Int)] 34)) (.cells #[.int .i64 0,.int .i64 0] 34);rw[fU,fU]at h;exact h
 have d0:oQ W w.heap.size t p:=hb0;have d1:oQ W (w.heap.size+1) u q:=hb1;have d2:oQ W (w.heap.size+1+1) 0 0:=hb2;clear hb0 hb1 hb2;have ae:=(d0.ext (eX W)).four (d1.ext (eX W));have HD:=nY d0 d1 d2;have HX:=aW hx;have b3:IntKind.i64.wrap (sc t p+sc u q)=sc t p+sc u q:=(l9 _).trans (by unfold wrap64;omega);clear d0 d1 d2 hx;rw[gM,gM];go_enter Tryz.func98,Tryz.ntmps98
 go_upto_region 1 with fail
 rw[<-hW];clear hW;refine oJ (λV=>V.cell? ⟨w.heap.size,0,none⟩=some (.int .i64 t)/\V.cell? ⟨w.heap.size,1,none⟩=some (.int .i64 (p:Int))/\V.cell? ⟨w.heap.size+1,0,none⟩=some (.int .i64 u)/\V.cell? ⟨w.heap.size+1,1,none⟩=some (.int .i64 (q:Int))) [6] R5 ae (λaj ae=>?_);(refine bP 0 aj ae ?_;refine bP 2 aj ae ?_);(refine jv aj (i:=1) λK hK=>?_;go_simp);refine(mW t p _ hp h1 h2).mono ?_;rintro e w1 ⟨rfl,hx1⟩;have hE1:=ah (eX W) hx1;refine hK.out _ _ (λ_=>(HD.out.1.ext hE1).four (HD.out.2.1.ext hE1)) ?_;have ae:=(HD.out.1.ext hE1).four (HD.out.2.1.ext hE1);clear hK K;(try simp only[nP]);(refine jv aj (i:=3) λK hK=>?_;go_simp);refine(mW u q _ hq h3 h4).mono ?_;rintro e w2 ⟨rfl,hx2⟩;have hE2:=ah hE1 hx2;refine hK.out _ _ (λ_=>(HD.out.1.ext hE2).four (HD.out.2.1.ext hE2)) ?_;have ae:=(HD.out.1.ext hE2).four (HD.out.2.1.ext hE2);clear hK K;(try simp only[nP]);(refine bP 4 aj ae ?_);(refine jv aj (i:=5) λK hK=>?_;go_simp);refine(Fb _ 24 _ (by omega) (by omega) (by omega)).mono ?_;rintro e w3 ⟨rfl,hx3⟩;have mZ:=ah hE2 hx3;refine hK.out _ _ (λ_=>(HD.out.1.ext mZ).four (HD.out.2.1.ext mZ)) ?_;clear hK K ae;have ae:=(HD.out.1.ext mZ).four (HD.out.2.1.ext mZ);(try simp only[nP]);refine nQ aj [6] [_] ?_;clear aj ae;obtain⟨q0,q1,q2,q3⟩:=eZ (HD.out.2.2.ext mZ);have q4:=(q2 (.int .i64 (dO 24 (sc t p+sc u q)))).1;have q5:=(q2 (.int .i64 (dO 24 (sc t p+sc u q)))).2;have HQ:=aW (q3 (.int .i64 (dO 24 (sc t p+sc u q))) (.int .i64 ((dP 24 (sc t p+sc u q):Nat):Int)));have HE:=aW (ah HX.out mZ);clear q2 q3 mZ hE2 hE1 hx3 hx2 hx1;simp only[gM];go_wp2
 (try simp only[Exit.inBlock,Exit.then]);refine bodyPost_ret (results_cell_row rfl _ _ (w.heap.size+1+1) 34 #[.int .i64 (dO 24 (sc t p+sc u q)),.int .i64 ((dP 24 (sc t p+sc u q):Nat):Int)] (0,0) _ rfl HQ.out underlying34 rfl (by kernel_rfl)) rfl ?_;exact⟨rfl,ll (ll HE.out (w.heap.size+1+1) 0 _) (w.heap.size+1+1) 1 _⟩
theorem nk(t:Int)(p:Nat)(w:World)(h1:-9223372036854775807<=t)(h2:t<=9223372036854775807):Calls prog 138 #[tY t p] w λe w'=>e=.returned (tY (-t) p)/\Ext w w':=by
 obtain⟨W,hW⟩:=fu ((w.alloc (.cells #[.int .i64 t,.int .i64 (p:Int)] 34)).alloc (.cells #[.int .i64 0,.int .i64 0] 34));have hx:Ext w W:=by subst hW;go_grown
 have d0:oQ W w.heap.size t p:=by
  show W.heap[w.heap.size]?=_;rw[hW,jo _ _ _ (by simp)];exact eu _ _
 have d1:oQ W (w.heap.size+1) 0 0:=by
  show W.heap[w.heap.size+1]?=_;rw[hW];have h:=eu (w.alloc (.cells #[.int .i64 t,.int .i64 (p:Int)] 34)) (.cells #[.int .i64 0,.int .i64 0] 34);rw[fU]at h;exact h
 have b3:wrap64 (-t)=-t:=by unfold wrap64;omega
 obtain⟨c0,c1⟩:=d0.cells;obtain⟨q0,q1,q2,q3⟩:=eZ d1;have q4:=(q2 (.int .i64 (-t))).1;have q5:=(q2 (.int .i64 (-t))).2;have HQ:=aW (q3 (.int .i64 (-t)) (.int .i64 (p:Int)));have HE:=aW hx;clear q2 q3 hx d0 d1;rw[gM];go_enter Tryz.func138,Tryz.ntmps138
 go_upto_region 1 with fail
 rw[<-hW];clear hW;go_wp2
 (try simp only[Exit.inBlock,Exit.then]);refine bodyPost_ret (results_cell_row rfl _ _ (w.heap.size+1) 34 #[.int .i64 (-t),.int .i64 (p:Int)] (0,0) _ rfl HQ.out underlying34 rfl (by kernel_rfl)) rfl ?_;exact⟨rfl,ll (ll HE.out (w.heap.size+1) 0 _) (w.heap.size+1) 1 _⟩
def ND:List Row:=[⟨0,[],6,[2]⟩,⟨1,[0],7,[5]⟩,⟨2,[],8,[3]⟩,⟨3,[2,1],9,[7]⟩,⟨4,[1,3],10,[6,8]⟩,⟨5,[4,3,0,1,2,3,4],5,[9]⟩]
theorem tK(t u:Int)(p q:Nat)(w:World)(hp:p<=24)(hq:q<=24)(h1:-17179869184<=t)(h2:t<=17179869184)(h3:-17179869184<=u)(h4:u<=17179869184):
 Calls prog 157 #[tY t p,tY u q] w λe w'=>e=.returned (.bool (decide (sc t p<sc u q)))/\Ext w w':=by
 obtain⟨W,hW⟩:=fu ((w.alloc (.cells #[.int .i64 t,.int .i64 (p:Int)] 34)).alloc (.cells #[.int .i64 u,.int .i64 (q:Int)] 34));have hx:Ext w W:=by subst hW;go_grown
 have d0:oQ W w.heap.size t p:=by
  show W.heap[w.heap.size]?=_;rw[hW,jo _ _ _ (by simp)];exact eu _ _
 have d1:oQ W (w.heap.size+1) u q:=by
  show W.heap[w.heap.size+1]?=_;rw[hW];have h:=eu (w.alloc (.cells #[.int .i64 t,.int .i64 (p:Int)] 34)) (.cells #[.int .i64 u,.int .i64 (q:Int)] 34);rw[fU]at h;exact h
 have ae:=(d0.ext (eX W)).four (d1.ext (eX W));have HD:=jm d0 d1;have HX:=aW hx;clear d0 d1 hx;rw[gM,gM];go_enter Tryz.func157,Tryz.ntmps157
 go_upto_region 1 with fail
 rw[<-hW];clear hW;refine oJ (λV=>V.cell? ⟨w.heap.size,0,none⟩=some (.int .i64 t)/\V.cell? ⟨w.heap.size,1,none⟩=some (.int .i64 (p:Int))/\V.cell? ⟨w.heap.size+1,0,none⟩=some (.int .i64 u)/\V.cell? ⟨w.heap.size+1,1,none⟩=some (.int .i64 (q:Int))) [5] ND ae (λaj ae=>?_);(refine bP 0 aj ae ?_;refine bP 2 aj ae ?_);(refine jv aj (i:=1) λK hK=>?_;go_simp);refine(mW t p _ hp h1 h2).mono ?_;rintro e w1 ⟨rfl,hx1⟩;have hE1:=ah (eX W) hx1;refine hK.out _ _ (λ_=>(HD.out.1.ext hE1).four (HD.out.2.ext hE1)) ?_;have ae:=(HD.out.1.ext hE1).four (HD.out.2.ext hE1);clear hK K;(try simp only[nP]);(refine jv aj (i:=3) λK hK=>?_;go_simp);refine(mW u q _ hq h3 h4).mono ?_;rintro e w2 ⟨rfl,hx2⟩;have hE2:=ah hE1 hx2;refine hK.out _ _ (λ_=>(HD.out.1.ext hE2).four (HD.out.2.ext hE2)) ?_;have ae:=(HD.out.1.ext hE2).four (HD.out.2.ext hE2);clear hK K;(try simp only[nP]);have HE:=aW (ah HX.out hE2);clear hE2 hE1 hx2 hx1;by_cases hlt:sc t p<sc u q
 all_goals
  (refine bP 4 aj ae ?_);refine nQ aj [5] [_] ?_;clear aj ae;go_wp2
  go_ret
  exact⟨gJ (by simp[hlt]),HE.out⟩
theorem yf(t:Int)(p:Nat)(w:World)(hp:p<=24)(h1:-17179869184<=t)(h2:t<=17179869184):Calls prog 266 #[tY t p] w λe w'=>e=.returned (.int .i64 (sc t p / 16777216))/\Ext w w':=by
 have hx:Ext w (w.alloc (.cells #[.int .i64 t,.int .i64 (p:Int)] 34)):=by go_grown
 have hc0:=bQ (w.alloc (.cells #[.int .i64 t,.int .i64 (p:Int)] 34)) w.heap.size 0 _ _ _ (eu w _);have hc1:=bQ (w.alloc (.cells #[.int .i64 t,.int .i64 (p:Int)] 34)) w.heap.size 1 _ _ _ (eu w _);rw[gM];go_enter Tryz.func266,Tryz.ntmps266
 go_wp2_with (go_at_call 141;refine(mW t p _ hp h1 h2).mono ?_;rintro e w1 ⟨rfl,hx1⟩)
 go_ret
 exact⟨rfl,ah hx hx1⟩
end
section
open Go.RowKit
open bE (dh Nd)
variable {F:List ru}
theorem kH.slice{w:World}{v:Value}{F:List ru}(h:kH w v F):∃a c,v=.slice a F.length c:=by
 obtain⟨a,c,e,_⟩:=h;exact⟨a,c,e⟩
def oW(w:World)(v:Value)(F:List ru):Prop:=∃a cap,v=.slice a F.length cap/\F.length<=cap/\F.length<=maxLen/\
 (0<F.length->∃b off,a=some ⟨b,off,none⟩/\∀i (h:i<F.length),∃L R,w.cell? ⟨b,off+i*2,none⟩=some L/\w.cell? ⟨b,off+i*2+1,none⟩=some R/\Ints w L (F[i]).1/\Ints w R (F[i]).2)
theorem oW.ext{w w':World}{v:Value}{F:List ru}(h:oW w v F)(hx:Ext w w'):oW w' v F:=by
 obtain⟨a,cap,rfl,h1,h2,h3⟩:=h;refine⟨a,cap,rfl,h1,h2,λh0=>?_⟩;obtain⟨b,off,rfl,hc⟩:=h3 h0;refine⟨b,off,rfl,λi hi=>?_⟩;obtain⟨L,R,c1,c2,c3,c4⟩:=hc i hi;exact⟨L,R,fw hx c1,fw hx c2,c3.ext hx,c4.ext hx⟩
theorem oW.slice{w:World}{v:Value}{F:List ru}(h:oW w v F):∃a c,v=.slice a F.length c:=by
 obtain⟨a,c,e,_⟩:=h;exact⟨a,c,e⟩
theorem oW.at{w:World}{v:Value}(h:oW w v F){i:Nat}(hi:i<F.length):
 ∃b off cap aL cL aR cR,v=.slice (some ⟨b,off,none⟩) F.length cap/\F.length<=cap/\w.cell? ⟨b,off+i*2,none⟩=some (.slice aL (F[i]).1.length cL)/\w.cell? ⟨b,off+i*2+1,none⟩=some (.slice aR (F[i]).2.length cR)/\
  Ints w (.slice aL (F[i]).1.length cL) (F[i]).1/\Ints w (.slice aR (F[i]).2.length cR) (F[i]).2:=by
 obtain⟨a,cap,rfl,h1,h2,h3⟩:=h;obtain⟨b,off,rfl,hc⟩:=h3 (by omega);obtain⟨L,R,c1,c2,c3,c4⟩:=hc i hi;obtain⟨aL,cL,rfl,-⟩:=id c3;obtain⟨aR,cR,rfl,-⟩:=id c4;exact⟨b,off,cap,aL,cL,aR,cR,rfl,h1,c1,c2,c3,c4⟩
theorem JL(v u:Value)(F:List ru)(w:World)(h:kH w v F)(k:kH w u F):
 Calls prog 37 #[v,u] w λe w'=>e=.returned (.bool true)/\Ext w w':=by
 obtain⟨a,cap,rfl,hc1,hm1,-⟩:=id h;obtain⟨a2,cap2,rfl,hc2,hm2,-⟩:=id k;have hbn:(((F.length:Nat):Int) != ((F.length:Nat):Int))=false:=by simp
 have zz:maxLen=9223372036854775807:=by simp[maxLen]
 go_enter Tryz.func37,Tryz.ntmps37
 go_wp2
 go_loopw [5] (λii wr=>∃i,i<=F.length/\ii=.int .i64 ((i:Nat):Int)/\Ext w wr) (λii _=>F.length-(intOf ii).toNat)
 case atStart=>exact⟨0,aU _,rfl,gz _ _⟩
 case round=>
  obtain⟨i,hi,rfl,hE⟩:=hrel;by_cases hlt:i<F.length
  .have h1:((i:Nat):Int)<(F.length:Int):=by omega
   obtain⟨b1,d1,aL,cL,aR,cR,he1,-,l1,r1,iL,iR⟩:=(h.ext hE).at hlt;obtain⟨b2,d2,JZ,JU,Km,Kk,he2,-,l2,r2,iL2,iR2⟩:=(k.ext hE).at hlt;simp only[il]at he1 he2;obtain⟨rfl,-,rfl⟩:=he1;obtain⟨rfl,-,rfl⟩:=he2
   have mI:∀W:World,Ext wr W->W.cell? ⟨b1,i*2,none⟩=some (.slice aL (F[i]).1.length cL)/\W.cell? ⟨b1,i*2+1,none⟩=some (.slice aR (F[i]).2.length cR)/\W.cell? ⟨b2,i*2,none⟩=some (.slice JZ (F[i]).1.length JU)/\W.cell? ⟨b2,i*2+1,none⟩=some (.slice Km (F[i]).2.length Kk):=λW hW=>
    ⟨fw hW l1,fw hW r1,fw hW l2,fw hW r2⟩
   have hxd:Ext wr wr.drew:=⟨rfl,rfl,rfl,aJ _,λ_ _=>rfl⟩;have HE:=aW hE;clear l1 r1 l2 r2 hE;go_wp2_with fail
   refine pQ (λW=>W.cell? ⟨b1,i*2,none⟩=some (.slice aL (F[i]).1.length cL)/\W.cell? ⟨b1,i*2+1,none⟩=some (.slice aR (F[i]).2.length cR)/\W.cell? ⟨b2,i*2,none⟩=some (.slice JZ (F[i]).1.length JU)/\W.cell? ⟨b2,i*2+1,none⟩=some (.slice Km (F[i]).2.length Kk)) [9] (by kernel_rfl) (mI _ hxd) (λae=>?_);(refine nX 0 ae ?_;refine nX 1 ae ?_;refine nX 2 ae ?_;refine nX 3 ae ?_;refine nX 4 ae ?_;refine nX 5 ae ?_;refine nX 6 ae ?_;refine nX 7 ae ?_);(refine stA (i:=8) λK hK=>?_;go_simp);refine(Px _ _ _ _ _ _ _ (iL.ext hxd) (iR.ext hxd) (iL2.ext hxd) (iR2.ext hxd)).mono ?_;rintro e w1 ⟨rfl,hx⟩;have hx2:=ah hxd hx;have ae:=mI _ hx2;refine hK.out _ _ (λ_=>ae) ?_;clear hK K;(try simp only[nP]);refine tlA [9] [_] ?_;go_wp2_with fail
   go_roundw
   case rel=>exact⟨i+1,by omega,by go_num,ah HE.out hx2⟩
   case measure=>simp[intOf];omega
  .have h1:¬(((i:Nat):Int)<(F.length:Int)):=by omega
   go_wp2
   go_ret
   exact⟨rfl,hE⟩
theorem uE(v u:Value)(F:List ru)(w:World)(h:kH w v F)(k:kH w u F):
 Calls prog 10 #[.agg #[v],.agg #[u]] w λe w'=>e=.returned (.bool true)/\Ext w w':=by
 obtain⟨a,c,rfl⟩:=h.slice;obtain⟨a2,c2,rfl⟩:=k.slice;obtain⟨W,hW,hE,b0,b1,-⟩:=MV w (.cells #[.slice a (List.length F) c] 30) (.cells #[.slice a2 (List.length F) c2] 30);go_enter Tryz.func10,Tryz.ntmps10
 go_upto_region 1 with fail
 rw[<-hW];clear hW;have c00:=bQ W w.heap.size 0 _ _ _ b0;have c10:=bQ W (w.heap.size+1) 0 _ _ _ b1;go_wp2_with (go_at_call 37;refine(JL _ _ F _ (h.ext hE) (k.ext hE)).mono ?_;rintro e w1 ⟨rfl,hx⟩)
 go_ret
 exact⟨rfl,ah hE hx⟩
def Zc(l r:List Int)(left:Int):Int:=if left<l.length then -1 else if left-l.length<r.length then -1 else left-l.length-r.length
theorem Nv(v1 v2:Value)(l r:List Int)(left:Int)(w:World)(h1:Ints w v1 l)(h2:Ints w v2 r)(h0:0<=left)(hm:left<=1048576):
 Calls prog 64 #[.agg #[v1,v2],.int .i64 left] w λe w'=>e=.returned (.int .i64 (Zc l r left))/\Ext w w':=by
 obtain⟨a1,c1,rfl,-⟩:=id h1;obtain⟨a2,c2,rfl,-⟩:=id h2;obtain⟨W,hW,hE,b0,-⟩:=Ce w (.cells #[.slice a1 l.length c1,.slice a2 r.length c2] 102);have k0:=bQ W w.heap.size 0 _ _ _ b0;have k1:=bQ W w.heap.size 1 _ _ _ b0;simp only[gE]at k0 k1;clear b0;by_cases hl:left<l.length
 .have e1:(if left<l.length then(-1:Int)else left-l.length)=-1:=if_pos hl
  have HR:Hid ((-1:Int)=Zc l r left):=aW (by unfold Zc;rw[if_pos hl]);go_enter Tryz.func64,Tryz.ntmps64
  go_upto_region 1 with fail
  rw[<-hW];clear hW;go_wp2_with (go_at_call 108;refine(tF _ l _ _ (h1.ext hE) h0 hm).mono ?_;rintro e w1 ⟨he,n,rfl⟩;rw[e1]at he;subst he)
  go_ret
  exact⟨iW HR.out,eH hE _⟩
 .have e1:(if left<l.length then(-1:Int)else left-l.length)=left-l.length:=if_neg hl
  have g1:¬(left-(l.length:Int)<0):=by omega
  by_cases hr:left-l.length<r.length
  .have e2:(if left-l.length<r.length then(-1:Int)else left-l.length-r.length)=-1:=if_pos hr
   have HR:Hid ((-1:Int)=Zc l r left):=aW (by unfold Zc;rw[if_neg hl,if_pos hr]);go_enter Tryz.func64,Tryz.ntmps64
   go_upto_region 1 with fail
   rw[<-hW];clear hW
   go_wp2_with (first
    |(go_at_call 108;refine(tF _ r _ _ (jL (h2.ext hE) n) (by omega) (by omega)).mono ?_;rintro e w2 ⟨he,m,rfl⟩;rw[e2]at he;subst he)
    |(go_at_call 108;refine(tF _ l _ _ (h1.ext hE) h0 hm).mono ?_;rintro e w1 ⟨he,n,rfl⟩;rw[e1]at he;subst he))
   go_ret
   exact⟨iW HR.out,by first|exact eH (eH hE _) _|exact eH hE _⟩
  .have e2:(if left-l.length<r.length then(-1:Int)else left-l.length-r.length)=left-l.length-r.length:=if_neg hr
   have g2:¬(left-(l.length:Int)-(r.length:Int)<0):=(by omega);have HR:Hid (left-(l.length:Int)-(r.length:Int)=Zc l r left):=aW (by unfold Zc;rw[if_neg hl,if_neg hr]);go_enter Tryz.func64,Tryz.ntmps64
   go_upto_region 1 with fail
   rw[<-hW];clear hW
   go_wp2_with (first
    |(go_at_call 108;refine(tF _ r _ _ (jL (h2.ext hE) n) (by omega) (by omega)).mono ?_;rintro e w2 ⟨he,m,rfl⟩;rw[e2]at he;subst he)
    |(go_at_call 108;refine(tF _ l _ _ (h1.ext hE) h0 hm).mono ?_;rintro e w1 ⟨he,n,rfl⟩;rw[e1]at he;subst he))
   go_ret
   exact⟨iW HR.out,by first|exact eH (eH hE _) _|exact eH hE _⟩
def zU(F:List ru):Nat:=(F.map λnd=>nd.1.length+nd.2.length).sum
theorem Hd{k:Nat}(h:k<F.length):zU (F.take (k+1))=zU (F.take k)+((F[k]).1.length+(F[k]).2.length):=by
 rw[bJ h,zU,dw,List.sum_append];simp[zU]
theorem KG(v:Value)(F:List ru)(left:Int)(w:World)(h:oW w v F)(h0:0<=left)(hm:left<=1048576):
 Calls prog 27 #[v,.int .i64 left] w λe w'=>∃r:Int,e=.returned (.int .i64 r)/\(0<=r->(F.length:Int)+zU F<=left)/\r<=1048576/\Ext w w':=by
 obtain⟨a,cap,rfl,hc1,hm1,-⟩:=id h;have zz:maxLen=9223372036854775807:=by simp[maxLen]
 have hw1:wrap64 (left-(F.length:Int))=left-F.length:=by unfold wrap64;omega
 by_cases hl:left-(F.length:Int)<0
 .go_enter Tryz.func27,Tryz.ntmps27
  go_wp2
  go_ret
  exact⟨-1,rfl,by omega,by omega,gz _ _⟩
 .go_enter Tryz.func27,Tryz.ntmps27
  go_wp2
  go_loopw [1,5] (λkk ii wr=>∃(i:Nat) (z:Int),i<=F.length/\ii=.int .i64 ((i:Nat):Int)/\kk=.int .i64 z/\0<=z/\z=left-F.length-zU (F.take i)/\Ext w wr) (λ_ ii _=>F.length-(intOf ii).toNat)
  case atStart=>exact⟨0,left-F.length,aU _,rfl,rfl,by omega,by simp[zU],gz _ _⟩
  case round=>
   obtain⟨i,z,hi,rfl,rfl,hz0,hz,hE⟩:=hrel;by_cases hlt:i<F.length
   .have g1:((i:Nat):Int)<(F.length:Int):=by omega
    obtain⟨b1,off,d1,aL,cL,aR,cR,he1,-,l1,r1,iL,iR⟩:=(h.ext hE).at hlt;simp only[il]at he1;obtain⟨rfl,-,rfl⟩:=he1;have HT:=aW (Hd hlt);have HZ:=aW hz;have hzm:z<=1048576:=(by omega);have HS:=aW (λV (hV:Ext wr V)=>Nv _ _ _ _ z V (iL.ext hV) (iR.ext hV) hz0 hzm);have HE:=aW hE;have hwk:wrap64 ((i:Int)+1)=(i:Int)+1:=(by unfold wrap64;omega);obtain⟨nl,hnl⟩:=fu ((F[i]).1.length);obtain⟨nr,hnr⟩:=fu ((F[i]).2.length);rw[<-hnl]at l1 HS;rw[<-hnr]at r1 HS;have HN:=jm hnl hnr;clear iL iR hz hE hnl hnr;by_cases hneg:Zc (F[i]).1 (F[i]).2 z<0
    .go_wp2_with (go_at_call 64;refine(HS.out _ (by first|exact gz _ _|exact dQ ⟨1,rfl⟩)).mono ?_;rintro e w2 ⟨rfl,hx2⟩)
     go_ret
     exact⟨-1,rfl,by omega,by omega,by first|exact ah HE.out hx2|exact ah (ah HE.out (dQ ⟨1,rfl⟩)) hx2⟩
    .have hval:Zc (F[i]).1 (F[i]).2 z=z-(F[i]).1.length-(F[i]).2.length:=by
      unfold Zc at hneg ⊢;split
      .rename_i c;rw[if_pos c]at hneg;omega
      .rename_i c;rw[if_neg c]at hneg
       split
       .rename_i d;rw[if_pos d]at hneg;omega
       .rfl
     go_wp2_with (go_at_call 64;refine(HS.out _ (by first|exact gz _ _|exact dQ ⟨1,rfl⟩)).mono ?_;rintro e w2 ⟨rfl,hx2⟩)
     go_roundw
     case rel=>exact⟨i+1,_,by omega,by go_num,rfl,by omega,by have h1:=HT.out;have h2:=HZ.out;omega,by first|exact ah HE.out hx2|exact ah (ah HE.out (dQ ⟨1,rfl⟩)) hx2⟩
     case measure=>simp[intOf];omega
   .have g1:¬(((i:Nat):Int)<(F.length:Int)):=by omega
    have hie:i=F.length:=(by omega);have HH:Hid ((F.length:Int)+zU F<=left):=aW (by rw[hie,dJ (aJ _)]at hz;omega);have hz2:z<=1048576:=(by omega);clear hz hie;go_wp2
    go_ret
    exact⟨z,rfl,λ_=>HH.out,hz2,hE⟩
theorem Nw(v:Value)(F:List ru)(left:Int)(w:World)(h:oW w v F)(h0:0<=left)(hm:left<=1048576):
 Calls prog 5 #[.agg #[v],.int .i64 left] w λe w'=>∃r:Int,e=.returned (.int .i64 r)/\(0<=r->(F.length:Int)+zU F<=left)/\Ext w w':=by
 obtain⟨a,c,rfl⟩:=h.slice;obtain⟨W,hW,hE,b0,-⟩:=Ce w (.cells #[.slice a (List.length F) c] 24);have c0:=bQ W w.heap.size 0 _ _ _ b0;go_enter Tryz.func5,Tryz.ntmps5
 go_upto_region 1 with fail
 rw[<-hW];clear hW;go_wp2_with (go_at_call 27;refine(KG _ F _ _ (h.ext hE) h0 hm).mono ?_;rintro e w1 ⟨r,rfl,hr,hrm,hx⟩)
 .go_ret
  exact⟨-1,rfl,by omega,ah hE hx⟩
 .go_ret
  exact⟨r,rfl,hr,ah hE hx⟩
end
