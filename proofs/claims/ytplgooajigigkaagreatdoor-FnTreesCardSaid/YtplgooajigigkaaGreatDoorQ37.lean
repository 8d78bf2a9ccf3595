/- 37 -/
import Derived.Test.YtplgooajigigkaaGreatDoorQ15
set_option maxRecDepth 100000
set_option maxHeartbeats 4000000
namespace Go.Proofs.YtplgooajigigkaaGreatDoor
open Tryz
section
open Go.RowKit
open aZ (bG bT Mid)
theorem qc:∀(d q:Nat) (m:Int),bG (q+d) (m*2 ^ d)=bG q m/\bT (q+d) (m*2 ^ d)=bT q m
 | 0,q,m=>by simp
 |d+1,q,m=>by
  rw[Int.pow_succ,<-ja,nI _ 2];obtain⟨h1,h2⟩:=aZ.BC (q+d) (m*2 ^ d);rw[show q+(d+1)=q+d+1 from rfl,h1,h2];exact qc d q m
theorem xU:∀(p:Nat) (k:Int),bG p (-k)=- bG p k/\bT p (-k)=bT p k
 | 0,k=>⟨rfl,rfl⟩
 |p+1,k=>by
  unfold bG bT;by_cases e:k % 2=0
  .rw[if_pos (by omega),if_pos e,if_pos (by omega),if_pos e,show -k / 2=-(k / 2) by omega];exact xU p _
  .rw[if_neg (by omega),if_neg e,if_neg (by omega),if_neg e];exact⟨rfl,rfl⟩
end
section
open Go.RowKit
open aZ (bG bT)
variable {t:Int} {p:Nat}
theorem rD{p:Int}(h:¬(-1000000<=t/\t<=1000000/\0<=p/\p<=16/\(p=0\/t % 2≠0))):eG t p=false:=by
 rw[nJ];exact λk=>h (jV.1 k)
theorem uC(t p:Int)(w:World):Calls prog 75 #[.agg #[.int .i64 t,.int .i64 p]] w λe w'=>e=.returned (.bool (eG t p))/\Ext w w':=by
 have hx:Ext w (w.alloc (.cells #[.int .i64 t,.int .i64 p] 34)):=by go_grown
 obtain⟨c0,c1⟩:=rX w (.int .i64 t) (.int .i64 p) 34;by_cases h1:-1000000<=t
 .by_cases h2:t<=1000000
  .by_cases h3:0<=p
   .by_cases h4:p<=16
    .by_cases h5:p=0
     .have g5:(p == 0)=true:=by simpa using h5
      have HP:=aI h5;clear h5;go_enter Tryz.func75,Tryz.ntmps75
      go_wp2
      go_ret
      exact⟨dI (jV.2 ⟨h1,h2,h3,h4,.inl HP.out⟩).symm,hx⟩
     .have g5:(p == 0)=false:=by simpa using h5
      cases e6:(t.tmod 2 != 0)with
      |true=>
       have HT:Hid (t % 2≠0):=aI (by rw[ES]at e6;simpa using e6);clear h5;go_enter Tryz.func75,Tryz.ntmps75
       go_wp2
       go_ret
       exact⟨dI (jV.2 ⟨h1,h2,h3,h4,.inr HT.out⟩).symm,hx⟩
      |false=>
       have HT:Hid (t % 2=0):=aI (by rw[ES]at e6;simpa using e6);have HP:=aI h5;clear h5;go_enter Tryz.func75,Tryz.ntmps75
       go_wp2
       go_ret
       exact⟨dI (rD (λk=>k.2.2.2.2.elim HP.out (λq=>q HT.out))).symm,hx⟩
    ·
     go_enter Tryz.func75,Tryz.ntmps75
     go_wp2
     go_ret
     exact⟨dI (rD (by omega)).symm,hx⟩
   ·
    go_enter Tryz.func75,Tryz.ntmps75
    go_wp2
    go_ret
    exact⟨dI (rD (by omega)).symm,hx⟩
  ·
   go_enter Tryz.func75,Tryz.ntmps75
   go_wp2
   go_ret
   exact⟨dI (rD (by omega)).symm,hx⟩
 ·
  go_enter Tryz.func75,Tryz.ntmps75
  go_wp2
  go_ret
  exact⟨dI (rD (by omega)).symm,hx⟩
theorem sH(t:Int)(p:Nat)(w:World)(hp:p<=64)(h1:-9223372036854775808<=t)(h2:t<=9223372036854775807):Calls prog 63 #[.int .i64 t,.int .i64 (p:Int)] w λe w'=>e=.returned (lZ (bG p t) (bT p t))/\Ext w w':=by
 have hx:Ext w (w.alloc (.cells #[.int .i64 0,.int .i64 0] 34)):=by go_grown
 have hb:=dV w (.cells #[.int .i64 0,.int .i64 0] 34);go_enter Tryz.func63,Tryz.ntmps63
 go_upto_region 1 with fail
 generalize w.alloc (.cells #[.int .i64 0,.int .i64 0] 34)=W at *;go_loopw [0,1] (λtt pp wr=>wr=W/\∃(a:Int) (q:Nat),tt=.int .i64 a/\pp=.int .i64 (q:Int)/\q<=64/\-9223372036854775808<=a/\a<=9223372036854775807/\Hid (bG q a=bG p t/\bT q a=bT p t)) (λ_ pp _=>(intOf pp).toNat)
 case atStart=>exact⟨rfl,t,p,rfl,rfl,hp,h1,h2,aI ⟨rfl,rfl⟩⟩
 case round=>
  clear h1 h2 hp;obtain⟨rfl,a,q,rfl,rfl,hq,h1,h2,HE⟩:=hrel;by_cases h0:0<q
  .have g0:(0:Int)<((q:Nat):Int):=by omega
   by_cases e:a % 2=0
   .have e1:(a.tmod 2 == 0)=true:=by rw[xJ];simpa using e
    have e2:=MU e;have e3:wrap64 (a / 2)=a / 2:=(by unfold wrap64;omega);have HN:Hid (bG (q-1) (a / 2)=bG p t/\bT (q-1) (a / 2)=bT p t):=by
     obtain⟨x,y⟩:=HE.out;obtain⟨n,rfl⟩:∃n,q=n+1:=⟨q-1,by omega⟩;rw[bG,if_pos e]at x;rw[bT,if_pos e]at y;exact aI ⟨x,y⟩
    clear HE;go_wp2
    go_roundw
    case rel=>exact⟨trivial,a / 2,q-1,by go_num,by go_num,by omega,by omega,by omega,HN⟩
    case measure=>simp[intOf];omega
   .have e1:(a.tmod 2 == 0)=false:=by rw[xJ];simpa using e
    have HN:Hid (bG p t=a/\bT p t=q):=by
     obtain⟨x,y⟩:=HE.out;obtain⟨n,rfl⟩:∃n,q=n+1:=⟨q-1,by omega⟩;rw[bG,if_neg e]at x;rw[bT,if_neg e]at y;exact aI ⟨x.symm,y.symm⟩
    clear HE e
    obtain⟨W4,Tq,hxa,v0,v1⟩:∃W4,W4=wr.alloc (.cells #[.int .i64 a,.int .i64 (q:Int)] 34)/\Ext wr W4/\W4.cell? ⟨wr.heap.size,0,none⟩=some (.int .i64 a)/\W4.cell? ⟨wr.heap.size,1,none⟩=some (.int .i64 (q:Int)):=
     ⟨_,rfl,by go_grown,(rX wr _ _ _).1,(rX wr _ _ _).2⟩
    have HR:Hid (wr.heap[w.heap.size]?=some (.cells #[.int .i64 0,.int .i64 0] 34 (0,0))):=aI hb;clear hb;go_upto_region 5 with fail
    rw[<-Tq];clear Tq;cases e1:eG a q with
    |false=>
     have HG:=aI e1;go_upto_region 6 with(go_at_call 75;refine(uC _ _ _).mono ?_;rintro e w1 ⟨he,hx1⟩;rw[e1]at he;subst he)
     have hE:=ah hxa hx1;obtain⟨q0,q1,q2,q3⟩:=dn (kY hE HR.out);have q4:=(q2 (.int .i64 0)).1;have q5:=(q2 (.int .i64 0)).2;have HQ:=aI (q3 (.int .i64 0) (.int .i64 0));have HE:=aI (ah hx hE);clear q2 q3 hx hx1 hxa v0 v1 e1 hE;go_wp2
     refine tO w.heap.size 34 #[.int .i64 0,.int .i64 0] HQ.out underlying34 ?_;exact⟨by rw[lZ,HN.out.1,HN.out.2,HG.out];rfl,(HE.out.setCell (p:=⟨w.heap.size,0,none⟩) (ax _) _).setCell (p:=⟨w.heap.size,1,none⟩) (ax _) _⟩
    |true=>
     have HG:=aI e1;go_upto_region 7 with(go_at_call 75;refine(uC _ _ _).mono ?_;rintro e w1 ⟨he,hx1⟩;rw[e1]at he;subst he)
     have hE:=ah hxa hx1;obtain⟨q0,q1,q2,q3⟩:=dn (kY hE HR.out);have q4:=(q2 (.int .i64 a)).1;have q5:=(q2 (.int .i64 a)).2;have r0:=dP hx1 v0;have r1:=dP hx1 v1;have HQ:=aI (q3 (.int .i64 a) (.int .i64 (q:Int)));have HE:=aI (ah hx hE);clear q2 q3 hx hx1 hxa v0 v1 e1 hE;go_wp2
     refine tO w.heap.size 34 #[.int .i64 a,.int .i64 (q:Int)] HQ.out underlying34 ?_;exact⟨by rw[lZ,HN.out.1,HN.out.2,HG.out];rfl,(HE.out.setCell (p:=⟨w.heap.size,0,none⟩) (ax _) _).setCell (p:=⟨w.heap.size,1,none⟩) (ax _) _⟩
  .have g0:¬(0:Int)<((q:Nat):Int):=by omega
   have HN:Hid (bG p t=a/\bT p t=q):=by
    obtain⟨x,y⟩:=HE.out;obtain rfl:q=0:=(by omega);exact aI ⟨x.symm,y.symm⟩
   clear HE
   obtain⟨W4,Tq,hxa,v0,v1⟩:∃W4,W4=wr.alloc (.cells #[.int .i64 a,.int .i64 (q:Int)] 34)/\Ext wr W4/\W4.cell? ⟨wr.heap.size,0,none⟩=some (.int .i64 a)/\W4.cell? ⟨wr.heap.size,1,none⟩=some (.int .i64 (q:Int)):=
    ⟨_,rfl,by go_grown,(rX wr _ _ _).1,(rX wr _ _ _).2⟩
   have HR:Hid (wr.heap[w.heap.size]?=some (.cells #[.int .i64 0,.int .i64 0] 34 (0,0))):=aI hb;clear hb;go_upto_region 5 with fail
   rw[<-Tq];clear Tq;cases e1:eG a q with
   |false=>
    have HG:=aI e1;go_upto_region 6 with(go_at_call 75;refine(uC _ _ _).mono ?_;rintro e w1 ⟨he,hx1⟩;rw[e1]at he;subst he)
    have hE:=ah hxa hx1;obtain⟨q0,q1,q2,q3⟩:=dn (kY hE HR.out);have q4:=(q2 (.int .i64 0)).1;have q5:=(q2 (.int .i64 0)).2;have HQ:=aI (q3 (.int .i64 0) (.int .i64 0));have HE:=aI (ah hx hE);clear q2 q3 hx hx1 hxa v0 v1 e1 hE;go_wp2
    refine tO w.heap.size 34 #[.int .i64 0,.int .i64 0] HQ.out underlying34 ?_;exact⟨by rw[lZ,HN.out.1,HN.out.2,HG.out];rfl,(HE.out.setCell (p:=⟨w.heap.size,0,none⟩) (ax _) _).setCell (p:=⟨w.heap.size,1,none⟩) (ax _) _⟩
   |true=>
    have HG:=aI e1;go_upto_region 7 with(go_at_call 75;refine(uC _ _ _).mono ?_;rintro e w1 ⟨he,hx1⟩;rw[e1]at he;subst he)
    have hE:=ah hxa hx1;obtain⟨q0,q1,q2,q3⟩:=dn (kY hE HR.out);have q4:=(q2 (.int .i64 a)).1;have q5:=(q2 (.int .i64 a)).2;have r0:=dP hx1 v0;have r1:=dP hx1 v1;have HQ:=aI (q3 (.int .i64 a) (.int .i64 (q:Int)));have HE:=aI (ah hx hE);clear q2 q3 hx hx1 hxa v0 v1 e1 hE;go_wp2
    refine tO w.heap.size 34 #[.int .i64 a,.int .i64 (q:Int)] HQ.out underlying34 ?_;exact⟨by rw[lZ,HN.out.1,HN.out.2,HG.out];rfl,(HE.out.setCell (p:=⟨w.heap.size,0,none⟩) (ax _) _).setCell (p:=⟨w.heap.size,1,none⟩) (ax _) _⟩
def jC(t:Int)(p:Nat):Int:=t*2 ^ (16-p)
theorem MP(hp:p<=16):sc t p=jC t p*256:=by
 unfold sc jC;rw[ja,show(256:Int)=2 ^ 8 from rfl,<-rP,show 16-p+8=24-p by omega]
theorem pW(hp:p<=16){B:Int}(h1:-B<=t)(h2:t<=B):-(B*65536)<=jC t p/\jC t p<=B*65536:=by
 have:=uz (p:=p) h1 h2;rw[MP hp]at this;omega
theorem pV(t:Int)(p:Nat)(w:World)(hp:p<=16)(h1:-17179869184<=t)(h2:t<=17179869184):Calls prog 96 #[xw t p] w λe w'=>e=.returned (.int .i64 (jC t p))/\Ext w w':=by
 have hb:=pW (p:=p) hp (B:=17179869184) (by omega) h2;have hx:Ext w (w.alloc (.cells #[.int .i64 t,.int .i64 (p:Int)] 34)):=by go_grown
 have hk:(16-(p:Int)).toNat=16-p:=by omega
 have hq:(0:Int)<=16-(p:Int):=by omega
 have hw:wrap64 (jC t p)=jC t p:=by unfold wrap64;omega
 obtain⟨hc0,hc1⟩:=rX w (.int .i64 t) (.int .i64 (p:Int)) 34;unfold jC at hw;unfold xw;go_enter Tryz.func96,Tryz.ntmps96
 go_wp2
 go_ret
 exact⟨jy hw,hx⟩
end
section
open Go.RowKit
open aZ (bG bT oQ vv Wt)
variable {c k:Int}
theorem Rw(h:Wt c k)(hc:c<=15):k+(((vv k):Int)+1)*65536=oQ k*2 ^ vv k:=by
 obtain⟨m,h1,h2,h3⟩:=(aZ.DU h hc).1;have key:vv k=m\/(vv k=m+1/\k=-(m:Int)*65536):=by unfold vv;split <;> omega
 rcases key with e|⟨e,hk⟩
 .rw[e,h3,nI]
 .rw[e,Int.pow_succ,<-ja,nI (oQ k),<-h3,Int.natCast_add];omega
theorem Ru(h:Wt c k)(hc:c<=15):ZB (256*k)=bG 16 (oQ k)/\ZC (256*k)=bT 16 (oQ k):=by
 have hN:Hz (256*k)=vv k+1:=by unfold Hz vv;split <;> split <;> omega
 have hY:256*k+((Hz (256*k):Nat):Int)*16777216=(k+(((vv k):Int)+1)*65536)*2 ^ 8:=by rw[hN,show(2:Int) ^ 8=256 by decide,Int.natCast_add];omega
 have hD:=Rw h hc;obtain⟨l1,l2⟩:=qc 8 16 (k+(((vv k):Int)+1)*65536);unfold ZB ZC;rw[hY,hN,show(24:Nat)=16+8 from rfl,l1,l2];have q:=aZ.uH 16 (k+(((vv k):Int)+1)*65536);generalize hP:bT 16 (k+(((vv k):Int)+1)*65536)=P0 at *;generalize hT:bG 16 (k+(((vv k):Int)+1)*65536)=T0 at *;obtain⟨m1,m2⟩:=qc (16-P0) (P0+(vv k+1)-1) T0;rw[<-m1,<-m2,q.2.1,hD,show P0+(vv k+1)-1+(16-P0)=16+vv k by omega];exact qc (vv k) 16 (oQ k)
end
section
open Go.RowKit
open aZ (bG bT Mid)
theorem Ob(w:World)(x y a b c d:Value)(T:TypeId):∃W,W=((w.alloc (.cells #[x,y] T)).alloc (.cells #[a,b] T)).alloc (.cells #[c,d] T)/\Ext w W/\W.heap[w.heap.size]?=some (.cells #[x,y] T (0,0))/\W.heap[w.heap.size+1]?=some (.cells #[a,b] T (0,0))/\W.heap[w.heap.size+1+1]?=some (.cells #[c,d] T (0,0)):=by
 refine⟨_,rfl,by go_grown,?_,?_,?_⟩
 .rw[gI _ _ _ (by simp;omega),gI _ _ _ (by simp)];exact dV _ _
 .rw[gI _ _ _ (by simp)]
  have h:=dV (w.alloc (.cells #[x,y] T)) (.cells #[a,b] T);rw[eX]at h;exact h
 .have h:=dV ((w.alloc (.cells #[x,y] T)).alloc (.cells #[a,b] T)) (.cells #[c,d] T);rw[eX,eX]at h;exact h
end
section
open Go.RowKit
open aZ (bG bT)
def Oo:List Row:=[⟨0,[],16,[2]⟩,⟨1,[0],17,[15]⟩,⟨2,[],18,[3]⟩,⟨3,[2,1],19,[17]⟩,⟨4,[1,3],20,[16,18]⟩,⟨5,[4,3],21,[19]⟩,⟨6,[5],22,[20]⟩,⟨7,[5],23,[20]⟩,⟨8,[6,5,0,1,2,3,4,5,6,7],0,[4,21]⟩,⟨9,[7,8,0,1,2,3,4,5,6,7,8],6,[22]⟩]
theorem zt(t u:Int)(p q:Nat)(w:World)(g1:eG t p=true)(g2:eG u q=true):
 Calls prog 51 #[xw t p,xw u q] w λe w'=>e=.returned (lZ (bG 16 (jC t p+jC u q)) (bT 16 (jC t p+jC u q)))/\Ext w w':=by
 have k1:=jV.1 g1;have k2:=jV.1 g2;have b1:=pW (t:=t) (p:=p) (by omega) (B:=1000000) (by omega) (by omega);have b2:=pW (t:=u) (p:=q) (by omega) (B:=1000000) (by omega) (by omega);obtain⟨W,hW,hx,d0,d1,d2⟩:=Ob w (.int .i64 t) (.int .i64 (p:Int)) (.int .i64 u) (.int .i64 (q:Int)) (.int .i64 0) (.int .i64 0) 34;have HD:Hid (CG W w.heap.size t p/\CG W (w.heap.size+1) u q/\CG W (w.heap.size+1+1) 0 0):=aI ⟨d0,d1,d2⟩;have HX:=aI hx;have b3:IntKind.i64.wrap (jC t p+jC u q)=jC t p+jC u q:=(oo _).trans (by unfold wrap64;omega);obtain⟨kt,hkt⟩:=eu ((if eG (bG 16 (jC t p+jC u q)) (bT 16 (jC t p+jC u q))then bG 16 (jC t p+jC u q)else 0));obtain⟨kp,hkp⟩:=eu ((if eG (bG 16 (jC t p+jC u q)) (bT 16 (jC t p+jC u q))then bT 16 (jC t p+jC u q)else 0));obtain⟨kb,hkb⟩:=eu (eG (bG 16 (jC t p+jC u q)) (bT 16 (jC t p+jC u q)));have en:lZ (bG 16 (jC t p+jC u q)) (bT 16 (jC t p+jC u q))=.tuple #[.agg #[.int .i64 kt,.int .i64 (kp:Int)],.bool kb]:=by rw[lZ,hkt,hkp,hkb];rfl
 have HL:=aI (λV=>sH (jC t p+jC u q) 16 V (by omega) (by omega) (by omega));rw[en]at HL;rw[en];clear d0 d1 d2 hx hkt hkp hkb en;obtain⟨c0,c1,c2,c3⟩:=HD.out.1.four HD.out.2.1;rw[kX,kX];go_enter Tryz.func51,Tryz.ntmps51
 go_upto_region 1 with fail
 rw[<-hW];clear hW
 go_upto_region 3 with(go_at_call 75;refine(uC _ _ _).mono ?_;rintro e w2 ⟨he,hx2⟩;first
  |(rw[g1]at he;subst he;have hE1:=hx2;have e2:=dP hx2 c2;have e3:=dP hx2 c3)
  |(rw[g2]at he;subst he;have hE2:=ah hE1 hx2))
 have aa:=(HD.out.1.ext (ah hE2 (iy w2))).four (HD.out.2.1.ext (ah hE2 (iy w2)));clear c0 c1 c2 c3 e2 e3 hE1 hx2;refine mQ (λV=>V.cell? ⟨w.heap.size,0,none⟩=some (.int .i64 t)/\V.cell? ⟨w.heap.size,1,none⟩=some (.int .i64 (p:Int))/\V.cell? ⟨w.heap.size+1,0,none⟩=some (.int .i64 u)/\V.cell? ⟨w.heap.size+1,1,none⟩=some (.int .i64 (q:Int))) [8,9] Oo aa (λai aa=>?_);(refine bg 0 ai aa ?_;refine bg 2 ai aa ?_);(refine kS ai (i:=1) λK hK=>?_;go_simp);refine(pV t p _ (by omega) (by omega) (by omega)).mono ?_;rintro e w3 ⟨rfl,hx3⟩;have pG:=ah (ah hE2 (iy w2)) hx3;refine hK.out _ _ (λ_=>(HD.out.1.ext pG).four (HD.out.2.1.ext pG)) ?_;clear aa hE2 hK K;have aa:=(HD.out.1.ext pG).four (HD.out.2.1.ext pG);(try simp only[nP]);(refine kS ai (i:=3) λK hK=>?_;go_simp);refine(pV u q _ (by omega) (by omega) (by omega)).mono ?_;rintro e w4 ⟨rfl,hx4⟩;have Jg:=ah pG hx4;refine hK.out _ _ (λ_=>(HD.out.1.ext Jg).four (HD.out.2.1.ext Jg)) ?_;clear aa pG hx3 hx4 hK K;have aa:=(HD.out.1.ext Jg).four (HD.out.2.1.ext Jg);(try simp only[nP]);(refine bg 4 ai aa ?_);(refine kS ai (i:=5) λK hK=>?_;go_simp);refine(HL.out _).mono ?_;rintro e w5 ⟨rfl,hx5⟩;have zU:=ah Jg hx5;refine hK.out _ _ (λ_=>(HD.out.1.ext zU).four (HD.out.2.1.ext zU)) ?_;clear aa Jg hx5 hK K;have aa:=(HD.out.1.ext zU).four (HD.out.2.1.ext zU);(try simp only[nP]);(refine bg 6 ai aa ?_;refine bg 7 ai aa ?_);refine mM ai [8,9] [_,_] ?_;clear ai aa;obtain⟨q0,q1,q2,q3⟩:=dn (HD.out.2.2.ext zU);have q4:=(q2 (.int .i64 kt)).1;have q5:=(q2 (.int .i64 kt)).2;have HQ:=aI (q3 (.int .i64 kt) (.int .i64 (kp:Int)));have HE:=aI zU;clear q2 q3 zU;go_wp2
 refine tO (w.heap.size+1+1) 34 #[.int .i64 kt,.int .i64 (kp:Int)] HQ.out underlying34 ?_;exact⟨rfl,oG (oG (ah HX.out HE.out) (w.heap.size+1+1) 0 _) (w.heap.size+1+1) 1 _⟩
theorem OJ(t:Int)(p:Nat)(w:World)(h1:-9223372036854775807<=t)(h2:t<=9223372036854775807):Calls prog 36 #[xw t p] w λe w'=>e=.returned (xw (-t) p)/\Ext w w':=by
 obtain⟨W,hW,hx,d0,d1⟩:=Hr w (.int .i64 t) (.int .i64 (p:Int)) (.int .i64 0) (.int .i64 0) 34;have b3:wrap64 (-t)=-t:=by unfold wrap64;omega
 have c0:=bI W w.heap.size 0 _ _ _ d0;have c1:=bI W w.heap.size 1 _ _ _ d0;simp only[gE]at c0 c1;obtain⟨q0,q1,q2,q3⟩:=dn d1;have q4:=(q2 (.int .i64 (-t))).1;have q5:=(q2 (.int .i64 (-t))).2;have HQ:=aI (q3 (.int .i64 (-t)) (.int .i64 (p:Int)));have HE:=aI hx;clear q2 q3 hx d0 d1;rw[kX];go_enter Tryz.func36,Tryz.ntmps36
 go_upto_region 1 with fail
 rw[<-hW];clear hW;go_wp2
 (try simp only[Exit.inBlock,Exit.then]);refine bodyPost_ret (results_cell_row rfl _ _ (w.heap.size+1) 34 #[.int .i64 (-t),.int .i64 (p:Int)] (0,0) _ rfl HQ.out underlying34 rfl (by kernel_rfl)) rfl ?_;exact⟨rfl,oG (oG HE.out (w.heap.size+1) 0 _) (w.heap.size+1) 1 _⟩
end
section
open Go.RowKit
open aZ (bG bT oQ vv Wt)
theorem TM{c k:Int}(h:Wt c k)(hc:c<=15):bG (16+vv k) (k+((vv k:Int)+1)*65536)=bG 16 (oQ k)/\bT (16+vv k) (k+((vv k:Int)+1)*65536)=bT 16 (oQ k):=by
 rw[Rw h hc];exact qc (vv k) 16 (oQ k)
theorem aaQ(k:Int):max 1 ((65536-k) / 65536+1)=((vv k:Nat):Int)+1:=by
 unfold vv;split <;> omega
theorem Dg(t:Int)(p:Nat)(c:Int)(w:World)(hp:p<=16)(h1:-1048576<=t)(h2:t<=1048576)(hw:Wt c (jC t p))(hc:c<=8):
 Calls prog 50 #[xw t p] w λe w'=>e=.returned (lZ (bG 16 (oQ (jC t p))) (bT 16 (oQ (jC t p))))/\Ext w w':=by
 obtain⟨W,hW,hx,d0,d1⟩:=Hr w (.int .i64 t) (.int .i64 (p:Int)) (.int .i64 0) (.int .i64 0) 34;obtain⟨K,hK⟩:=eu (jC t p);have HS:=aI (λV=>pV t p V hp (by omega) (by omega));rw[<-hK]at hw HS ⊢;have hb:=aZ.jZ hw hc;have hn:=aaQ K;have hM:vv K<=9:=by unfold vv;split <;> omega
 have hlow:=TM hw (by omega);obtain⟨M,hMe⟩:=eu (vv K);rw[<-hMe]at hn hM hlow;obtain⟨kt,hkt⟩:=eu ((if eG (bG 16 (oQ K)) (bT 16 (oQ K))then bG 16 (oQ K)else 0));obtain⟨kp,hkp⟩:=eu ((if eG (bG 16 (oQ K)) (bT 16 (oQ K))then bT 16 (oQ K)else 0));obtain⟨kb,hkb⟩:=eu (eG (bG 16 (oQ K)) (bT 16 (oQ K)));have en:lZ (bG 16 (oQ K)) (bT 16 (oQ K))=.tuple #[.agg #[.int .i64 kt,.int .i64 (kp:Int)],.bool kb]:=by rw[lZ,hkt,hkp,hkb];rfl
 have HL:=aI (λV=>sH (K+((M:Int)+1)*65536) (16+M) V (by omega) (by omega) (by omega));rw[hlow.1,hlow.2,en]at HL;rw[en];obtain⟨q0,q1,q2,q3⟩:=dn d1;have c0:=bI W w.heap.size 0 _ _ _ d0;have c1:=bI W w.heap.size 1 _ _ _ d0;simp only[gE]at c0 c1;have HX:=jW hx d1;clear hlow hkt hkp hkb en hMe hw q0 q1 q2 q3 hK;have hk1:=hb.1;have hk2:=hb.2.1;clear hb hx d0 d1;rw[kX];simp only[kX]at HS;go_enter Tryz.func50,Tryz.ntmps50
 go_upto_region 1 with fail
 rw[<-hW];clear hW;have hmx:(if 1<(65536-K) / 65536+1 then(65536-K) / 65536+1 else 1)=((M:Nat):Int)+1:=by rw[<-hn];split <;> omega
 clear hn;go_upto_region 3 with(go_at_call 96;refine(HS.out _).mono ?_;rintro e w1 ⟨rfl,hx1⟩;have e0:=dP hx1 c0;have e1:=dP hx1 c1)
 have HL2:Hid (∀V (x y:Int),x=K+((M:Int)+1)*65536->y=16+(M:Int)->Calls prog 63 #[.int .i64 x,.int .i64 y] V λe w'=>e=.returned (.tuple #[.agg #[.int .i64 kt,.int .i64 (kp:Int)],.bool kb])/\Ext V w'):=aI λV x y hx hy=>by
  have:=HL.out V;rw[hx,show y=((16+M:Nat):Int) by omega];exact this
 have Dj:=aI hx1;have HB:=yD hk1 hk2 hM;have aml:(M:Int)<=9:=by omega
 clear HL hmx hM c0 c1 hx1
 go_wp2_with (first
  |(go_at_call 63;refine(HL2.out _ _ _ (by omega) (by omega)).mono ?_;rintro e w3 ⟨rfl,hx3⟩
    have hxs:=ah HX.out.1 (ah Dj.out (ah hx2 hx3));have bb:=kY (ah Dj.out (ah hx2 hx3)) HX.out.2;obtain⟨q0,q1,q2,q3⟩:=dn bb;have q4:=(q2 (.int .i64 kt)).1;have q5:=(q2 (.int .i64 kt)).2;have HQ:=jW (q3 (.int .i64 kt) (.int .i64 (kp:Int))) hxs;clear q2 q3 bb hxs)
  |(go_at_call 96;refine(HS.out _).mono ?_;rintro e w2 ⟨rfl,hx2⟩))
 refine tO (w.heap.size+1) 34 #[.int .i64 kt,.int .i64 (kp:Int)] HQ.out.1 underlying34 ?_;exact⟨rfl,oG (oG HQ.out.2 (w.heap.size+1) 0 _) (w.heap.size+1) 1 _⟩
end
