/- 47 -/
import Derived.Test.YtplgooajigigkaaGreatDoorK43
import Derived.Test.YtplgooajigigkaaGreatDoorK46
set_option maxRecDepth 100000
set_option maxHeartbeats 4000000
namespace Go.Proofs.YtplgooajigigkaaGreatDoor
open Tryz
section
open bE (dh Gm vl Same N0 Val gd dO dP Mid)
variable {a:Int}
theorem Lr{A B:Int}:dS (mY A B) (pI A B)=true↔(A+B) % 2=0/\gd ((A+B) / 2):=by
 unfold mY pI;by_cases e:(A+B) % 2=0
 .rw[if_pos e,if_pos e,uD];simp[e]
 .rw[if_neg e,if_neg e]
  constructor
  .intro h;rw[fe]at h;omega
  .intro h;exact absurd h.1 e
theorem U0{g:Gm}{b:Int}(h:∀j,Val g j↔a<b/\2*j=a+b/\gd j)(hab:a<b):(dS (mY a b) (pI a b)=true->∃j,Val g j/\mY a b=dO 16 j/\pI a b=dP 16 j)/\(dS (mY a b) (pI a b)=false->¬N0 g):=by
 refine⟨λe=>?_,λe ⟨j,hj⟩=>?_⟩
 .obtain⟨h1,h2⟩:=Lr.1 e
  exact⟨(a+b) / 2,(h _).2 ⟨hab,by omega,h2⟩,by unfold mY;rw[if_pos h1],by unfold pI;rw[if_pos h1]⟩
 .obtain⟨_,hj2,hg⟩:=(h j).1 hj
  have:dS (mY a b) (pI a b)=true:=Lr.2 ⟨by omega,by rw[show(a+b) / 2=j by omega];exact hg⟩;rw[this]at e;cases e
theorem QO{p:Nat}(hp:p<=24)(t s:Int):dO 24 (sc t p+sc s p)=dO p (t+s)/\dP 24 (sc t p+sc s p)=dP p (t+s):=by
 have e:sc t p+sc s p=(t+s)*2 ^ (24-p):=by unfold sc;rw[Int.add_mul]
 rw[e];have h:=Br (24-p) p (t+s);rwa [show p+(24-p)=24 by omega]at h
theorem NA:sc (dO 16 a) (dP 16 a)=a*256:=by
 rw[Qw (bE.Ac 16 a).1,EY]
theorem Im{s:Int}:dO 24 (sc (dO 16 a) (dP 16 a)+sc s 0)=dO 16 (a+s*65536)/\dP 24 (sc (dO 16 a) (dP 16 a)+sc s 0)=dP 16 (a+s*65536):=by
 have e:sc (dO 16 a) (dP 16 a)+sc s 0=(a+s*65536)*2 ^ 8:=by rw[NA];unfold sc;rw[show(2:Int) ^ (24-0)=16777216 from rfl,show(2:Int) ^ 8=256 from rfl];omega
 rw[e];exact Br 8 16 (a+s*65536)
theorem Jv(g:gd a):-1000000<=dO 16 a/\dO 16 a<=1000000/\dP 16 a<=16:=⟨g.1,g.2,(bE.Ac 16 a).1⟩
end
section
open Go.RowKit
open bE (dh Nd Gm vl Same nf nw Nk dO dP bz bI)
def YD(pb:Nat)(vn vb:Value)(D:dh)(L:List Gm)(g:Gm)(w:World)(e:Ending)(w':World):Prop:=
 ∃uL wB D' i,e=.returned (.int .i64 ((i:Nat):Int))/\fB w' pb uL wB D'/\fO w w' pb vn vb D uL wB D'/\i<D'.length/\Same (vl D' i) g/\Nk L D'
def PY(n:Nat):Prop:=∀(t:Int) (p pb:Nat) (vn vb:Value) (D:dh) (L:List Gm) (w:World),fB w pb vn vb D->dS t p=true->bE.Shut L->L.length<=100000->Nk L D->nf p t∈L->p*2000001+t.natAbs<n->
 Calls prog 231 #[.pointer (some ⟨pb,0,none⟩),tY t p] w (YD pb vn vb D L (nf p t) w)
theorem Bz(w:World)(i:Nat)(T:TypeId):Ints (w.alloc (.cells #[.int .i64 (i:Int)] T)) (.slice (some ⟨w.heap.size,0,none⟩) 1 1) (dB [i]):=(ji.one w i T).out
theorem WA(w:World)(i j:Nat)(T:TypeId):Ext w ((w.alloc (.cells #[.int .i64 (i:Int)] T)).alloc (.cells #[.int .i64 (j:Int)] T))/\Ints ((w.alloc (.cells #[.int .i64 (i:Int)] T)).alloc (.cells #[.int .i64 (j:Int)] T)) (.slice (some ⟨w.heap.size,0,none⟩) 1 1) (dB [i])/\Ints ((w.alloc (.cells #[.int .i64 (i:Int)] T)).alloc (.cells #[.int .i64 (j:Int)] T)) (.slice (some ⟨w.heap.size+1,0,none⟩) 1 1) (dB [j]):=by
 refine⟨by go_grown,(Bz w i T).ext (by go_grown),?_⟩;have h:=Bz (w.alloc (.cells #[.int .i64 (i:Int)] T)) j T;rw[fU]at h;exact h
theorem Z5{p:Nat}{t:Int}(hg:dS t p=true)(h1:1<=p):nf p t=.mk [nf p (t-1)] [nf p (t+1)]:=by
 obtain⟨q,rfl⟩:∃q,p=q+1:=⟨p-1,by omega⟩;have:=fe.1 hg;exact bE.oU (by omega)
theorem nf0(t:Int):nf 0 t=nw t:=rfl
def ZO:List Row:=[⟨0,[],22,[0]⟩,⟨1,[],23,[3]⟩,⟨2,[],24,[5]⟩,⟨3,[2],25,[23]⟩,⟨4,[1,3,3],26,[22,24]⟩,⟨5,[0,4,4],27,[21,25]⟩,⟨6,[5,5,0,1,2,3,4,5],7,[26]⟩]
def ZN:List Row:=[⟨0,[],43,[0]⟩,⟨1,[],44,[0]⟩,⟨2,[],45,[3]⟩,⟨3,[],46,[5]⟩,⟨4,[3],47,[45]⟩,⟨5,[2,4,4],48,[44,46]⟩,⟨6,[1,5,5],49,[43,47]⟩,⟨7,[6],50,[48]⟩,⟨8,[0,7,6],51,[42,49]⟩,⟨9,[8,8,0,1,2,3,4,5,6,7,8],5,[50]⟩]
theorem RZ{n:Nat}(ih:PY n):PY (n+1):=by
 intro t p pb vn vb D L w hB hg hS hL hI hm hn;obtain⟨W1,hW1,hx1,b0,hz1⟩:=Ce w (.cells #[.int .i64 t,.int .i64 (p:Int)] 34);obtain⟨W,hW,hx2,b1,hz2⟩:=Ce W1 (.cells #[.int .i64 1,.int .i64 (p:Int)] 34);have hgt:=fe.1 hg;have hx:=ah hx1 hx2;have hBW:=hB.ext hx;have hgW:=fO.ext hB hx;have hb0:=ik hx2 b0
 have hC:∀{V:World} {uL wB:Value} {D':dh},fO W V pb vn vb D uL wB D'->V.cell? ⟨w.heap.size,0,none⟩=some (.int .i64 t)/\V.cell? ⟨w.heap.size,1,none⟩=some (.int .i64 (p:Int))/\V.cell? ⟨W1.heap.size,0,none⟩=some (.int .i64 1)/\V.cell? ⟨W1.heap.size,1,none⟩=some (.int .i64 (p:Int)):=λ{V uL wB D'} g=>
  oQ.four ((g.keep.block _ (bW hb0) (λo=>by have:=hB.QX o;omega)).trans hb0) ((g.keep.block _ (bW b1) (λo=>by have:=hB.QX o;omega)).trans b1)
 have hlen:=hI.len hB.good;have d0:oQ W1 w.heap.size t p:=b0;obtain⟨c0,c1⟩:=d0.cells;have HC:=jm (@hC) hgW;have HI:=Ap hI hS hm hL;have HG:=jm hg hn;have HB:=jm hBW hB;have IH:=aW ih;clear hC hgW hI hS hm hL hg hn hBW hB ih d0 b0 b1 hb0 hx hx2 hz1 hz2;rw[gM];go_enter Tryz.func231,Tryz.ntmps231
 go_upto_region 1 with fail
 rw[<-hW1];clear hW1 hx1;go_upto_region 2 with fail
 rw[<-hW];clear hW;obtain⟨c0,c1,c2,c3⟩:=HC.out.1 (fO.refl W pb vn vb D);by_cases h0:t=0
 .have g0:(t == 0)=true:=by simpa using h0
  have HT:=aW h0;have HP0:=aW (qN pb vn vb D (.slice none 0 0) (.slice none 0 0) [] [] W HB.out.1 (Ints.nil _ _ _) (Ints.nil _ _ _) (by simp) (by simp) (by simp) (by simp) (by have:=HI.out.2.2.2;omega));clear h0 hgt;go_wp2_with (go_at_call 114;refine HP0.out.mono ?_;rintro e w3 ⟨zS,qE,D2,i2,rfl,hB3,hK3,CB,TD,hP3⟩)
  go_ret
  have hs:Same (vl D2 i2) (nf p t):=by
   rw[HT.out,bE.QG];exact xR HB.out.1.good.wf hB3.good.wf hP3 (by simp) (by simp)
  exact⟨zS,qE,D2,i2,rfl,hB3,HC.out.2.trans (fO.zY hK3 CB TD hP3),hP3.lt,hs,uz HB.out.1.good.wf hB3.good hP3 HI.out.1 HI.out.2.2.1 hs⟩
 .have g0:(t == 0)=false:=by simpa using h0
  by_cases hp:0<p
  .have gp:(0:Int)<(p:Int):=by omega
   have hnf:=Z5 HG.out.1 hp;have hm1:nf p (t-1)∈L:=HI.out.2.1 _ HI.out.2.2.1 _ (.inl (by rw[hnf];simp[bE.Gm.l]));have hm2:nf p (t+1)∈L:=HI.out.2.1 _ HI.out.2.2.1 _ (.inr (by rw[hnf];simp[bE.Gm.r]));rw[<-bE.Ab p (t-1)]at hm1;rw[<-bE.Ab p (t+1)]at hm2;obtain⟨lA1,lA2⟩:=Bq (u:=t-1) (by omega) HG.out.1 (.inl rfl);obtain⟨lB1,lB2⟩:=Bq (u:=t+1) (by omega) HG.out.1 (.inr rfl);have eA:=QO (p:=p) (by omega) t (-1);have eB:=QO (p:=p) (by omega) t 1;rw[show t+-1=t-1 by omega]at eA;obtain⟨k1,hk1⟩:=fu (dO p (t-1));obtain⟨q1,hq1⟩:=fu (dP p (t-1));obtain⟨k2,hk2⟩:=fu (dO p (t+1));obtain⟨q2,hq2⟩:=fu (dP p (t+1));have J6:Hid (nf p t=.mk [nf q1 k1] [nf q2 k2]):=aW (by rw[hnf,hk1,hq1,hk2,hq2,bE.Ab,bE.Ab]);rw[<-hk1,<-hq1]at hm1 lA1 eA;rw[<-hk2,<-hq2]at hm2 lB1 eB;rw[<-hq1]at lA2;rw[<-hq2]at lB2;have bA:=fe.1 lA1;have bB:=fe.1 lB1;have HM:=nY (And.intro hm1 lA1) hm2 lB1;have HE:=jm eA eB;have HL:Hid (q1*2000001+k1.natAbs<n/\q2*2000001+k2.natAbs<n):=aW (by have:=HG.out.2;omega);have XL:=aW (λV=>nk 1 p V (by omega) (by omega));have XY:=aW (λV=>sI t (-1) p p V (by omega) (by omega) (by omega) (by omega) (by omega) (by omega));have amM:=aW (λV=>sI t 1 p p V (by omega) (by omega) (by omega) (by omega) (by omega) (by omega));clear hnf hm1 hm2 lA1 lB1 eA eB hk1 hq1 hk2 hq2 bA bB lA2 lB2 hgt h0;go_upto_region 5 with fail
   have ae:=HC.out.1 (fO.ext HB.out.1 (eX W));refine oJ (λV=>V.cell? ⟨w.heap.size,0,none⟩=some (.int .i64 t)/\V.cell? ⟨w.heap.size,1,none⟩=some (.int .i64 (p:Int))/\V.cell? ⟨W1.heap.size,0,none⟩=some (.int .i64 1)/\V.cell? ⟨W1.heap.size,1,none⟩=some (.int .i64 (p:Int))) [6] ZO ae (λaj ae=>?_);(refine bP 0 aj ae ?_;refine bP 1 aj ae ?_;refine bP 2 aj ae ?_);(refine jv aj (i:=3) λK hK=>?_;go_simp);refine(XL.out _).mono ?_;rintro e w3 ⟨rfl,hx3⟩;have mZ:=ah (eX W) hx3;have ae:=HC.out.1 (fO.ext HB.out.1 mZ);refine hK.out _ _ (λ_=>ae) ?_;clear hK K;(try simp only[nP]);(refine jv aj (i:=4) λK hK=>?_;go_simp);refine(XY.out _).mono ?_;rintro e w4 ⟨he,hx4⟩;rw[HE.out.1.1,HE.out.1.2]at he;subst he;have oK:=ah mZ hx4;have ae:=HC.out.1 (fO.ext HB.out.1 oK);refine hK.out _ _ (λ_=>ae) ?_;clear hK K;(try simp only[nP]);(refine jv aj (i:=5) λK hK=>?_;go_simp);refine(IH.out k1 q1 pb vn vb D L _ (HB.out.1.ext oK) HM.out.1.2 HI.out.2.1 HI.out.2.2.2 HI.out.1 HM.out.1.1 HL.out.1).mono ?_;rintro e w5 ⟨vn5,vb5,D5,i5,rfl,Cc,oq,hi5,hs5,JD⟩;have FB:=(fO.ext HB.out.1 oK).trans oq;have ae:=HC.out.1 FB;refine hK.out _ _ (λ_=>ae) ?_;clear hK K;(try simp only[nP]);refine nQ aj [6] [_] ?_;clear aj ae oq mZ oK hx3 hx4;have Zy:=jm FB Cc;obtain⟨c0,c1,c2,c3⟩:=HC.out.1 FB;clear FB Cc
   go_upto_region 7 with(first
    |(go_at_call 231;refine(IH.out k2 q2 pb vn5 vb5 D5 L _ (Zy.out.2.ext hx6) HM.out.2.2 HI.out.2.1 HI.out.2.2.2 JD HM.out.2.1 HL.out.2).mono ?_;rintro e w7 ⟨vn7,vb7,D7,i7,rfl,hB7,aaC,hi7,hs7,agZ⟩)
    |(go_at_call 98;refine(amM.out _).mono ?_;rintro e w6 ⟨he,hx6⟩;rw[HE.out.2.1,HE.out.2.2]at he;subst he))
   have hG7:=(fO.ext Zy.out.2 hx6).trans aaC;have ak4:Same (vl D7 i5) (nf q1 k1):=by
    obtain⟨E7,Ef⟩:=aaC.more;subst Ef;rw[bE.jJ Zy.out.2.good.wf hB7.good.wf _ hi5];exact hs5
   have ag3:i5<D7.length:=bg hi5 aaC.len;have apu:=agZ.len hB7.good;obtain⟨Gi,hj1,hj2⟩:=WA w7 i5 i7 3;have HPT:=aW (qN pb vn7 vb7 D7 _ _ [i5] [i7] _ (hB7.ext Gi) hj1 hj2 (by simpa using ag3) (by simpa using hi7) (by simp) (by simp) (by have:=HI.out.2.2.2;omega));have HB7:=jm hB7 Gi;have HG7:=aW (Zy.out.1.trans hG7);clear Gi hj1 hj2 hB7 hG7 aaC hx6 c0 c1 c2 c3;go_wp2_with (go_at_call 114;refine HPT.out.mono ?_;rintro e w9 ⟨vn9,vb9,D9,i9,rfl,UJ,hK9,hS9,hQ9,Pg⟩)
   go_ret
   have hs:Same (vl D9 i9) (nf p t):=by
    rw[J6.out];exact bE.dn (xR HB7.out.1.good.wf UJ.good.wf Pg (by simpa using ag3) (by simpa using hi7)) (KQ ak4 hs7)
   exact⟨vn9,vb9,D9,i9,rfl,UJ,HC.out.2.trans (HG7.out.trans ((fO.ext HB7.out.1 HB7.out.2).trans (fO.zY hK9 hS9 hQ9 Pg))),Pg.lt,hs,uz HB7.out.1.good.wf UJ.good Pg agZ HI.out.2.2.1 hs⟩
  .have hp0:p=0:=by omega
   subst hp0;have gp:¬((0:Int)<((0:Nat):Int)):=(by omega);by_cases hpos:0<t
   .have hm1:nf 0 (t-1)∈L:=HI.out.2.1 _ HI.out.2.2.1 _ (.inl (by rw[nf0,bE.SK hpos,nf0];simp))
    have lA1:dS (t-1) ((0:Nat):Int)=true:=fe.2 ⟨by omega,by omega,by omega,by omega,.inl (by omega)⟩;have eA:=QO (p:=0) (by omega) t (-1);rw[show t+-1=t-1 by omega]at eA;have HE:Hid (dO 24 (sc t 0+sc (-1) 0)=t-1/\dP 24 (sc t 0+sc (-1) 0)=0):=aW eA;have HM:=jm hm1 lA1;have HL:Hid (0*2000001+(t-1).natAbs<n):=aW (by have:=HG.out.2;omega);have XL:=aW (λV=>nk 1 0 V (by omega) (by omega));have XY:=aW (λV=>sI t (-1) 0 0 V (by omega) (by omega) (by omega) (by omega) (by omega) (by omega));have J6:Hid (nf 0 t=.mk [nf 0 (t-1)] []):=aW (by
     obtain⟨k,rfl⟩:∃k:Nat,t=(k:Int)+1:=⟨(t-1).toNat,by omega⟩;rw[nf0,ab4,nf0,show(k:Int)+1-1=k by omega])
    clear hm1 lA1 eA hgt h0;go_upto_region 9 with fail
    have ae:=HC.out.1 (fO.ext HB.out.1 (eX W));refine oJ (λV=>V.cell? ⟨w.heap.size,0,none⟩=some (.int .i64 t)/\V.cell? ⟨w.heap.size,1,none⟩=some (.int .i64 ((0:Nat):Int))/\V.cell? ⟨W1.heap.size,0,none⟩=some (.int .i64 1)/\V.cell? ⟨W1.heap.size,1,none⟩=some (.int .i64 ((0:Nat):Int))) [9] ZN ae (λaj ae=>?_);(refine bP 0 aj ae ?_;refine bP 1 aj ae ?_;refine bP 2 aj ae ?_;refine bP 3 aj ae ?_);(refine jv aj (i:=4) λK hK=>?_;go_simp);refine(XL.out _).mono ?_;rintro e w3 ⟨rfl,hx3⟩;have mZ:=ah (eX W) hx3;have ae:=HC.out.1 (fO.ext HB.out.1 mZ);refine hK.out _ _ (λ_=>ae) ?_;clear hK K;(try simp only[nP]);(refine jv aj (i:=5) λK hK=>?_;go_simp);refine(XY.out _).mono ?_;rintro e w4 ⟨he,hx4⟩;rw[HE.out.1,HE.out.2]at he;subst he;have oK:=ah mZ hx4;have ae:=HC.out.1 (fO.ext HB.out.1 oK);refine hK.out _ _ (λ_=>ae) ?_;clear hK K;(try simp only[nP]);(refine jv aj (i:=6) λK hK=>?_;go_simp);refine(IH.out (t-1) 0 pb vn vb D L _ (HB.out.1.ext oK) HM.out.2 HI.out.2.1 HI.out.2.2.2 HI.out.1 HM.out.1 HL.out).mono ?_;rintro e w5 ⟨vn5,vb5,D5,i5,rfl,Cc,oq,hi5,hs5,JD⟩;have FB:=(fO.ext HB.out.1 oK).trans oq;have ae:=HC.out.1 FB;refine hK.out _ _ (λ_=>ae) ?_;clear hK K;(try simp only[nP]);(refine jv aj (i:=7) λK hK=>?_;go_simp);have hxa:Ext w5 (w5.alloc (.cells #[.int .i64 ((i5:Nat):Int)] 3)):=(by go_grown);have hj1:=Bz w5 i5 3;have ae:=HC.out.1 (FB.trans (fO.ext Cc hxa));refine hK.out _ _ (λ_=>ae) ?_;clear hK K;(try simp only[nP]);(refine jv aj (i:=8) λK hK=>?_;go_simp);have agV:=JD.len Cc.good;refine(qN pb vn5 vb5 D5 _ _ [i5] [] _ (Cc.ext hxa) hj1 (Ints.nil _ _ _) (by simpa using hi5) (by simp) (by simp) (by simp) (by have:=HI.out.2.2.2;omega)).mono ?_;rintro e w9 ⟨vn9,vb9,D9,i9,rfl,UJ,hK9,hS9,hQ9,Pg⟩;have hG9:=(FB.trans (fO.ext Cc hxa)).trans (fO.zY hK9 hS9 hQ9 Pg);have ae:=HC.out.1 hG9;refine hK.out _ _ (λ_=>ae) ?_;clear hK K;(try simp only[nP]);refine nQ aj [9] [_] ?_;clear aj ae;have hs:Same (vl D9 i9) (nf 0 t):=by
     rw[J6.out];exact bE.dn (xR Cc.good.wf UJ.good.wf Pg (by simpa using hi5) (by simp)) (AR hs5).1
    have abM:=Aw UJ (HC.out.2.trans hG9) Pg.lt hs (uz Cc.good.wf UJ.good Pg JD HI.out.2.2.1 hs);clear hs hG9 UJ hK9 hS9 hQ9 Pg FB Cc oq hxa hj1 c0 c1 c2 c3 hx3 hx4 mZ oK;go_wp2
    go_ret
    exact⟨vn9,vb9,D9,i9,rfl,abM.out⟩
   .have hneg:t<0:=by omega
    have hm1:nf 0 (t+1)∈L:=HI.out.2.1 _ HI.out.2.2.1 _ (.inr (by rw[nf0,bE.Sc hneg,nf0];simp));have lA1:dS (t+1) ((0:Nat):Int)=true:=fe.2 ⟨by omega,by omega,by omega,by omega,.inl (by omega)⟩;have eA:=QO (p:=0) (by omega) t 1;have HE:Hid (dO 24 (sc t 0+sc 1 0)=t+1/\dP 24 (sc t 0+sc 1 0)=0):=aW eA;have HM:=jm hm1 lA1;have HL:Hid (0*2000001+(t+1).natAbs<n):=aW (by have:=HG.out.2;omega);have XY:=aW (λV=>sI t 1 0 0 V (by omega) (by omega) (by omega) (by omega) (by omega) (by omega));have J6:Hid (nf 0 t=.mk [] [nf 0 (t+1)]):=aW (by
     obtain⟨k,rfl⟩:∃k:Nat,t=-((k:Int)+1):=⟨(-t-1).toNat,by omega⟩;rw[nf0,ab5,nf0,show -((k:Int)+1)+1=-(k:Int) by omega])
    clear hm1 lA1 eA hgt h0
    go_wp2_with (first
     |(go_at_call 114
       have agV:=JD.len Cc.good;refine(qN pb vn5 vb5 D5 _ _ [] [i5] _ (Cc.ext (by go_grown)) (Ints.nil _ _ _) (Bz w5 i5 3) (by simp) (by simpa using hi5) (by simp) (by simp) (by have:=HI.out.2.2.2;omega)).mono ?_;rintro e w9 ⟨vn9,vb9,D9,i9,rfl,UJ,hK9,hS9,hQ9,Pg⟩)
     |(go_at_call 231;refine(IH.out (t+1) 0 pb vn vb D L _ (HB.out.1.ext hx4) HM.out.2 HI.out.2.1 HI.out.2.2.2 HI.out.1 HM.out.1 HL.out).mono ?_;rintro e w5 ⟨vn5,vb5,D5,i5,rfl,Cc,oq,hi5,hs5,JD⟩)
     |(go_at_call 98;refine(XY.out _).mono ?_;rintro e w4 ⟨he,hx4⟩;rw[HE.out.1,HE.out.2]at he;subst he))
    go_ret
    have hxa:Ext w5 (w5.alloc (.cells #[.int .i64 ((i5:Nat):Int)] 3)):=(by go_grown);have FB:=(fO.ext HB.out.1 hx4).trans oq;have hG9:=(FB.trans (fO.ext Cc hxa)).trans (fO.zY hK9 hS9 hQ9 Pg);have hs:Same (vl D9 i9) (nf 0 t):=by
     rw[J6.out];exact bE.dn (xR Cc.good.wf UJ.good.wf Pg (by simp) (by simpa using hi5)) (AR hs5).2
    exact⟨vn9,vb9,D9,i9,rfl,UJ,HC.out.2.trans hG9,Pg.lt,hs,uz Cc.good.wf UJ.good Pg JD HI.out.2.2.1 hs⟩
theorem Vl:∀n,PY n:=λn=>by
 induction n with
 |zero=>intro t p pb vn vb D L w _ _ _ _ _ _ h;omega
 |succ n ih=>exact RZ ih
end
section
open Go.RowKit
open bE (dh Nd Gm vl Same nf nw Nk dO dP bz bI plus Canon jc)
variable {F:dh} {t:Int} {p:Nat}
theorem aad(hg:dS t p=true)(hF:bI F)(s:Same (bz F) (nf p t))(h:120<=uf t p):dm F=false:=by
 refine zk ?_;have h1:=bE.IG hF s;have hgt:=fe.1 hg;unfold uf at h;by_cases c:p=0
 .subst c
  rw[if_pos rfl]at h;have h2:=bE.CP 0 t;have e:(2:Int) ^ 0=1:=rfl;rw[e]at h2;omega
 .rw[if_neg c]at h
  obtain⟨q,rfl⟩:∃q,p=q+1:=⟨p-1,by omega⟩;have h2:=bE.FW q (k:=t) (by omega);have e:sc (t.natAbs:Int) (q+1) / 16777216=(t.natAbs:Int) / 2 ^ (q+1):=by
   unfold sc;have h24:(16777216:Int)=2 ^ (q+1)*2 ^ (24-(q+1)):=(by rw[<-wy,show q+1+(24-(q+1))=24 by omega];rfl);rw[h24];exact Int.mul_ediv_mul_of_pos_left _ _ (nZ _)
  rw[e]at h
  push_cast at h
  omega
theorem Py(hg:dS t p=true)(h:uf t p<120):(bE.cs p t).length<=100000:=by
 have hgt:=fe.1 hg;refine Ru (by omega) ?_;unfold uf at h;by_cases c:p=0
 .subst c
  rw[if_pos rfl]at h;have e:(2:Int) ^ 0=1:=rfl;rw[e,Int.ediv_one];exact h
 .rw[if_neg c]at h
  have e:sc (t.natAbs:Int) p / 16777216=(t.natAbs:Int) / 2 ^ p:=by
   unfold sc;have h24:(16777216:Int)=2 ^ p*2 ^ (24-p):=(by rw[<-wy,show p+(24-p)=24 by omega];rfl);rw[h24];exact Int.mul_ediv_mul_of_pos_left _ _ (nZ _)
  rw[e]at h;omega
def YC(t:Int)(p:Nat)(w:World)(e:Ending)(w':World):Prop:=
 ∃vN F,e=.returned (.agg #[vN])/\dI w' w.heap.size vN F/\(dm F=true->bI F/\Same (bz F) (nf p t))/\(dm F=false->∀NF,bI NF->Same (bz NF) (nf p t)->dm NF=false)/\Ext w w'
theorem Sm(w:World)(B:Nat):dI w B (.slice none 0 0) []:=⟨none,0,rfl,aJ _,by simp[maxLen],λh=>absurd h (by simp)⟩
theorem Oe(t:Int)(p:Nat)(w:World)(hg:dS t p=true):Calls prog 196 #[tY t p] w (YC t p w):=by
 have hgt:=fe.1 hg;obtain⟨W,hW,hx,b0,b1,hz⟩:=MV w (.cells #[.int .i64 t,.int .i64 (p:Int)] 34) (.cells #[.slice none 0 0] 30);have d0:oQ W w.heap.size t p:=b0;obtain⟨c0,c1⟩:=d0.cells;have HBN:=aW (λV=>Oo t p V (by omega) (by omega) (by omega));have HX:=Ap hx d0 b1 hz;clear b0 b1 d0 hz hx;rw[gM];by_cases aa1:120<=uf t p
 .have rq:Hid (∀NF,bI NF->Same (bz NF) (nf p t)->dm NF=false):=aW λNF h1 h2=>aad hg h1 h2 aa1
  go_enter Tryz.func196,Tryz.ntmps196
  go_upto_region 1 with fail
  rw[<-hW];clear hW hgt hg
  go_wp2_with (go_at_call 230;refine(HBN.out _).mono ?_;rintro e w1 ⟨rfl,hx1⟩
               have hr1:=ik hx1 HX.out.2.2.1;have z1:=bQ _ (w.heap.size+1) 0 _ _ _ hr1;have z2:=gQ _ (w.heap.size+1) 0 _ _ hr1;have HR:=jm hr1 hx1;clear hr1 hx1)
  (try simp only[Exit.inBlock,Exit.then]);refine bodyPost_ret (results_cell_row rfl _ _ (w.heap.size+1) 30 #[.slice none 0 0] (0,0) _ rfl (gK _ (w.heap.size+1) 0 _ _ (.slice none 0 0) HR.out.1) underlying30 rfl (by kernel_rfl)) rfl ?_;exact⟨.slice none 0 0,[],rfl,Sm _ _,(λh=>absurd h (by decide)),λ_=>rq.out,ll (ah HX.out.1 HR.out.2) (w.heap.size+1) 0 _⟩
 .have h119:uf t p<120:=by omega
  have hr:=Py hg h119;have HG:=jm hg hr;go_enter Tryz.func196,Tryz.ntmps196
  go_upto_region 1 with fail
  rw[<-hW];clear hW hgt hg hr;go_upto_region 3 with(go_at_call 230;refine(HBN.out _).mono ?_;rintro e w1 ⟨rfl,hx1⟩)
  obtain⟨V,hV,y7,bV,OA⟩:=Ce w1 (.cells #[.slice none 0 0,.slice none 0 0] 109);have hq:=ah hx1 y7;have hBk:=qM bV;have d1:=HX.out.2.1.ext hq;have hr1:=ik hq HX.out.2.2.1;obtain⟨c0,c1⟩:=d1.cells;have hw1:w.heap.size+1<w1.heap.size:=bg (bW HX.out.2.2.1) hx1.size;have HP:=aW (Vl _ t p w1.heap.size (.slice none 0 0) (.slice none 0 0) [] (bE.cs p t) V hBk HG.out.1 (bE.Eh p t) HG.out.2 (λi hi=>absurd hi (by simp)) (bE.xm p t) (mO _));have HQ:=Ap hq hr1 hw1 OA;have hns:∀b,xE w1.heap.size (.slice none 0 0) (.slice none 0 0) b->b=w1.heap.size:=λb h=>by
   rcases h with h|h|h
   .exact h
   .simp[Value.ownBlock]at h
   .simp[Value.ownBlock]at h
  have HNS:=aW hns;clear bV y7 hx1 hq d1 hr1 hw1 hBk hns OA;go_upto_region 4 with fail
  rw[<-hV];clear hV
  go_wp2_with (first
   |(go_at_call 70;refine(vU _ zS qE D2 i2 _ hB2 hi2).mono ?_;rintro e w4 ⟨vN,F,rfl,hN,iF,sF,hx4⟩
     obtain⟨aN,cN,rfl⟩:=hN.slice;have hr3:=(hgo.keep.block _ (bW HQ.out.2.1) (λo=>by have:=HNS.out _ o;have:=HQ.out.2.2.1;omega)).trans HQ.out.2.1;have hr4:=ik hx4 hr3;have z1:=bQ _ (w.heap.size+1) 0 _ _ _ hr4;have z2:=gQ _ (w.heap.size+1) 0 _ _ hr4;have HR:=Aw hr4 hx4 hN iF sF;clear hr3 hr4 hx4 hN iF sF)
   |(go_at_call 231;refine HP.out.mono ?_;rintro e w3 ⟨zS,qE,D2,i2,rfl,hB2,hgo,hi2,hs2,hin2⟩))
  (try simp only[Exit.inBlock,Exit.then]);refine bodyPost_ret (results_cell_row rfl _ _ (w.heap.size+1) 30 #[.slice aN (List.length F) cN] (0,0) _ rfl (gK _ (w.heap.size+1) 0 _ _ (.slice aN (List.length F) cN) HR.out.1) underlying30 rfl (by kernel_rfl)) rfl ?_;obtain⟨hr4,hx4,hN,iF,sF⟩:=HR.out;have hsz:=hgo.keep.size;have hz1:=HQ.out.2.2.1;have hz2:=HQ.out.2.2.2;have mZ:Ext w w3:=⟨hgo.keep.os.trans (ah HX.out.1 HQ.out.1).os,hgo.keep.tape.trans (ah HX.out.1 HQ.out.1).tape,hgo.keep.output.trans (ah HX.out.1 HQ.out.1).output,bZ (ah HX.out.1 HQ.out.1).size hgo.keep.size,λx hx=>(hgo.keep.block x (by omega) (λo=>by have:=HNS.out _ o;omega)).trans ((ah HX.out.1 HQ.out.1).block x hx)⟩;have ss:=bE.dn sF hs2;refine⟨.slice aN F.length cN,F,rfl,(hN.set (p:=⟨w.heap.size+1,0,none⟩) (by show w.heap.size+1<w3.heap.size;omega) _).weaken (by omega),λ_=>⟨iF,ss⟩,λh NF h1 h2=>?_,ll (ah mZ hx4) (w.heap.size+1) 0 _⟩;rw[bE.kQ h1 iF (bE.dn h2 (bE.dU ss))];exact h
theorem VS(t:Int)(p:Nat)(w:World)(hg:dS t p=true):Calls prog 158 #[tY t p] w (M7 t p w):=by
 obtain⟨W,hW,hx,b0,b1,hz⟩:=MV w (.cells #[.int .i64 t,.int .i64 (p:Int)] 34) (.cells #[.slice none 0 0] 30);have d0:oQ W w.heap.size t p:=b0;obtain⟨c0,c1⟩:=d0.cells;have hgd:=λV=>tN t (p:Int) V
 rw[hg]at hgd;have HGD:=aW hgd;have HF:=aW (λV=>Oe t p V hg);have HX:=nY hx b1 hz;clear b0 b1 hz hx hgd hg;rw[gM];go_enter Tryz.func158,Tryz.ntmps158
 go_upto_region 1 with fail
 rw[<-hW];clear hW;go_upto_region 3 with(go_at_call 66;refine(HGD.out _).mono ?_;rintro e w1 ⟨rfl,hx1⟩)
 obtain⟨c0,c1⟩:=(d0.ext hx1).cells;have HX1:=aW hx1;clear d0 hx1
 go_wp2_with (first
  |(go_at_call 195;refine(Cu _ _ F _ hN).mono ?_;rintro e w3 ⟨aR,nR,cR,okR,rfl,hok,hy,hn,hx3⟩
    have hr3:=ik (ah HX1.out (ah hx2 hx3)) HX.out.2.1;have z1:=bQ _ (w.heap.size+1) 0 _ _ _ hr3;have z2:=gQ _ (w.heap.size+1) 0 _ _ hr3;have HR:=Ap hok hy hr3 hx3;clear hok hy hr3 hx3 hn)
  |(go_at_call 196;refine(HF.out _).mono ?_;rintro e w2 ⟨vN,F,rfl,hN,hF1,hF2,hx2⟩
    obtain⟨aN,cN,rfl⟩:=hN.slice;have ai6:=jm hF1 hF2;clear hF1 hF2))
 refine mg (w.heap.size+1) 30 _ (gK _ (w.heap.size+1) 0 _ _ (.slice aR nR cR) HR.out.2.2.1) underlying30 ?_;obtain⟨hok,hy,hr3,hx3⟩:=HR.out;have hzz:=HX.out.2.2;have hz1:=HX1.out.size;refine⟨aR,nR,cR,okR,rfl,λh=>?_,λh=>?_,ll (ah HX.out.1 (ah HX1.out (ah hx2 hx3))) (w.heap.size+1) 0 _⟩
 .obtain⟨h1,h2⟩:=hy h
  have hf:dm F=true:=by rw[<-hok,h]
  obtain⟨k1,k2⟩:=ai6.out.1 hf;exact⟨F,h1,k1,k2,hf,(h2.set (p:=⟨w.heap.size+1,0,none⟩) (by show w.heap.size+1<w1.heap.size;omega) _).weaken (by omega)⟩
 .exact ai6.out.2 (by rw[<-hok,h])
def Ua(E:dh)(u:Int)(w:World)(e:Ending)(w':World):Prop:=
 ∃(a:Option Addr) (n c:Nat) (ok:Bool),e=.returned (.tuple #[.agg #[.slice a n c],.bool ok])/\(ok=true->∃E',n=E'.length/\CS E u/\fA E' (plus (bz E) (nf 16 u))/\E'.length<=120/\dI w' w.heap.size (.slice a n c) E')/\
  (ok=false->¬(CS E u/\∃E',fA E' (plus (bz E) (nf 16 u))))/\Ext w w'
theorem Forms.two{w:World}{b:Nat}{v0 v1:Value}{G:dh}{T:TypeId}(hb:w.heap[b]?=some (.cells #[v0,v1] T (0,0)))(h0:dI w 0 v0 F)(h1:dI w 0 v1 G):Forms w (.slice (some ⟨b,0,none⟩) 2 2) [F,G]:=by
 obtain⟨a0,c0,rfl⟩:=h0.slice;obtain⟨a1,c1,rfl⟩:=h1.slice;refine⟨some ⟨b,0,none⟩,2,rfl,aJ _,by simp[maxLen],λ_=>⟨b,rfl,λi hi=>?_⟩⟩;have hi:i<2:=hi;rcases(show i=0\/i=1 by omega)with rfl|rfl
 .exact⟨a0,c0,bQ w b 0 _ _ _ hb,h0⟩
 .exact⟨a1,c1,bQ w b 1 _ _ _ hb,h1⟩
theorem Sj(v:Value)(E:dh)(t:Int)(p:Nat)(w:World)(hv:dI w 0 v E)(hE:bI E)(cE:Canon (bz E))(fE:dm E=true)(hg:dS t p=true):
 Calls prog 197 #[.agg #[v],tY t p] w (Ua E (gP t p) w):=by
 obtain⟨aE,Zp,rfl⟩:=hv.slice;have hp:=(fe.1 hg).2.2.2.1;obtain⟨W,hW,hx,hb0,hb1,hb2,hz⟩:=Zt w (.cells #[.slice aE (List.length E) Zp] 30) (.cells #[.int .i64 t,.int .i64 (p:Int)] 34) (.cells #[.slice none 0 0] 30);have HE:=nY hE cE fE;have HN:=aW (λV=>VS t p V hg);have H16:Hid (nf p t=nf 16 (gP t p)):=aW (af3 (by omega));have hd1:oQ W (w.heap.size+1) t p:=hb1;obtain⟨c2,c3⟩:=hd1.cells;have c0:=bQ W w.heap.size 0 _ _ _ hb0;simp only[gE]at c0;have HV:=aW (hv.ext hx);have HX:=aW hx;clear hx hv hE cE fE hg hz hd1;rw[gM];go_enter Tryz.func197,Tryz.ntmps197
 go_upto_region 1 with fail
 rw[<-hW];clear hW;go_upto_region 2 with(go_at_call 158;refine(HN.out _).mono ?_;rintro e w1 ⟨aN,nN,cN,ok1,rfl,hN1,Ph,hx1⟩)
 have hxa:Ext w1 (w1.alloc (.cells #[.slice aN nN cN] 30)):=by go_grown
 have hbn:=eu w1 (.cells #[.slice aN nN cN] 30);have hE1:=ah hx1 hxa;have hr0:=ik hE1 hb0;have hr2:=ik hE1 hb2;have HV1:=aW (HV.out.ext hE1);cases ok1 with
 |false=>
  have rq:Hid (¬(CS E (gP t p)/\∃E',fA E' (plus (bz E) (nf 16 (gP t p))))):=aW (by
   rintro⟨⟨NF,S,f1,f2,_⟩,_⟩;have h:=mG f1;rw[Ph rfl NF f1.1 (by rw[H16.out];exact bE.fT h (bE.mE _ _) f1.eqv)]at f2;cases f2)
  generalize w1.alloc (.cells #[.slice aN nN cN] 30)=V1 at *;have q1:=bQ V1 (w.heap.size+1+1) 0 _ _ _ hr2;have q2:=gQ V1 (w.heap.size+1+1) 0 _ _ hr2;have HB:=aW hr2;have HZ:=aW (ah HX.out hE1);clear hN1 Ph hxa hbn hE1 hr0 hr2 hb0 hb1 hb2 hx1 c0 c2 c3;go_wp2
  refine mg (w.heap.size+1+1) 30 _ (gK _ (w.heap.size+1+1) 0 _ _ (.slice none 0 0) HB.out) underlying30 ?_;exact⟨none,0,0,false,rfl,(λh=>by cases h),λ_=>rq.out,ll HZ.out (w.heap.size+1+1) 0 _⟩
 |true=>
  obtain⟨NF,rfl,hNi,hNs,hNf,hNn⟩:=hN1 rfl;have Rf:=(hNn.weaken (aU _)).ext hxa;have J6:Hid (fA NF (nf 16 (gP t p))/\dm NF=true):=aW ⟨⟨hNi,_,hNs,bE.mE _ _,by rw[H16.out];exact jc.refl _⟩,hNf⟩;generalize w1.alloc (.cells #[.slice aN NF.length cN] 30)=V1 at *;generalize w1.heap.size=bN at *;have k0:=bQ V1 w.heap.size 0 _ _ _ hr0;have k1:=bQ V1 bN 0 _ _ _ hbn;simp only[gE]at k0 k1;have hxb:Ext V1 (V1.alloc (.cells #[.slice aE E.length Zp,.slice aN NF.length cN] 30)):=by go_grown
  have hL:=Forms.two (eu V1 (.cells #[.slice aE E.length Zp,.slice aN NF.length cN] 30)) (HV1.out.ext hxb) (Rf.ext hxb);have HCS:=aW (PL _ [E,NF] _ hL (λF hF=>by
   simp only[jk,List.mem_nil_iff,or_false]at hF;rcases hF with rfl|rfl
   .exact⟨HE.out.1,HE.out.2.2⟩
   .exact⟨J6.out.1.1,J6.out.2⟩) (by simp))
  have HZ:=jm (ah HX.out (ah hE1 hxb)) (ik hxb hr2);clear hN1 Ph hNi hNs hNf hNn Rf hxa hbn hE1 hr0 hr2 hb0 hb1 hb2 hx1 hxb hL c0 c2 c3;go_wp2_with (go_at_call 232;refine HCS.out.mono ?_;rintro e w3 ⟨aS,nS,cS,yU,rfl,hS1,hS2,hx3⟩;have hr3:=ik hx3 HZ.out.2;have q1:=bQ w3 (w.heap.size+1+1) 0 _ _ _ hr3;have q2:=gQ w3 (w.heap.size+1+1) 0 _ _ hr3;have HB:=aW hr3;have HS:=jm hS1 hS2;have RI:=aW hx3;clear hr3 hS1 hS2 hx3)
  refine mg (w.heap.size+1+1) 30 _ (gK _ (w.heap.size+1+1) 0 _ _ (.slice aS nS cS) HB.out) underlying30 ?_;refine⟨aS,nS,cS,yU,rfl,λh=>?_,λh k=>?_,ll (ah HZ.out.1 RI.out) (w.heap.size+1+1) 0 _⟩
  .obtain⟨E',e1,e2,e3,e4,e5⟩:=HS.out.1 h
   have k:=(Es HE.out.1 HE.out.2.1 HE.out.2.2 J6.out.1 J6.out.2).1 e2;have hz:=bW HZ.out.2;exact⟨E',e1,k.1,k.2.1,e4,(e5.set (p:=⟨w.heap.size+1+1,0,none⟩) hz _).weaken (by omega)⟩
  .obtain⟨k1,E',k2⟩:=k
   exact HS.out.2 h E' ((Es HE.out.1 HE.out.2.1 HE.out.2.2 J6.out.1 J6.out.2).2 ⟨k1,k2,λh=>by cases h⟩)
end
