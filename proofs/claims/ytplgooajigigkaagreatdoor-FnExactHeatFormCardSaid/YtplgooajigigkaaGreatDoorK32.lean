/- 32 -/
import Derived.Test.YtplgooajigigkaaGreatDoorK31
set_option maxRecDepth 100000
set_option maxHeartbeats 4000000
namespace Go.Proofs.YtplgooajigigkaaGreatDoor
open Tryz
section
open Go.RowKit
open bE (dO dP)
def dS(t p:Int):Bool:=Oz t (-1000000) 1000000 && (Oz p 0 16 && (p == 0 || !decide (t % 2=0)))
theorem Je(a:Int):(a.tmod 2 != 0)=!decide (a % 2=0):=by rw[bne,AX]
theorem fe{t p:Int}:dS t p=true↔-1000000<=t/\t<=1000000/\0<=p/\p<=16/\(p=0\/t % 2≠0):=by
 simp only[dS,Oz,jP,decide_eq_true_eq,Bool.or_eq_true,beq_iff_eq,qB,decide_eq_false_iff_not,and_assoc,ne_eq]
theorem qg(w:World)(x y:Value)(T:TypeId):(w.alloc (.cells #[x,y] T)).cell? ⟨w.heap.size,0,none⟩=some x/\(w.alloc (.cells #[x,y] T)).cell? ⟨w.heap.size,1,none⟩=some y:=
 ⟨bQ _ w.heap.size 0 _ _ _ (eu w _),bQ _ w.heap.size 1 _ _ _ (eu w _)⟩
theorem tN(t p:Int)(w:World):Calls prog 66 #[.agg #[.int .i64 t,.int .i64 p]] w λe w'=>e=.returned (.bool (dS t p))/\Ext w w':=by
 have hx:Ext w (w.alloc (.cells #[.int .i64 t,.int .i64 p] 34)):=by go_grown
 obtain⟨c0,c1⟩:=qg w (.int .i64 t) (.int .i64 p) 34;cases e1:Oz t (-1000000) 1000000 with
 |false=>
  go_enter Tryz.func66,Tryz.ntmps66
  go_wp2_with (go_at_call 92;refine(lL _ _ _ _).mono ?_;rintro e w1 ⟨he,n,rfl⟩;rw[e1]at he;subst he)
  go_ret
  exact⟨gJ (by rw[dS,e1];rfl),ah hx (dQ (by first|exact uX _|exact AY _ _|exact Ca _ _ _|exact BZ _ _ _ _))⟩
 |true=>
  cases e2:Oz p 0 16 with
  |false=>
   go_enter Tryz.func66,Tryz.ntmps66
   go_wp2_with (go_at_call 92;refine(lL _ _ _ _).mono ?_;rintro e w1 ⟨he,n,rfl⟩;first|(rw[e1]at he;subst he)|(rw[e2]at he;subst he))
   go_ret
   exact⟨gJ (by rw[dS,e1,e2];rfl),ah hx (dQ (by first|exact uX _|exact AY _ _|exact Ca _ _ _|exact BZ _ _ _ _))⟩
  |true=>
   by_cases h0:p=0
   .have g0:(p == 0)=true:=by simpa using h0
    have HG:Hid (dS t p=true):=(by show _=_;rw[dS,e1,e2,g0];rfl);clear h0;go_enter Tryz.func66,Tryz.ntmps66
    go_wp2_with (go_at_call 92;refine(lL _ _ _ _).mono ?_;rintro e w1 ⟨he,n,rfl⟩;first|(rw[e1]at he;subst he)|(rw[e2]at he;subst he))
    go_ret
    exact⟨gJ HG.out.symm,ah hx (dQ (by first|exact uX _|exact AY _ _|exact Ca _ _ _|exact BZ _ _ _ _))⟩
   .have g0:(p == 0)=false:=by simpa using h0
    cases e3:(t.tmod 2 != 0)with
    |false=>
     have HG:Hid (dS t p=false):=(by rw[Je]at e3;show _=_;rw[dS,e1,e2,g0,e3];rfl);clear h0;go_enter Tryz.func66,Tryz.ntmps66
     go_wp2_with (go_at_call 92;refine(lL _ _ _ _).mono ?_;rintro e w1 ⟨he,n,rfl⟩;first|(rw[e1]at he;subst he)|(rw[e2]at he;subst he))
     go_ret
     exact⟨gJ HG.out.symm,ah hx (dQ (by first|exact uX _|exact AY _ _|exact Ca _ _ _|exact BZ _ _ _ _))⟩
    |true=>
     have HG:Hid (dS t p=true):=(by rw[Je]at e3;show _=_;rw[dS,e1,e2,g0,e3];rfl);clear h0;go_enter Tryz.func66,Tryz.ntmps66
     go_wp2_with (go_at_call 92;refine(lL _ _ _ _).mono ?_;rintro e w1 ⟨he,n,rfl⟩;first|(rw[e1]at he;subst he)|(rw[e2]at he;subst he))
     go_ret
     exact⟨gJ HG.out.symm,ah hx (dQ (by first|exact uX _|exact AY _ _|exact Ca _ _ _|exact BZ _ _ _ _))⟩
def mD(t:Int)(p:Nat):Value:=.tuple #[tY (if dS t p then t else 0) (if dS t p then p else 0),.bool (dS t p)]
theorem Lb(w:World)(x y a b:Value)(T:TypeId):∃W,W=(w.alloc (.cells #[x,y] T)).alloc (.cells #[a,b] T)/\Ext w W/\W.heap[w.heap.size]?=some (.cells #[x,y] T (0,0))/\W.heap[w.heap.size+1]?=some (.cells #[a,b] T (0,0)):=by
 refine⟨_,rfl,by go_grown,?_,?_⟩
 .rw[jo _ _ _ (by simp)];exact eu _ _
 .have h:=eu (w.alloc (.cells #[x,y] T)) (.cells #[a,b] T);rw[fU]at h;exact h
theorem Fe(t:Int)(p:Nat)(w:World):Calls prog 223 #[tY t p] w λe w'=>e=.returned (mD t p)/\Ext w w':=by
 obtain⟨W,hW,hx,d0,d1⟩:=Lb w (.int .i64 t) (.int .i64 (p:Int)) (.int .i64 0) (.int .i64 0) 34;have c0:=bQ W w.heap.size 0 _ _ _ d0;have c1:=bQ W w.heap.size 1 _ _ _ d0;simp only[gE]at c0 c1;have HD:=aW d1;clear d0 d1;rw[gM];cases e1:dS t p with
 |false=>
  have HG:=aW e1;go_enter Tryz.func223,Tryz.ntmps223
  go_upto_region 1 with fail
  rw[<-hW];clear hW;go_upto_region 2 with(go_at_call 66;refine(tN _ _ _).mono ?_;rintro e w1 ⟨he,hx1⟩;rw[e1]at he;subst he)
  obtain⟨q0,q1,q2,q3⟩:=eZ (ik hx1 HD.out);have q4:=(q2 (.int .i64 0)).1;have q5:=(q2 (.int .i64 0)).2;have HQ:=aW (q3 (.int .i64 0) (.int .i64 0));have HE:=aW (ah hx hx1);clear q2 q3 hx hx1 c0 c1 e1;go_wp2
  refine mg (w.heap.size+1) 34 #[.int .i64 0,.int .i64 0] HQ.out underlying34 ?_;exact⟨by rw[mD,HG.out];rfl,ll (ll HE.out (w.heap.size+1) 0 _) (w.heap.size+1) 1 _⟩
 |true=>
  have HG:=aW e1;go_enter Tryz.func223,Tryz.ntmps223
  go_upto_region 1 with fail
  rw[<-hW];clear hW;go_upto_region 3 with(go_at_call 66;refine(tN _ _ _).mono ?_;rintro e w1 ⟨he,hx1⟩;rw[e1]at he;subst he)
  obtain⟨q0,q1,q2,q3⟩:=eZ (ik hx1 HD.out);have q4:=(q2 (.int .i64 t)).1;have q5:=(q2 (.int .i64 t)).2;have r0:=fw hx1 c0;have r1:=fw hx1 c1;have HQ:=aW (q3 (.int .i64 t) (.int .i64 (p:Int)));have HE:=aW (ah hx hx1);clear q2 q3 hx hx1 c0 c1 e1;go_wp2
  refine mg (w.heap.size+1) 34 #[.int .i64 t,.int .i64 (p:Int)] HQ.out underlying34 ?_;exact⟨by rw[mD,HG.out];rfl,ll (ll HE.out (w.heap.size+1) 0 _) (w.heap.size+1) 1 _⟩
end
section
open Go.RowKit
open bE (dO dP Mid)
variable {q j:Nat} {m A B:Int}
def uf(t:Int)(p:Nat):Int:=if p=0 then t.natAbs else sc t.natAbs p / 16777216+p+1
def EB:List Row:=[⟨0,[],16,[1]⟩,⟨1,[0],17,[15]⟩,⟨2,[],18,[1]⟩,⟨3,[2],19,[17]⟩,⟨4,[1,3],20,[16,18]⟩,⟨5,[4],21,[19]⟩,⟨6,[5,1,0,1,2,3,4,5],3,[20]⟩]
theorem Oo(t:Int)(p:Nat)(w:World)(hp:p<=24)(h1:-17179869184<=t)(h2:t<=17179869184):Calls prog 230 #[tY t p] w λe w'=>e=.returned (.int .i64 (uf t p))/\Ext w w':=by
 have hx:Ext w (w.alloc (.cells #[.int .i64 t,.int .i64 (p:Int)] 34)):=by go_grown
 have hb:=eu w (.cells #[.int .i64 t,.int .i64 (p:Int)] 34);have hbd:=qb (t:=(t.natAbs:Int)) (p:=p) (B:=17179869184) (by omega) (by omega);have hsp:0<=sc (t.natAbs:Int) p:=Int.mul_nonneg (by omega) (by have:=(VH (p:=p)).1;omega);rw[gM];by_cases h0:t<0
 .have hn:-t=(t.natAbs:Int):=by omega
  go_enter Tryz.func230,Tryz.ntmps230
  go_upto_region 1 with fail
  generalize w.alloc (.cells #[.int .i64 t,.int .i64 (p:Int)] 34)=W at *;have c0:=bQ W w.heap.size 0 _ _ _ hb;have f0:=gQ W w.heap.size 0 _ _ hb;have hb':=gK W w.heap.size 0 _ _ (.int .i64 (t.natAbs:Int)) hb;have hx':=hx.setCell (p:=⟨w.heap.size,0,none⟩) (aJ _) (.int .i64 (t.natAbs:Int));simp only[gE]at c0;go_upto_region 3 with fail
  generalize W.setCell ⟨w.heap.size,0,none⟩ (.int .i64 (t.natAbs:Int))=W2 at *;clear c0 f0 hb hx hn h0;have HD:Hid (oQ W2 w.heap.size (t.natAbs:Int) p):=aW hb';have HX:=aW hx';obtain⟨c0,c1⟩:=HD.out.cells;clear hb' hx';by_cases hp0:p=0
  .have g0:((p:Int)== 0)=true:=by simp[hp0]
   have HP:=aW hp0;clear hp0;go_wp2
   go_ret
   exact⟨iW (by rw[uf,if_pos HP.out]),HX.out⟩
  .have g0:((p:Int)== 0)=false:=by simp[hp0]
   have HP:=aW hp0;clear hp0;go_upto_region 5 with fail
   clear c0 c1;refine oJ (λV=>V.cell? ⟨w.heap.size,0,none⟩=some (.int .i64 (t.natAbs:Int))/\V.cell? ⟨w.heap.size,1,none⟩=some (.int .i64 (p:Int))) [6] EB (HD.out.ext (eX _)).cells (λaj ae=>?_);(refine bP 0 aj ae ?_;refine bP 2 aj ae ?_;refine bP 3 aj ae ?_);(refine jv aj (i:=1) λK hK=>?_;go_simp);refine(yf (t.natAbs:Int) p _ hp (by omega) (by omega)).mono ?_;rintro e w1 ⟨rfl,hx1⟩;have hE1:=ah (eX _) hx1;refine hK.out _ _ (λ_=>(HD.out.ext hE1).cells) ?_;have ae:=(HD.out.ext hE1).cells;clear hK K;have HE:=aW (ah HX.out hE1);clear hE1 hx1;(try simp only[nP]);(refine bP 4 aj ae ?_;refine bP 5 aj ae ?_);refine nQ aj [6] [_] ?_;clear aj ae;go_wp2
   go_ret
   exact⟨iW (by rw[uf,if_neg HP.out];simp only[l9];unfold wrap64;omega),HE.out⟩
 .have h3:0<=t:=by omega
  go_enter Tryz.func230,Tryz.ntmps230
  go_upto_region 1 with fail
  generalize w.alloc (.cells #[.int .i64 t,.int .i64 (p:Int)] 34)=W2 at *;have c0:=bQ W2 w.heap.size 0 _ _ _ hb;simp only[gE]at c0;go_upto_region 3 with fail
  clear c0;have hn:t=(t.natAbs:Int):=by omega
  rw[hn]at hb;have HD:Hid (oQ W2 w.heap.size (t.natAbs:Int) p):=aW hb;have HX:=aW hx;obtain⟨c0,c1⟩:=HD.out.cells;clear hb hx h0 h3 hn;by_cases hp0:p=0
  .have g0:((p:Int)== 0)=true:=by simp[hp0]
   have HP:=aW hp0;clear hp0;go_wp2
   go_ret
   exact⟨iW (by rw[uf,if_pos HP.out]),HX.out⟩
  .have g0:((p:Int)== 0)=false:=by simp[hp0]
   have HP:=aW hp0;clear hp0;go_upto_region 5 with fail
   clear c0 c1;refine oJ (λV=>V.cell? ⟨w.heap.size,0,none⟩=some (.int .i64 (t.natAbs:Int))/\V.cell? ⟨w.heap.size,1,none⟩=some (.int .i64 (p:Int))) [6] EB (HD.out.ext (eX _)).cells (λaj ae=>?_);(refine bP 0 aj ae ?_;refine bP 2 aj ae ?_;refine bP 3 aj ae ?_);(refine jv aj (i:=1) λK hK=>?_;go_simp);refine(yf (t.natAbs:Int) p _ hp (by omega) (by omega)).mono ?_;rintro e w1 ⟨rfl,hx1⟩;have hE1:=ah (eX _) hx1;refine hK.out _ _ (λ_=>(HD.out.ext hE1).cells) ?_;have ae:=(HD.out.ext hE1).cells;clear hK K;have HE:=aW (ah HX.out hE1);clear hE1 hx1;(try simp only[nP]);(refine bP 4 aj ae ?_;refine bP 5 aj ae ?_);refine nQ aj [6] [_] ?_;clear aj ae;go_wp2
   go_ret
   exact⟨iW (by rw[uf,if_neg HP.out];simp only[l9];unfold wrap64;omega),HE.out⟩
def mY(A B:Int):Int:=if (A+B) % 2=0 then dO 16 ((A+B) / 2)else 0
def pI(A B:Int):Nat:=if (A+B) % 2=0 then dP 16 ((A+B) / 2)else 17
theorem Br:∀(d q:Nat) (m:Int),dO (q+d) (m*2 ^ d)=dO q m/\dP (q+d) (m*2 ^ d)=dP q m
 | 0,q,m=>by simp
 |d+1,q,m=>by
  rw[Int.pow_succ,<-jO,mX _ 2];obtain⟨h1,h2⟩:=bE.EZ (q+d) (m*2 ^ d);rw[show q+(d+1)=q+d+1 from rfl,h1,h2];exact Br d q m
theorem nZ(n:Nat):(0:Int)<2 ^ n:=wu (by omega)
theorem EX(hq:1<=q)(hm:m % 2≠0):dO q m=m/\dP q m=q:=by
 obtain⟨n,rfl⟩:∃n,q=n+1:=⟨q-1,by omega⟩;unfold dO dP;rw[if_neg hm,if_neg hm];exact⟨rfl,rfl⟩
theorem Z7(h1:1<=q)(h16:q<=16)(hm:m % 2≠0)(hA:A=(m-1)*2 ^ (16-q))(hB:B=(m+1)*2 ^ (16-q)):mY A B=m/\pI A B=q:=by
 have e:A+B=2*(m*2 ^ (16-q)):=by rw[hA,hB,<-Int.add_mul,show m-1+(m+1)=2*m by omega,jO]
 have e2:(A+B) / 2=m*2 ^ (16-q):=by omega
 unfold mY pI;rw[if_pos (by omega),if_pos (by omega),e2];have h:=Br (16-q) q m;rw[show q+(16-q)=16 by omega]at h;rw[h.1,h.2];exact EX h1 hm
def hit(A B:Int)(j:Nat):Prop:=(A / 2 ^ (16-j)+1)*2 ^ (16-j)<B
theorem Aa(A e:Int)(he:0<e):A<(A / e+1)*e/\(A / e+1)*e<=A+e:=by
 have h1:=Int.mul_ediv_add_emod A e;have h2:=Int.emod_lt_of_pos A he;have h3:=Int.emod_nonneg A (Int.ne_of_gt he);rw[Int.add_mul,Int.one_mul,mX (A / e) e];omega
theorem VY(h16:q<=16)(hm:m % 2≠0)(hA:A=(m-1)*2 ^ (16-q))(hB:B=(m+1)*2 ^ (16-q))(hj:j<q):¬hit A B j:=by
 intro h;unfold hit at h;obtain⟨n,hn⟩:=fu (A / 2 ^ (16-j)+1);have h1:=(Aa A _ (nZ (16-j))).1;rw[<-hn]at h h1;have e:(2:Int) ^ (16-j)=2*2 ^ (q-j-1)*2 ^ (16-q):=by
  rw[<-Int.pow_succ' 2,<-wy];congr 1;omega
 rw[e,<-jO]at h h1;rw[hA]at h1;rw[hB]at h;have l1:=Int.lt_of_mul_lt_mul_right h1 (Int.le_of_lt (nZ _));have l2:=Int.lt_of_mul_lt_mul_right h (Int.le_of_lt (nZ _));obtain⟨k,hk⟩:∃k,n*(2*2 ^ (q-j-1))=2*k:=⟨n*2 ^ (q-j-1),by rw[mX 2,<-jO,mX]⟩;omega
theorem PS(hA:A=(m-1)*2 ^ (16-q))(hB:B=(m+1)*2 ^ (16-q)):A / 2 ^ (16-q)+1=m/\hit A B q:=by
 have e:A / 2 ^ (16-q)=m-1:=by rw[hA];exact Int.mul_ediv_cancel _ (Int.ne_of_gt (nZ _))
 refine⟨by omega,?_⟩;unfold hit;rw[e,show m-1+1=m by omega,hB];exact Int.mul_lt_mul_of_pos_right (by omega) (nZ _)
theorem Li(h:B=A+1)(j:Nat):¬hit A B j:=by
 intro k;unfold hit at k;have:=(Aa A _ (nZ (16-j))).1;omega
theorem Z8(h:Mid A B)(hj:1<=j)(h16:j<=16)(no:∀i,i<j->¬hit A B i):hit A B j->mY A B=dO j (A / 2 ^ (16-j)+1)/\pI A B=dP j (A / 2 ^ (16-j)+1):=by
 intro k;rcases h with⟨q,m,h1,h2,hm,hA,hB⟩|h
 .have hqj:q=j:=by
   rcases nV q j with h|h|h
   .exact absurd (PS hA hB).2 (no q h)
   .exact h
   .exact absurd k (VY h2 hm hA hB h)
  subst hqj;rw[(PS hA hB).1];have:=Z7 h1 h2 hm hA hB;rw[this.1,this.2,(EX h1 hm).1,(EX h1 hm).2];exact⟨rfl,rfl⟩
 .exact absurd k (Li h j)
theorem Wh(h:Mid A B)(no:∀i,i<17->¬hit A B i):mY A B=0/\pI A B=17:=by
 rcases h with⟨q,m,h1,h2,hm,hA,hB⟩|h
 .exact absurd (PS hA hB).2 (no q (by omega))
 .unfold mY pI
  rw[if_neg (by omega),if_neg (by omega)];exact⟨rfl,rfl⟩
theorem Jt:∀(p:Nat) (k:Int),dO p (-k)=- dO p k/\dP p (-k)=dP p k
 | 0,k=>⟨rfl,rfl⟩
 |p+1,k=>by
  unfold dO dP;by_cases e:k % 2=0
  .rw[if_pos (by omega),if_pos e,if_pos (by omega),if_pos e,show -k / 2=-(k / 2) by omega];exact Jt p _
  .rw[if_neg (by omega),if_neg e,if_neg (by omega),if_neg e];exact⟨rfl,rfl⟩
theorem Ec:mY A B=- mY (-B) (-A)/\pI A B=pI (-B) (-A):=by
 unfold mY pI;by_cases e:(A+B) % 2=0
 .rw[if_pos e,if_pos (by omega),if_pos e,if_pos (by omega),show(-B+-A) / 2=-((A+B) / 2) by omega,(Jt 16 _).1,(Jt 16 _).2];exact⟨by omega,rfl⟩
 .rw[if_neg e,if_neg (by omega),if_neg e,if_neg (by omega)];exact⟨by omega,rfl⟩
theorem Lm(h:Mid A B):Mid (-B) (-A):=by
 rcases h with⟨q,m,h1,h2,hm,hA,hB⟩|h
 .refine .inl ⟨q,-m,h1,h2,by omega,?_,?_⟩
  .rw[hB,<-Int.neg_mul];congr 1;omega
  .rw[hA,<-Int.neg_mul];congr 1;omega
 .exact .inr (by omega)
theorem Lp(h:Mid A B):A<B/\(B<=0\/0<=A)/\¬hit A B 0:=by
 rcases h with⟨q,m,h1,h2,hm,hA,hB⟩|h
 .have p:=nZ (16-q)
  have lt:A<B:=by rw[hA,hB];exact Int.mul_lt_mul_of_pos_right (by omega) p
  refine⟨lt,?_,VY h2 hm hA hB (by omega)⟩;by_cases c:m<0
  .left;rw[hB];exact Int.mul_nonpos_of_nonpos_of_nonneg (by omega) (Int.le_of_lt p)
  .right;rw[hA];exact Int.mul_nonneg (by omega) (Int.le_of_lt p)
 .exact⟨by omega,by omega,Li h 0⟩
end
section
open Go.RowKit
open bE (dO dP Mid)
theorem Ci(w:World)(x y a b c d:Value)(T:TypeId):∃W,W=((w.alloc (.cells #[x,y] T)).alloc (.cells #[a,b] T)).alloc (.cells #[c,d] T)/\Ext w W/\W.heap[w.heap.size]?=some (.cells #[x,y] T (0,0))/\W.heap[w.heap.size+1]?=some (.cells #[a,b] T (0,0))/\W.heap[w.heap.size+1+1]?=some (.cells #[c,d] T (0,0)):=by
 refine⟨_,rfl,by go_grown,?_,?_,?_⟩
 .rw[jo _ _ _ (by simp;omega),jo _ _ _ (by simp)];exact eu _ _
 .rw[jo _ _ _ (by simp)]
  have h:=eu (w.alloc (.cells #[x,y] T)) (.cells #[a,b] T);rw[fU]at h;exact h
 .have h:=eu ((w.alloc (.cells #[x,y] T)).alloc (.cells #[a,b] T)) (.cells #[c,d] T);rw[fU,fU]at h;exact h
theorem uN(A B ta tb:Int)(pa pb:Nat)(w:World)(Jz:pa<=24)(hpb:pb<=24)(ha1:-1048576<=ta)(ha2:ta<=1048576)(hb1:-1048576<=tb)(hb2:tb<=1048576)(eA:sc ta pa=A*256)(eB:sc tb pb=B*256)(hM:Mid A B)(hA0:0<=A):
 Calls prog 224 #[tY ta pa,tY tb pb] w λe w'=>e=.returned (tY (mY A B) (pI A B))/\Ext w w':=by
 obtain⟨W,hW,hx,d0,d1,d2⟩:=Ci w (.int .i64 ta) (.int .i64 (pa:Int)) (.int .i64 tb) (.int .i64 (pb:Int)) (.int .i64 0) (.int .i64 0) 34;have bA:=qb (p:=pa) (B:=1048576) (by omega) ha2;have bB:=qb (p:=pb) (B:=1048576) (by omega) hb2;have HD:Hid (oQ W w.heap.size ta pa/\oQ W (w.heap.size+1) tb pb/\oQ W (w.heap.size+1+1) 0 0):=aW ⟨d0,d1,d2⟩;obtain⟨hlt,hsg,hno⟩:=Lp hM;have z0:sc 0 0=0:=by simp[sc]
 have n1:decide (sc tb pb<sc 0 0)=false:=by rw[z0,eB];simp;omega
 have n2:decide (sc ta pa<sc 0 0)=false:=by rw[z0,eA];simp;omega
 have n3:(tb == 0)=false:=by
  have:tb≠0:=λe=>by rw[e]at eB;simp[sc]at eB;omega
  simpa using this
 have HX:=aW hx;have HM:=aW hM;have hdz:tY 0 0=.agg #[.int .i64 0,.int .i64 0]:=rfl;have HL:=aW (λV=>tK tb 0 pb 0 V hpb (by omega) (by omega) (by omega) (by omega) (by omega));have HL2:=aW (λV=>tK ta 0 pa 0 V Jz (by omega) (by omega) (by omega) (by omega) (by omega));clear d0 d1 d2 hx hM;obtain⟨c0,c1,c2,c3⟩:=HD.out.1.four HD.out.2.1;rw[gM,gM];go_enter Tryz.func224,Tryz.ntmps224
 go_upto_region 1 with fail
 rw[<-hW];clear hW;go_upto_region 3 with(go_at_call 157;refine(HL.out _).mono ?_;rintro e w1 ⟨he,hx1⟩;rw[n1]at he;subst he;have g2:=fw hx1 c2;have g3:=fw hx1 c3)
 have hE1:=hx1;obtain⟨c0,c1,c2,c3⟩:=(HD.out.1.ext hE1).four (HD.out.2.1.ext hE1);clear g2 g3;go_upto_region 5 with(go_at_call 157;refine(HL2.out _).mono ?_;rintro e w2 ⟨he,hx2⟩;rw[n2]at he;subst he)
 have hE2:=ah hE1 hx2;obtain⟨c0,c1,c2,c3⟩:=(HD.out.1.ext hE2).four (HD.out.2.1.ext hE2);clear hx1 hx2 hE1;have e5:sc ta pa / 16777216=A / 65536:=by rw[eA];omega
 have hbn:-1048576<=A / 65536+1/\A / 65536+1<=1048577:=by omega
 have n6:decide (sc (A / 65536+1) 0<sc tb pb)=false:=by
  rw[eB];unfold hit at hno;simp only[Nat.sub_zero,show(2:Int) ^ 16=65536 from rfl]at hno;have:sc (A / 65536+1) 0=(A / 65536+1)*16777216:=rfl;rw[this];simp only[decide_eq_false_iff_not];omega
 have HF:=aW (λV=>yf ta pa V Jz (by omega) (by omega));have HL3:=aW (λV=>tK (A / 65536+1) tb 0 pb V (by omega) hpb (by omega) (by omega) (by omega) (by omega));go_upto_region 6 with(go_at_call 266;refine(HF.out _).mono ?_;rintro e w3 ⟨he,hx3⟩;rw[e5]at he;subst he)
 have hxa:Ext w3 (w3.alloc (.cells #[.int .i64 (A / 65536+1),.int .i64 0] 34)):=by go_grown
 obtain⟨v0,v1⟩:=qg w3 (.int .i64 (A / 65536+1)) (.int .i64 0) 34;have mZ:=ah (ah hE2 hx3) hxa;generalize w3.alloc (.cells #[.int .i64 (A / 65536+1),.int .i64 0] 34)=W3 at *;obtain⟨c0,c1,c2,c3⟩:=(HD.out.1.ext mZ).four (HD.out.2.1.ext mZ);clear hx3 hxa hE2 e5;go_upto_region 8 with(go_at_call 157;refine(HL3.out _).mono ?_;rintro e w4 ⟨he,hx4⟩;rw[n6]at he;subst he)
 have oK:=ah mZ hx4;clear hx4 mZ c0 c1 c2 c3 v0 v1 HL HL2 HL3 HF n1 n2 n6 n3 z0 hdz hbn;have agH:Hid (∀i:Nat,i<1->¬hit A B i):=aW λi hi=>by
  have:i=0:=by omega
  subst this;exact hno
 have HS:=aW (λV=>mW ta pa V Jz (by omega) (by omega));have HS2:=aW (λV=>mW tb pb V hpb (by omega) (by omega));clear hno;go_upto_region 9 with fail
 go_loopw [6,7] (λpw _ wr=>∃j:Nat,pw=.int .i64 (j:Int)/\1<=j/\j<=17/\Ext W wr/\Hid (∀i:Nat,i<j->¬hit A B i)) (λpw _ _=>17-(intOf pw).toNat)
 case atStart=>exact⟨1,by go_num,by omega,by omega,oK,agH⟩
 case round=>
  clear oK agH;obtain⟨j,rfl,hj1,as8,hE,HN⟩:=hrel;obtain⟨c0,c1,c2,c3⟩:=(HD.out.1.ext hE).four (HD.out.2.1.ext hE);have r2:=HD.out.2.2.ext hE;by_cases h16:j<=16
  .have g16:((j:Nat):Int)<=16:=by omega
   have hk:(24-((j:Nat):Int)).toNat=24-j:=(by omega);have hq:(0:Int)<=24-((j:Nat):Int):=(by omega);have e24:(2:Int) ^ (24-j)=2 ^ (16-j)*256:=by
    rw[show(256:Int)=2 ^ 8 from rfl,<-wy];congr 1;omega
   have p16:=nZ (16-j);have afU:(2:Int) ^ (16-j)<=65536:=by
    have h:(2:Int) ^ (16-j)*1<=2 ^ (16-j)*2 ^ j:=rX (by have:=nZ j;omega) (by omega);rw[<-wy,show 16-j+j=16 by omega]at h;omega
   have e11:A*256 / 2 ^ (24-j)=A / 2 ^ (16-j):=by
    rw[e24];exact Int.mul_ediv_mul_of_pos_left _ _ (by omega)
   have na:=Aa A (2 ^ (16-j)) p16;have nT:0<=A / 2 ^ (16-j):=Int.ediv_nonneg hA0 (by omega);have nT2:A / 2 ^ (16-j)<=A:=Int.ediv_le_self _ hA0;obtain⟨T,hT⟩:=fu (A / 2 ^ (16-j)+1);have b11:wrap64 (A / 2 ^ (16-j)+1)=A / 2 ^ (16-j)+1:=(by unfold wrap64;omega);have m12:(A / 2 ^ (16-j)+1)*2 ^ (24-j)=(A / 2 ^ (16-j)+1)*2 ^ (16-j)*256:=(by rw[e24,jO]);have b12:wrap64 ((A / 2 ^ (16-j)+1)*2 ^ (24-j))=(A / 2 ^ (16-j)+1)*2 ^ (16-j)*256:=(by rw[m12];unfold wrap64;omega);have HP:=Ap p16 afU nT nT2;clear hT T e24 na m12 hk p16 afU;have hk:(24-((j:Nat):Int)).toNat=24-j:=(by omega);by_cases hh:hit A B j
   .have g12:(A / 2 ^ (16-j)+1)*2 ^ (16-j)*256<B*256:=by unfold hit at hh;omega
    have HH:=aW hh;clear hh;go_upto_region 12 with(go_at_call 141;refine(HS.out _).mono ?_;rintro e w5 ⟨he,hx5⟩;rw[he];clear he)
    have uj:=ah hE hx5;obtain⟨c0,c1,c2,c3⟩:=(HD.out.1.ext uj).four (HD.out.2.1.ext uj);go_upto_region 13 with(go_at_call 141;refine(HS2.out _).mono ?_;rintro e w6 ⟨he,hx6⟩;rw[he];clear he)
    have Rm:=ah uj hx6;clear hx5 hx6 uj hE c0 c1 c2 c3;obtain⟨mt,mp⟩:=Z8 HM.out hj1 h16 HN.out HH.out;obtain⟨KT,hKT⟩:=fu (dO j (A / 2 ^ (16-j)+1));obtain⟨KP,hKP⟩:=fu (dP j (A / 2 ^ (16-j)+1));have HK:=jm (hKT.trans mt.symm) (hKP.trans mp.symm);have HMK:=aW (λV=>Fb (A / 2 ^ (16-j)+1) j V (by omega) (by have:=HP.out;omega) (by have:=HP.out;omega));rw[<-hKT,<-hKP]at HMK;clear mt mp hKT hKP;go_wp2_with (go_at_call 140;refine(HMK.out _).mono ?_;rintro e w7 ⟨rfl,hx7⟩;have Ef:=ah Rm hx7;obtain⟨q0,q1,q2,q3⟩:=eZ (HD.out.2.2.ext Ef);have q4:=(q2 (.int .i64 KT)).1;have q5:=(q2 (.int .i64 KT)).2;have HQ:=aW (q3 (.int .i64 KT) (.int .i64 (KP:Int)));have HE:=aW Ef;clear q2 q3 hx7 Ef;simp only[gM])
    (try simp only[Exit.inBlock,Exit.then]);refine bodyPost_ret (results_cell_row rfl _ _ (w.heap.size+1+1) 34 #[.int .i64 KT,.int .i64 (KP:Int)] (0,0) _ rfl HQ.out underlying34 rfl (by kernel_rfl)) rfl ?_;exact⟨by rw[HK.out.1,HK.out.2];rfl,ll (ll (ah HX.out HE.out) (w.heap.size+1+1) 0 _) (w.heap.size+1+1) 1 _⟩
   .have g12:¬(A / 2 ^ (16-j)+1)*2 ^ (16-j)*256<B*256:=by unfold hit at hh;omega
    have HH:=aW hh;clear hh;go_upto_region 12 with(go_at_call 141;refine(HS.out _).mono ?_;rintro e w5 ⟨he,hx5⟩;rw[he];clear he)
    have uj:=ah hE hx5;obtain⟨c0,c1,c2,c3⟩:=(HD.out.1.ext uj).four (HD.out.2.1.ext uj);go_upto_region 10 with(go_at_call 141;refine(HS2.out _).mono ?_;rintro e w6 ⟨he,hx6⟩;rw[he];clear he)
    have Rm:=ah uj hx6;clear hx5 hx6 uj hE c0 c1 c2 c3;go_wp2
    go_roundw
    case rel=>exact⟨j+1,by go_num,by omega,by omega,Rm,λi hi=>by
     rcases ib i j with q|q
     .exact HN.out i q
     .have:i=j:=by omega
      subst this;exact HH.out⟩
    case measure=>simp[intOf];omega
  .have g16:¬((j:Nat):Int)<=16:=by omega
   have hj:j=17:=(by omega);have HK:Hid ((0:Int)=mY A B/\(17:Nat)=pI A B):=by
    have:=Wh HM.out (λi hi=>HN.out i (by omega));exact aW ⟨this.1.symm,this.2.symm⟩
   obtain⟨q0,q1,q2,q3⟩:=eZ r2;have q4:=(q2 (.int .i64 0)).1;have q5:=(q2 (.int .i64 0)).2;have HQ:=aW (q3 (.int .i64 0) (.int .i64 ((17:Nat):Int)));have HE:=aW hE;clear q2 q3 hE c0 c1 c2 c3 hj r2;go_wp2
   (try simp only[Exit.inBlock,Exit.then]);refine bodyPost_ret (results_cell_row rfl _ _ (w.heap.size+1+1) 34 #[.int .i64 0,.int .i64 ((17:Nat):Int)] (0,0) _ rfl HQ.out underlying34 rfl (by kernel_rfl)) rfl ?_;exact⟨by rw[<-HK.out.1,<-HK.out.2];rfl,ll (ll (ah HX.out HE.out) (w.heap.size+1+1) 0 _) (w.heap.size+1+1) 1 _⟩
def Ht:List Row:=[⟨0,[],17,[3]⟩,⟨1,[0],18,[16]⟩,⟨2,[],19,[2]⟩,⟨3,[2,1],20,[18]⟩,⟨4,[1,3,3],21,[17,19]⟩,⟨5,[4,4],22,[20]⟩,⟨6,[5,5,0,1,2,3,4,5],0,[4,21]⟩]
theorem I9(t:Int)(p:Nat):sc (-t) p=- sc t p:=Int.neg_mul _ _
theorem N8{A B:Int}(h1:-1000000000000<=A)(h2:A<=1000000000000)(h3:-1000000000000<=B)(h4:B<=1000000000000):-9223372036854775807<=mY A B/\mY A B<=9223372036854775807:=by
 unfold mY;split
 .have:=bE.Ju 16 ((A+B) / 2);omega
 .omega
theorem GA(A B ta tb:Int)(pa pb:Nat)(w:World)(Jz:pa<=24)(hpb:pb<=24)(ha1:-1048576<=ta)(ha2:ta<=1048576)(hb1:-1048576<=tb)(hb2:tb<=1048576)(eA:sc ta pa=A*256)(eB:sc tb pb=B*256)(hM:Mid A B)(hz:tb=0->pb=0):
 Calls prog 224 #[tY ta pa,tY tb pb] w λe w'=>e=.returned (tY (mY A B) (pI A B))/\Ext w w':=by
 obtain⟨hlt,hsg,-⟩:=Lp hM;by_cases hA0:0<=A
 .exact uN A B ta tb pa pb w Jz hpb ha1 ha2 hb1 hb2 eA eB hM hA0
 .have hB0:B<=0:=by omega
  obtain⟨W,hW,hx,d0,d1,d2⟩:=Ci w (.int .i64 ta) (.int .i64 (pa:Int)) (.int .i64 tb) (.int .i64 (pb:Int)) (.int .i64 0) (.int .i64 0) 34;have bA:=qb (p:=pa) (B:=1048576) (by omega) ha2;have bB:=qb (p:=pb) (B:=1048576) (by omega) hb2;have HD:Hid (oQ W w.heap.size ta pa/\oQ W (w.heap.size+1) tb pb/\oQ W (w.heap.size+1+1) 0 0):=aW ⟨d0,d1,d2⟩;have z0:sc 0 0=0:=by simp[sc]
  have HX:=aW hx;have HM:=aW hM;have HB:=aW (N8 (A:=-B) (B:=-A) (by omega) (by omega) (by omega) (by omega));have HL:=aW (λV=>tK tb 0 pb 0 V hpb (by omega) (by omega) (by omega) (by omega) (by omega));clear d0 d1 d2 hx hM;obtain⟨c0,c1,c2,c3⟩:=HD.out.1.four HD.out.2.1;rw[gM,gM];by_cases hB:B<0
  .have n1:decide (sc tb pb<sc 0 0)=true:=by rw[z0,eB];simp;omega
   go_enter Tryz.func224,Tryz.ntmps224
   go_upto_region 1 with fail
   rw[<-hW];clear hW;go_upto_region 2 with(go_at_call 157;refine(HL.out _).mono ?_;rintro e w1 ⟨he,hx1⟩;rw[n1]at he;subst he)
   have hE1:=hx1;clear hx1 n1 HL;obtain⟨c0,c1,c2,c3⟩:=(HD.out.1.ext hE1).four (HD.out.2.1.ext hE1);have ae:=(HD.out.1.ext (ah hE1 (eX w1))).four (HD.out.2.1.ext (ah hE1 (eX w1)));clear c0 c1 c2 c3;refine oJ (λV=>V.cell? ⟨w.heap.size,0,none⟩=some (.int .i64 ta)/\V.cell? ⟨w.heap.size,1,none⟩=some (.int .i64 (pa:Int))/\V.cell? ⟨w.heap.size+1,0,none⟩=some (.int .i64 tb)/\V.cell? ⟨w.heap.size+1,1,none⟩=some (.int .i64 (pb:Int))) [6] Ht ae (λaj ae=>?_);(refine bP 0 aj ae ?_;refine bP 2 aj ae ?_);(refine jv aj (i:=1) λK hK=>?_;go_simp);refine(nk tb pb _ (by omega) (by omega)).mono ?_;rintro e w2 ⟨rfl,hx2⟩;have hE2:=ah (ah hE1 (eX w1)) hx2;refine hK.out _ _ (λ_=>(HD.out.1.ext hE2).four (HD.out.2.1.ext hE2)) ?_;clear ae hE1 hK K;have ae:=(HD.out.1.ext hE2).four (HD.out.2.1.ext hE2);(try simp only[nP]);(refine jv aj (i:=3) λK hK=>?_;go_simp);refine(nk ta pa _ (by omega) (by omega)).mono ?_;rintro e w3 ⟨rfl,hx3⟩;have mZ:=ah hE2 hx3;refine hK.out _ _ (λ_=>(HD.out.1.ext mZ).four (HD.out.2.1.ext mZ)) ?_;clear ae hE2 hx2 hx3 hK K;have ae:=(HD.out.1.ext mZ).four (HD.out.2.1.ext mZ);(try simp only[nP]);(refine jv aj (i:=4) λK hK=>?_;go_simp);refine(uN (-B) (-A) (-tb) (-ta) pb pa _ hpb Jz (by omega) (by omega) (by omega) (by omega) (by rw[I9,eB];omega) (by rw[I9,eA];omega) (Lm HM.out) (by omega)).mono ?_;rintro e w4 ⟨rfl,hx4⟩;have oK:=ah mZ hx4;refine hK.out _ _ (λ_=>(HD.out.1.ext oK).four (HD.out.2.1.ext oK)) ?_;clear ae mZ hx4 hK K;have ae:=(HD.out.1.ext oK).four (HD.out.2.1.ext oK);(try simp only[nP]);(refine jv aj (i:=5) λK hK=>?_;go_simp);refine(nk (mY (-B) (-A)) (pI (-B) (-A)) _ HB.out.1 HB.out.2).mono ?_;rintro e w5 ⟨rfl,hx5⟩;have uj:=ah oK hx5;refine hK.out _ _ (λ_=>(HD.out.1.ext uj).four (HD.out.2.1.ext uj)) ?_;clear ae oK hx5 hK K;have ae:=(HD.out.1.ext uj).four (HD.out.2.1.ext uj);(try simp only[nP]);refine nQ aj [6] [_] ?_;clear aj ae;obtain⟨q0,q1,q2,q3⟩:=eZ (HD.out.2.2.ext uj);have q4:=(q2 (.int .i64 (-mY (-B) (-A)))).1;have q5:=(q2 (.int .i64 (-mY (-B) (-A)))).2;have HQ:=aW (q3 (.int .i64 (-mY (-B) (-A))) (.int .i64 (pI (-B) (-A):Int)));have HE:=aW uj;clear q2 q3 uj;simp only[gM];go_wp2
   (try simp only[Exit.inBlock,Exit.then]);refine bodyPost_ret (results_cell_row rfl _ _ (w.heap.size+1+1) 34 #[.int .i64 (-mY (-B) (-A)),.int .i64 (pI (-B) (-A):Int)] (0,0) _ rfl HQ.out underlying34 rfl (by kernel_rfl)) rfl ?_;exact⟨by rw[(Ec (A:=A) (B:=B)).1,(Ec (A:=A) (B:=B)).2];rfl,ll (ll (ah HX.out HE.out) (w.heap.size+1+1) 0 _) (w.heap.size+1+1) 1 _⟩
  .have hB2:B=0:=by omega
   have htb:tb=0:=by
    have h:tb*2 ^ (24-pb)=0*2 ^ (24-pb):=(by rw[Int.zero_mul];have:=eB;unfold sc at this;rw[this,hB2];rfl);exact Int.eq_of_mul_eq_mul_right (Int.ne_of_gt (VH (p:=pb)).1) h
   have agt:=hz htb;have n1:decide (sc tb pb<sc 0 0)=false:=(by rw[z0,eB];simp;omega);have n3:(tb == 0)=true:=(by simpa using htb);have n4:((pb:Int)== 0)=true:=(by simp[agt]);clear hz agt htb hB2 hB;go_enter Tryz.func224,Tryz.ntmps224
   go_upto_region 1 with fail
   rw[<-hW];clear hW;go_upto_region 2 with(go_at_call 157;refine(HL.out _).mono ?_;rintro e w1 ⟨he,hx1⟩;rw[n1]at he;subst he;have g2:=fw hx1 c2;have g3:=fw hx1 c3)
   have hE1:=hx1;clear hx1 n1 n3 n4 HL g2 g3;obtain⟨c0,c1,c2,c3⟩:=(HD.out.1.ext hE1).four (HD.out.2.1.ext hE1);have ae:=(HD.out.1.ext (ah hE1 (eX w1))).four (HD.out.2.1.ext (ah hE1 (eX w1)));clear c0 c1 c2 c3;refine oJ (λV=>V.cell? ⟨w.heap.size,0,none⟩=some (.int .i64 ta)/\V.cell? ⟨w.heap.size,1,none⟩=some (.int .i64 (pa:Int))/\V.cell? ⟨w.heap.size+1,0,none⟩=some (.int .i64 tb)/\V.cell? ⟨w.heap.size+1,1,none⟩=some (.int .i64 (pb:Int))) [6] Ht ae (λaj ae=>?_);(refine bP 0 aj ae ?_;refine bP 2 aj ae ?_);(refine jv aj (i:=1) λK hK=>?_;go_simp);refine(nk tb pb _ (by omega) (by omega)).mono ?_;rintro e w2 ⟨rfl,hx2⟩;have hE2:=ah (ah hE1 (eX w1)) hx2;refine hK.out _ _ (λ_=>(HD.out.1.ext hE2).four (HD.out.2.1.ext hE2)) ?_;clear ae hE1 hK K;have ae:=(HD.out.1.ext hE2).four (HD.out.2.1.ext hE2);(try simp only[nP]);(refine jv aj (i:=3) λK hK=>?_;go_simp);refine(nk ta pa _ (by omega) (by omega)).mono ?_;rintro e w3 ⟨rfl,hx3⟩;have mZ:=ah hE2 hx3;refine hK.out _ _ (λ_=>(HD.out.1.ext mZ).four (HD.out.2.1.ext mZ)) ?_;clear ae hE2 hx2 hx3 hK K;have ae:=(HD.out.1.ext mZ).four (HD.out.2.1.ext mZ);(try simp only[nP]);(refine jv aj (i:=4) λK hK=>?_;go_simp);refine(uN (-B) (-A) (-tb) (-ta) pb pa _ hpb Jz (by omega) (by omega) (by omega) (by omega) (by rw[I9,eB];omega) (by rw[I9,eA];omega) (Lm HM.out) (by omega)).mono ?_;rintro e w4 ⟨rfl,hx4⟩;have oK:=ah mZ hx4;refine hK.out _ _ (λ_=>(HD.out.1.ext oK).four (HD.out.2.1.ext oK)) ?_;clear ae mZ hx4 hK K;have ae:=(HD.out.1.ext oK).four (HD.out.2.1.ext oK);(try simp only[nP]);(refine jv aj (i:=5) λK hK=>?_;go_simp);refine(nk (mY (-B) (-A)) (pI (-B) (-A)) _ HB.out.1 HB.out.2).mono ?_;rintro e w5 ⟨rfl,hx5⟩;have uj:=ah oK hx5;refine hK.out _ _ (λ_=>(HD.out.1.ext uj).four (HD.out.2.1.ext uj)) ?_;clear ae oK hx5 hK K;have ae:=(HD.out.1.ext uj).four (HD.out.2.1.ext uj);(try simp only[nP]);refine nQ aj [6] [_] ?_;clear aj ae;obtain⟨q0,q1,q2,q3⟩:=eZ (HD.out.2.2.ext uj);have q4:=(q2 (.int .i64 (-mY (-B) (-A)))).1;have q5:=(q2 (.int .i64 (-mY (-B) (-A)))).2;have HQ:=aW (q3 (.int .i64 (-mY (-B) (-A))) (.int .i64 (pI (-B) (-A):Int)));have HE:=aW uj;clear q2 q3 uj;simp only[gM];go_wp2
   (try simp only[Exit.inBlock,Exit.then]);refine bodyPost_ret (results_cell_row rfl _ _ (w.heap.size+1+1) 34 #[.int .i64 (-mY (-B) (-A)),.int .i64 (pI (-B) (-A):Int)] (0,0) _ rfl HQ.out underlying34 rfl (by kernel_rfl)) rfl ?_;exact⟨by rw[(Ec (A:=A) (B:=B)).1,(Ec (A:=A) (B:=B)).2];rfl,ll (ll (ah HX.out HE.out) (w.heap.size+1+1) 0 _) (w.heap.size+1+1) 1 _⟩
end
section
open Go.RowKit
open bE (dO dP)
variable {t:Int} {p:Nat}
theorem vT{p:Int}(h:¬(-1000000<=t/\t<=1000000/\0<=p/\p<=16/\(p=0\/t % 2≠0))):dS t p=false:=by
 rw[iT];exact λk=>h (fe.1 k)
theorem qR(t p:Int)(w:World):Calls prog 75 #[.agg #[.int .i64 t,.int .i64 p]] w λe w'=>e=.returned (.bool (dS t p))/\Ext w w':=by
 have hx:Ext w (w.alloc (.cells #[.int .i64 t,.int .i64 p] 34)):=by go_grown
 obtain⟨c0,c1⟩:=qg w (.int .i64 t) (.int .i64 p) 34;by_cases h1:-1000000<=t
 .by_cases h2:t<=1000000
  .by_cases h3:0<=p
   .by_cases h4:p<=16
    .by_cases h5:p=0
     .have g5:(p == 0)=true:=by simpa using h5
      have HP:=aW h5;clear h5;go_enter Tryz.func75,Tryz.ntmps75
      go_wp2
      go_ret
      exact⟨gJ (fe.2 ⟨h1,h2,h3,h4,.inl HP.out⟩).symm,hx⟩
     .have g5:(p == 0)=false:=by simpa using h5
      cases e6:(t.tmod 2 != 0)with
      |true=>
       have HT:Hid (t % 2≠0):=aW (by rw[Je]at e6;simpa using e6);clear h5;go_enter Tryz.func75,Tryz.ntmps75
       go_wp2
       go_ret
       exact⟨gJ (fe.2 ⟨h1,h2,h3,h4,.inr HT.out⟩).symm,hx⟩
      |false=>
       have HT:Hid (t % 2=0):=aW (by rw[Je]at e6;simpa using e6);have HP:=aW h5;clear h5;go_enter Tryz.func75,Tryz.ntmps75
       go_wp2
       go_ret
       exact⟨gJ (vT (λk=>k.2.2.2.2.elim HP.out (λq=>q HT.out))).symm,hx⟩
    ·
     go_enter Tryz.func75,Tryz.ntmps75
     go_wp2
     go_ret
     exact⟨gJ (vT (by omega)).symm,hx⟩
   ·
    go_enter Tryz.func75,Tryz.ntmps75
    go_wp2
    go_ret
    exact⟨gJ (vT (by omega)).symm,hx⟩
  ·
   go_enter Tryz.func75,Tryz.ntmps75
   go_wp2
   go_ret
   exact⟨gJ (vT (by omega)).symm,hx⟩
 ·
  go_enter Tryz.func75,Tryz.ntmps75
  go_wp2
  go_ret
  exact⟨gJ (vT (by omega)).symm,hx⟩
theorem wT(t:Int)(p:Nat)(w:World)(hp:p<=64)(h1:-9223372036854775808<=t)(h2:t<=9223372036854775807):Calls prog 63 #[.int .i64 t,.int .i64 (p:Int)] w λe w'=>e=.returned (mD (dO p t) (dP p t))/\Ext w w':=by
 have hx:Ext w (w.alloc (.cells #[.int .i64 0,.int .i64 0] 34)):=by go_grown
 have hb:=eu w (.cells #[.int .i64 0,.int .i64 0] 34);go_enter Tryz.func63,Tryz.ntmps63
 go_upto_region 1 with fail
 generalize w.alloc (.cells #[.int .i64 0,.int .i64 0] 34)=W at *;go_loopw [0,1] (λtt pp wr=>wr=W/\∃(a:Int) (q:Nat),tt=.int .i64 a/\pp=.int .i64 (q:Int)/\q<=64/\-9223372036854775808<=a/\a<=9223372036854775807/\Hid (dO q a=dO p t/\dP q a=dP p t)) (λ_ pp _=>(intOf pp).toNat)
 case atStart=>exact⟨rfl,t,p,rfl,rfl,hp,h1,h2,aW ⟨rfl,rfl⟩⟩
 case round=>
  clear h1 h2 hp;obtain⟨rfl,a,q,rfl,rfl,hq,h1,h2,HE⟩:=hrel;by_cases h0:0<q
  .have g0:(0:Int)<((q:Nat):Int):=by omega
   by_cases e:a % 2=0
   .have e1:(a.tmod 2 == 0)=true:=by rw[AX];simpa using e
    have e2:=QA e;have e3:wrap64 (a / 2)=a / 2:=(by unfold wrap64;omega);have HN:Hid (dO (q-1) (a / 2)=dO p t/\dP (q-1) (a / 2)=dP p t):=by
     obtain⟨x,y⟩:=HE.out;obtain⟨n,rfl⟩:∃n,q=n+1:=⟨q-1,by omega⟩;rw[dO,if_pos e]at x;rw[dP,if_pos e]at y;exact aW ⟨x,y⟩
    clear HE;go_wp2
    go_roundw
    case rel=>exact⟨trivial,a / 2,q-1,by go_num,by go_num,by omega,by omega,by omega,HN⟩
    case measure=>simp[intOf];omega
   .have e1:(a.tmod 2 == 0)=false:=by rw[AX];simpa using e
    have HN:Hid (dO p t=a/\dP p t=q):=by
     obtain⟨x,y⟩:=HE.out;obtain⟨n,rfl⟩:∃n,q=n+1:=⟨q-1,by omega⟩;rw[dO,if_neg e]at x;rw[dP,if_neg e]at y;exact aW ⟨x.symm,y.symm⟩
    clear HE e
    obtain⟨W4,hW4,hxa,v0,v1⟩:∃W4,W4=wr.alloc (.cells #[.int .i64 a,.int .i64 (q:Int)] 34)/\Ext wr W4/\W4.cell? ⟨wr.heap.size,0,none⟩=some (.int .i64 a)/\W4.cell? ⟨wr.heap.size,1,none⟩=some (.int .i64 (q:Int)):=
     ⟨_,rfl,by go_grown,(qg wr _ _ _).1,(qg wr _ _ _).2⟩
    have HR:Hid (wr.heap[w.heap.size]?=some (.cells #[.int .i64 0,.int .i64 0] 34 (0,0))):=aW hb;clear hb;go_upto_region 5 with fail
    rw[<-hW4];clear hW4;cases e1:dS a q with
    |false=>
     have HG:=aW e1;go_upto_region 6 with(go_at_call 75;refine(qR _ _ _).mono ?_;rintro e w1 ⟨he,hx1⟩;rw[e1]at he;subst he)
     have hE:=ah hxa hx1;obtain⟨q0,q1,q2,q3⟩:=eZ (ik hE HR.out);have q4:=(q2 (.int .i64 0)).1;have q5:=(q2 (.int .i64 0)).2;have HQ:=aW (q3 (.int .i64 0) (.int .i64 0));have HE:=aW (ah hx hE);clear q2 q3 hx hx1 hxa v0 v1 e1 hE;go_wp2
     refine mg w.heap.size 34 #[.int .i64 0,.int .i64 0] HQ.out underlying34 ?_;exact⟨by rw[mD,HN.out.1,HN.out.2,HG.out];rfl,(HE.out.setCell (p:=⟨w.heap.size,0,none⟩) (aJ _) _).setCell (p:=⟨w.heap.size,1,none⟩) (aJ _) _⟩
    |true=>
     have HG:=aW e1;go_upto_region 7 with(go_at_call 75;refine(qR _ _ _).mono ?_;rintro e w1 ⟨he,hx1⟩;rw[e1]at he;subst he)
     have hE:=ah hxa hx1;obtain⟨q0,q1,q2,q3⟩:=eZ (ik hE HR.out);have q4:=(q2 (.int .i64 a)).1;have q5:=(q2 (.int .i64 a)).2;have r0:=fw hx1 v0;have r1:=fw hx1 v1;have HQ:=aW (q3 (.int .i64 a) (.int .i64 (q:Int)));have HE:=aW (ah hx hE);clear q2 q3 hx hx1 hxa v0 v1 e1 hE;go_wp2
     refine mg w.heap.size 34 #[.int .i64 a,.int .i64 (q:Int)] HQ.out underlying34 ?_;exact⟨by rw[mD,HN.out.1,HN.out.2,HG.out];rfl,(HE.out.setCell (p:=⟨w.heap.size,0,none⟩) (aJ _) _).setCell (p:=⟨w.heap.size,1,none⟩) (aJ _) _⟩
  .have g0:¬(0:Int)<((q:Nat):Int):=by omega
   have HN:Hid (dO p t=a/\dP p t=q):=by
    obtain⟨x,y⟩:=HE.out;obtain rfl:q=0:=(by omega);exact aW ⟨x.symm,y.symm⟩
   clear HE
   obtain⟨W4,hW4,hxa,v0,v1⟩:∃W4,W4=wr.alloc (.cells #[.int .i64 a,.int .i64 (q:Int)] 34)/\Ext wr W4/\W4.cell? ⟨wr.heap.size,0,none⟩=some (.int .i64 a)/\W4.cell? ⟨wr.heap.size,1,none⟩=some (.int .i64 (q:Int)):=
    ⟨_,rfl,by go_grown,(qg wr _ _ _).1,(qg wr _ _ _).2⟩
   have HR:Hid (wr.heap[w.heap.size]?=some (.cells #[.int .i64 0,.int .i64 0] 34 (0,0))):=aW hb;clear hb;go_upto_region 5 with fail
   rw[<-hW4];clear hW4;cases e1:dS a q with
   |false=>
    have HG:=aW e1;go_upto_region 6 with(go_at_call 75;refine(qR _ _ _).mono ?_;rintro e w1 ⟨he,hx1⟩;rw[e1]at he;subst he)
    have hE:=ah hxa hx1;obtain⟨q0,q1,q2,q3⟩:=eZ (ik hE HR.out);have q4:=(q2 (.int .i64 0)).1;have q5:=(q2 (.int .i64 0)).2;have HQ:=aW (q3 (.int .i64 0) (.int .i64 0));have HE:=aW (ah hx hE);clear q2 q3 hx hx1 hxa v0 v1 e1 hE;go_wp2
    refine mg w.heap.size 34 #[.int .i64 0,.int .i64 0] HQ.out underlying34 ?_;exact⟨by rw[mD,HN.out.1,HN.out.2,HG.out];rfl,(HE.out.setCell (p:=⟨w.heap.size,0,none⟩) (aJ _) _).setCell (p:=⟨w.heap.size,1,none⟩) (aJ _) _⟩
   |true=>
    have HG:=aW e1;go_upto_region 7 with(go_at_call 75;refine(qR _ _ _).mono ?_;rintro e w1 ⟨he,hx1⟩;rw[e1]at he;subst he)
    have hE:=ah hxa hx1;obtain⟨q0,q1,q2,q3⟩:=eZ (ik hE HR.out);have q4:=(q2 (.int .i64 a)).1;have q5:=(q2 (.int .i64 a)).2;have r0:=fw hx1 v0;have r1:=fw hx1 v1;have HQ:=aW (q3 (.int .i64 a) (.int .i64 (q:Int)));have HE:=aW (ah hx hE);clear q2 q3 hx hx1 hxa v0 v1 e1 hE;go_wp2
    refine mg w.heap.size 34 #[.int .i64 a,.int .i64 (q:Int)] HQ.out underlying34 ?_;exact⟨by rw[mD,HN.out.1,HN.out.2,HG.out];rfl,(HE.out.setCell (p:=⟨w.heap.size,0,none⟩) (aJ _) _).setCell (p:=⟨w.heap.size,1,none⟩) (aJ _) _⟩
def gP(t:Int)(p:Nat):Int:=t*2 ^ (16-p)
theorem Qw(hp:p<=16):sc t p=gP t p*256:=by
 unfold sc gP;rw[jO,show(256:Int)=2 ^ 8 from rfl,<-wy,show 16-p+8=24-p by omega]
theorem tH(hp:p<=16){B:Int}(h1:-B<=t)(h2:t<=B):-(B*65536)<=gP t p/\gP t p<=B*65536:=by
 have:=qb (p:=p) h1 h2;rw[Qw hp]at this;omega
theorem wI(t:Int)(p:Nat)(w:World)(hp:p<=16)(h1:-17179869184<=t)(h2:t<=17179869184):Calls prog 96 #[tY t p] w λe w'=>e=.returned (.int .i64 (gP t p))/\Ext w w':=by
 have hb:=tH (p:=p) hp (B:=17179869184) (by omega) h2;have hx:Ext w (w.alloc (.cells #[.int .i64 t,.int .i64 (p:Int)] 34)):=by go_grown
 have hk:(16-(p:Int)).toNat=16-p:=by omega
 have hq:(0:Int)<=16-(p:Int):=by omega
 have hw:wrap64 (gP t p)=gP t p:=by unfold wrap64;omega
 obtain⟨hc0,hc1⟩:=qg w (.int .i64 t) (.int .i64 (p:Int)) 34;unfold gP at hw;unfold tY;go_enter Tryz.func96,Tryz.ntmps96
 go_wp2
 go_ret
 exact⟨iW hw,hx⟩
end
