/-
  Memory of the program's reduced; what it yields; the law of canon. (3 texts.)
-/
import Derived.Test.YteknjeohbcgpdaaGreatDoorK17
import Derived.Test.YteknjeohbcgpdaaGreatDoorK28
set_option maxRecDepth 100000
namespace Go.Proofs.YteknjeohbcgpdaaGreatDoor
open Tryz
section
open Go.RowKit
variable {z zs:List Int} {d k:Nat}
theorem QB(ha:z.Pairwise (· < ·))(h1:∀y,y∈z.take d->y<(k:Int))(h2:∀y,y∈z.drop d->(k:Int)<=y):mO z (k:Int)=true↔∃zs,z.drop d=(k:Int):: zs:=by
 unfold mO;rw[decide_eq_true_iff];constructor
 .intro h
  rw[<-iZ d z]at h;rcases aK.1 h with h|h
  .have:=h1 _ h;omega
  .cases hd:z.drop d with
   |nil=>rw[hd]at h;cases h
   |cons y zs=>
    rw[hd]at h;rcases dD.1 h with h|h
    .exact⟨zs,by rw[h]⟩
    .have hp:=ha.sublist (List.drop_sublist d z)
     rw[hd]at hp;have q1:=(p8.1 hp).1 _ h;have q2:=h2 y (by rw[hd];simp);omega
 .rintro⟨zs,e⟩
  exact sH (i:=d) (by rw[e];simp)
theorem Qz(ha:z.Pairwise (· < ·))(h1:∀y,y∈z.take d->y<(k:Int))(e:z.drop d=(k:Int):: zs):z.drop (d+1)=zs/\(∀y,y∈z.take (d+1)->y<((k+1:Nat):Int))/\∀y,y∈z.drop (d+1)->((k+1:Nat):Int)<=y:=by
 have e1:z.drop (d+1)=zs:=by rw[<-List.drop_drop,e];rfl
 refine⟨e1,λy hy=>?_,λy hy=>?_⟩
 .have hlt:d<z.length:=by
   rcases dX d z.length with c|c
   .exact c
   .rw[List.drop_eq_nil_of_le c]at e;cases e
  rw[bg hlt]at hy;rcases aK.1 hy with hy|hy
  .have:=h1 y hy;omega
  .simp at hy
   have:z[d]=(k:Int):=by
    have q:=iO hlt;rw[e]at q;injection q with q;exact q.symm
   omega
 .rw[e1]at hy
  have hp:=ha.sublist (List.drop_sublist d z);rw[e]at hp;have:=(p8.1 hp).1 y hy;omega
theorem QA(h1:∀y,y∈z.take d->y<(k:Int))(h2:∀y,y∈z.drop d->(k:Int)<=y)(hn:mO z (k:Int)=false):(∀y,y∈z.take d->y<((k+1:Nat):Int))/\∀y,y∈z.drop d->((k+1:Nat):Int)<=y:=by
 refine⟨λy hy=>by have:=h1 y hy;omega,λy hy=>?_⟩;have:=h2 y hy;have hne:y≠(k:Int):=λe=>by
  subst e;have:mO z (k:Int)=true:=by unfold mO;rw[decide_eq_true_iff];exact sH hy
  rw[this]at hn;cases hn
 omega
def Z8(l z:List Int)(w:World)(e:Ending)(w':World):Prop:=∃v',e=.returned v'/\w'.ownsRow w.heap.size 3 1 v' (qa l z).length ((qa l z).map (Value.int .i64))/\Ext w w'
theorem Pe{w:World}{b off q cap:Nat}{y:Int}(h:Ints w (.slice (some ⟨b,off,none⟩) (q+1) cap) (y :: zs)):Ints w (.slice (some ⟨b,off+1,none⟩) q (cap-1)) zs:=by
 obtain⟨a,c,e,h1,h2,h3⟩:=h;simp only[Value.slice.injEq,dO,Nat.add_right_cancel_iff]at e;obtain⟨rfl,rfl,rfl⟩:=e;simp only[dO]at h1 h2 h3;obtain⟨b',off',e,hc⟩:=h3 (by omega);simp only[bJ,Addr.mk.injEq,and_true]at e;obtain⟨rfl,rfl⟩:=e;refine⟨_,_,rfl,by omega,by omega,λ_=>⟨_,_,rfl,λi hi=>?_⟩⟩;have:=hc (i+1) (by omega);rw[show off+1+i=off+(i+1) by omega,this];simp[jv]
set_option maxHeartbeats 2000000 in
theorem Au(v u:Value)(l z:List Int)(w:World)(h:Ints w v l)(g:Ints w u z)(hz:z.Pairwise (· < ·))(hz0':∀y,y∈z->0<=y)(hsz:l.length<=1000000000):
 Calls prog 197 #[v,u] w (Z8 l z w):=by
 obtain⟨a,cap,rfl,hlc,hcap,hc⟩:=h;obtain⟨i0,hi,hz0,hz1,hz2⟩:=info_parts iy;go_enter Tryz.func197,Tryz.ntmps197
 go_wp2
 go_loopw [1,5,6,7,11] (λpv o _ _ i wr=>∃k d:Nat,k<=l.length/\i=.int .i64 k/\wr.ownsRow w.heap.size 3 1 o (Hz l z k).length ((Hz l z k).map (Value.int .i64))/\Ext w wr/\Ints w pv (z.drop d)/\(∀y,y∈z.take d->y<(k:Int))/\∀y,y∈z.drop d->(k:Int)<=y) (λ_ _ _ _ i _=>l.length-(intOf i).toNat)
 case atStart=>exact⟨0,0,az _,rfl,fC w _ (ai _) _,(Below.refl _ _).alloc (ai _) _,g,by simp,λy hy=>hz0' y (by simpa using hy)⟩
 case round=>
  obtain⟨k,d,hk,rfl,hown,jE,hI,hT,hD⟩:=hrel;by_cases hlt:k<l.length
  .obtain⟨b,off,rfl,hcell⟩:=hc (by omega)
   have hck:=hcell k hlt;have nz:=(jE.cell (lt_of_cell hck)).trans hck;have hwl:=yf l z k;obtain⟨ao,co,rfl,_,_⟩:=bD hown;clear hcell hc hck;by_cases hin:mO z (k:Int)=true
   .obtain⟨zs,e⟩:=(QB hz hT hD).1 hin
    have HW:=aH (QC l z k hin);have HN:=aH (Qz hz hT e);rw[e]at hI;have HI:=aH hI;obtain⟨pa,pc,rfl,hpc,hpl,tu⟩:=hI;obtain⟨q,hq⟩:∃q,q=zs.length:=⟨_,rfl⟩;have hq1:((k:Int):: zs).length=q+1:=(by rw[hq];rfl);rw[hq1]at hpc hpl tu HI ⊢;obtain⟨bp,op,rfl,hcp⟩:=tu (by omega);have hc0:=(jE.cell (lt_of_cell (hcp 0 (by omega)))).trans (hcp 0 (by omega));have e0:jv ((k:Int):: zs) 0=(k:Int):=(by simp[jv]);rw[e0,kS]at hc0;have HZ:=aH hz;have HQ:=aH hq;clear hcp tu e e0 hin hT hD hz hq1 hq;by_cases hq0:q=0
    .subst hq0
     go_wp2
     go_roundw
     case rel=>exact⟨k+1,d+1,by omega,by go_num,by rw[HW.out];exact hown,jE,by rw[HN.out.1,fE HQ.out.symm];exact Ints.nil _ _ _,HN.out.2.1,HN.out.2.2⟩
     case measure=>simp[intOf];omega
    .have hq1:¬(q+1=1):=by omega
     go_wp2
     go_roundw
     case rel=>exact⟨k+1,d+1,by omega,by go_num,by rw[HW.out];exact hown,jE,by rw[HN.out.1];exact Pe HI.out,HN.out.2.1,HN.out.2.2⟩
     case measure=>simp[intOf];omega
   .have hin':mO z (k:Int)=false:=by simpa using hin
    have HW:=aH (MQ l z k hin');have HN:=aH (QA hT hD hin');have HI:=aH hI;have HZ:=aH hz;obtain⟨pa,pc,rfl,hpc,hpl,tu⟩:=hI;cases hd:z.drop d with
    |nil=>
     rw[hd]at HI;clear tu hT hD hin hz;go_wp2_with (at_builtin;refine bQ rfl (.tmp 28) (.tmp 30) 80 rfl w.heap.size 3 i0 (.int .i64 0) 1 8 underlying80 hi hz0 hz1 hz2 rfl (by decide) (.slice ao (Hz l z k).length co) _ _ rfl (hown.alloc _) _ 1 _ [Value.int .i64 (jv l k)] rfl rfl (.inr ⟨_,rfl,cK (bP _ _ _)⟩) one_cell (by unfold maxLen;omega) (by omega) (by have:=jE.size;simp;omega) ?_;intro v1 w1 ho1 hg1 _)
     go_roundw
     case rel=>
      refine⟨k+1,d,by omega,by go_num,?_,zb jE hown hg1,by rw[hd];exact HI.out,HN.out.1,HN.out.2⟩;rw[HW.out];simpa using ho1
     case measure=>simp[intOf];omega
    |cons y zs=>
     rw[hd]at HI hpc hpl tu;have hyk:¬(y=(k:Int)):=λe=>by
      have:=(QB HZ.out hT hD).2 ⟨zs,by rw[hd,e]⟩;rw[hin']at this;cases this
     have alb:(y == (k:Int))=false:=(by simpa using hyk);obtain⟨q,hq⟩:∃q,q=zs.length:=⟨_,rfl⟩;have hq1:(y :: zs).length=q+1:=(by rw[hq];rfl);rw[hq1]at hpc hpl tu HI ⊢;obtain⟨bp,op,rfl,hcp⟩:=tu (by omega);have hc0:=(jE.cell (lt_of_cell (hcp 0 (by omega)))).trans (hcp 0 (by omega));have e0:jv (y :: zs) 0=y:=(by simp[jv]);rw[e0,kS]at hc0;have HQ:=aH hd;clear tu hcp e0 hT hD hin hz hq1 hq hyk hd;go_wp2_with (at_builtin;refine bQ rfl (.tmp 28) (.tmp 30) 80 rfl w.heap.size 3 i0 (.int .i64 0) 1 8 underlying80 hi hz0 hz1 hz2 rfl (by decide) (.slice ao (Hz l z k).length co) _ _ rfl (hown.alloc _) _ 1 _ [Value.int .i64 (jv l k)] rfl rfl (.inr ⟨_,rfl,cK (bP _ _ _)⟩) one_cell (by unfold maxLen;omega) (by omega) (by have:=jE.size;simp;omega) ?_;intro v1 w1 ho1 hg1 _)
     go_roundw
     case rel=>
      refine⟨k+1,d,by omega,by go_num,?_,zb jE hown hg1,by rw[HQ.out];exact HI.out,HN.out.1,HN.out.2⟩;rw[HW.out];simpa using ho1
     case measure=>simp[intOf];omega
  .go_wp2
   go_ret
   have e:k=l.length:=(by omega);subst e;exact⟨_,rfl,hown,jE⟩
end
section
open Go.RowKit
variable {e k base g n cap:Nat} {w:World} {l z:List Int}
theorem xg(w:World)(g:Nat)(f:Array Value->Array Value){cur:Array Value}{e:TypeId}{fr:Nat × Nat}(h:w.heap[g]?=some (.cells cur e fr)):(Go.Sort.mapBlock w g f).heap[g]?=some (.cells (f cur) e fr):=by
 simp[Go.Sort.mapBlock,Array.getElem?_modify,h,Go.Sort.onCells]
theorem uG(w:World)(g k:Nat)(f:Array Value->Array Value)(h:k≠g):(Go.Sort.mapBlock w g f).heap[k]?=w.heap[k]?:=by
 simp[Go.Sort.mapBlock,Array.getElem?_modify,Ne.symm h]
theorem wu(w:World)(os:Array Obj)(h:k<w.heap.size):(Go.Sort.grow w os).heap[k]?=w.heap[k]?:=by
 simp[Go.Sort.grow,Array.getElem?_append_left h]
theorem FV{l':List Int}(h:w.ownsRow base e 1 (.slice (some ⟨g,0,none⟩) n cap) n (l.map (Value.int .i64)))(hl:l'.length=l.length)(m:Nat)(os:Array Obj):
 (Go.Sort.grow (Go.Sort.putRow (Value.int .i64) (Go.Sort.ahead w m) g 0 l'.toArray) os).ownsRow base e 1 (.slice (some ⟨g,0,none⟩) n cap) n (l'.map (Value.int .i64))/\fe (λb=>b=g) w (Go.Sort.grow (Go.Sort.putRow (Value.int .i64) (Go.Sort.ahead w m) g 0 l'.toArray) os):=by
 obtain⟨hlen,h⟩:=h;rw[aJ]at hlen;have hgl:g<w.heap.size:=by
  rcases h with⟨h,_⟩|⟨g',cap',cur,h1,h2,h3,_⟩
  .simp at h
  .simp only[Value.slice.injEq,bJ,Addr.mk.injEq,and_true,true_and]at h1
   obtain⟨rfl,rfl⟩:=h1;exact bG h3
 have hsz:(Go.Sort.putRow (Value.int .i64) (Go.Sort.ahead w m) g 0 l'.toArray).heap.size=w.heap.size:=by rw[Go.Sort.size_putRow];rfl
 refine⟨⟨by rw[aJ];omega,?_⟩,rfl,rfl,rfl,by simp[Go.Sort.grow,hsz],λk hk hn=>?_⟩
 .rcases h with⟨h,_⟩|⟨g',cap',cur,h1,h2,h3,h4,h5,h6,h7⟩
  .simp at h
  .simp only[Value.slice.injEq,bJ,Addr.mk.injEq,and_true,true_and]at h1
   obtain⟨rfl,rfl⟩:=h1;refine .inr ⟨g,cap,Go.Sort.putCells (Value.int .i64) 0 l'.toArray cur,rfl,h2,?_,h4,h5,by simp[Go.Sort.putCells,h6],?_⟩
   .rw[wu _ _ (by rw[hsz];exact hgl)]
    exact xg _ _ _ h3
   .apply List.ext_getElem?
    intro i;rw[lI];by_cases c:i<n*1
    .rw[if_pos c,iD]
     have hc:i<cur.size:=(by rw[h6];have:=iM 1 h4;omega);have hi:i<l'.length:=(by omega);rw[dB,aa hi];simp only[Go.Sort.putCells,Array.getElem?_mapIdx,jG hc,iG];rw[if_pos (by simp;omega)];simp[hi]
    .rw[if_neg c,iC (by rw[aJ];omega)]
 .rw[wu _ _ (by rw[hsz];exact hk)]
  exact uG (Go.Sort.ahead w m) g k _ hn
theorem zK(h:w.ownsRow base e 1 (.slice (some ⟨g,0,none⟩) n cap) n (l.map (Value.int .i64))):Go.Sort.Holds (Value.int .i64) w g 0 l.toArray:=by
 intro j hj;have hl:=h.1;rw[aJ]at hl;have hj':j<l.length:=by simpa using hj
 rw[gK];refine⟨?_,h.frozenAt j⟩;rw[R9 h (by omega),o6 hj'];simp[hj']
theorem Cx(h:w.ownsRow base e 1 (.slice (some ⟨g,0,none⟩) n cap) n (l.map (Value.int .i64)))(hk:k<=n):w.ownsRow base e 1 (.slice (some ⟨g,0,none⟩) k cap) k ((l.take k).map (Value.int .i64)):=by
 obtain⟨hlen,h⟩:=h;rw[aJ]at hlen;refine⟨by rw[aJ,ek];omega,?_⟩;rcases h with⟨h,_⟩|⟨g',cap',cur,h1,h2,h3,h4,h5,h6,h7⟩
 .simp at h
 .simp only[Value.slice.injEq,bJ,Addr.mk.injEq,and_true,true_and]at h1
  obtain⟨rfl,rfl⟩:=h1;refine .inr ⟨g,cap,cur,rfl,h2,h3,by omega,h5,h6,?_⟩;rw[List.map_take,<-h7,List.take_take];congr 1;omega
def zZ(l:List Int):List Int:=Lib.compact (l.mergeSort λx y=>decide (x<=y))
def U5(l:List Int)(w:World)(e:Ending)(w':World):Prop:=∃v',e=.returned v'/\w'.ownsRow w.heap.size 3 1 v' (zZ l).length ((zZ l).map (Value.int .i64))/\Ext w w'
theorem Gq(v:Value)(l:List Int)(w:World)(h:Ints w v l)(hl:l.length<=1000000000):Calls prog 168 #[v] w (U5 l w):=by
 obtain⟨a,cap,rfl,hlc,hcap,hc⟩:=id h;rcases kg l.length with hz|hz
 .have hln:l=[]:=fE hz
  subst hln;have hd:zZ []=[]:=by simp[zZ,Lib.compact,Lib.compactUpTo]
  cases a with
  |none=>
   go_enter Tryz.func168,Tryz.ntmps168
   go_wp2_with (first
    |(go_at_call 203;refine(Tryz.slices_Clone_int_nil _ _ _).mono ?_;rintro e w1 ⟨rfl,rfl⟩)
    |(go_at_call 201;refine(Tryz.slices_Sort_int_none _ _ _).mono ?_;rintro e w1 ⟨rfl,hw1⟩)
    |(go_at_call 204;refine(Tryz.slices_Compact_int_empty _ _ _).mono ?_;rintro e w1 ⟨rfl,rfl⟩))
   go_ret
   exact⟨_,rfl,by rw[hd];exact⟨by simp,.inl ⟨rfl,rfl⟩⟩,Below.refl _ _⟩
  |some ad=>
   go_enter Tryz.func168,Tryz.ntmps168
   go_wp2_with (first
    |(go_at_call 203;refine(Tryz.slices_Clone_int_zero _ _ _).mono ?_;rintro e w1 ⟨v1,rfl,ho1,-,hx1⟩;obtain⟨a1,c1,rfl,-⟩:=bD ho1)
    |(go_at_call 201;refine(Tryz.slices_Sort_int_none _ _ _).mono ?_;rintro e w2 ⟨rfl,hw2⟩;subst hw2)
    |(go_at_call 204;refine(Tryz.slices_Compact_int_empty _ _ _).mono ?_;rintro e w3 ⟨rfl,hw3⟩;subst hw3))
   go_ret
   exact⟨_,rfl,by rw[hd];exact ho1,hx1⟩
 .obtain⟨b,off,rfl,hcell⟩:=hc hz
  have hg:∀j,j<l.length->w.cell? ⟨b,off+j,none⟩=some (.int .i64 (l.getD j 0)):=λj hj=>by rw[hcell j hj];simp[jv]
  go_enter Tryz.func168,Tryz.ntmps168
  go_upto_region 2 with(go_at_call 203;refine(Tryz.slices_Clone_int b off l.length _ l _ (ai _) (by omega) hg).mono ?_;rintro e w1 ⟨v1,rfl,ho1,-,hx1⟩)
  rw[cO (ai _)]at ho1;obtain⟨g,c1,rfl,hc1,amf,-⟩:=iB ho1 hz;have hgl:=ho1.lt g rfl;have hms:(l.mergeSort λx y=>decide (x<=y)).length=l.length:=List.length_mergeSort _;go_upto_region 3 with(go_at_call 201;refine(Tryz.slices_Sort_int g 0 _ l _ (zK ho1) hgl.2 (by omega)).mono ?_;rintro e w2 ⟨rfl,m2,os2,hw2⟩)
  obtain⟨ho2,hk2⟩:=FV ho1 hms m2 os2;rw[<-hw2]at ho2 hk2 ⊢;clear hw2;generalize abT:(l.mergeSort λx y=>decide (x<=y))=ms at *;have hcl:(Lib.compact ms).length<=l.length:=by
   rw[<-hms];unfold Lib.compact Lib.compactUpTo;rw[aJ];exact bU (jQ _ _) (by simp)
  have hC:=Tryz.slices_Compact_int g 0 c1 ms w2 (zK ho2) (by rw[hms];omega) (by rw[hms];exact hc1);rw[hms]at hC;have HMS:=aH hms;have HD:=aH abT;clear hms abT;go_wp2_with (go_at_call 204;refine hC.mono ?_;rintro e w3 ⟨rfl,q3,hw3⟩)
  go_ret
  rw[<-hw3];have hl3:(Lib.compact ms++List.replicate (l.length-(Lib.compact ms).length) 0).length=l.length:=by
   rw[aj,List.length_replicate];omega
  obtain⟨ho3,hk3⟩:=FV ho2 (hl3.trans HMS.out.symm) q3 #[];have e3:Go.Sort.grow (Go.Sort.putRow (Value.int .i64) (Go.Sort.ahead w2 q3) g 0 (Lib.compact ms++List.replicate (l.length-(Lib.compact ms).length) 0).toArray) #[]=w3:=by rw[Go.Sort.grow_empty,hw3]
  rw[e3]at ho3 hk3;have hdz:zZ l=Lib.compact ms:=by unfold zZ;rw[HD.out]
  refine⟨_,rfl,?_,⟨hk3.os.trans (hk2.os.trans hx1.os),hk3.tape.trans (hk2.tape.trans hx1.tape),hk3.output.trans (hk2.output.trans hx1.output),bU hx1.size (bU hk2.size hk3.size),λk hk=>?_⟩⟩
  .have:=Cx ho3 (k:=(Lib.compact ms).length) hcl
   rw[List.take_left]at this;rw[hdz];exact this
  .have z1:=hx1.size
   rw[hk3.block k (by have:=hk2.size;omega) (by omega),hk2.block k (by omega) (by omega)];exact hx1.block k hk
theorem JN(h:z.Pairwise (·<=·)):(Lib.compact z).Pairwise (· < ·):=by
 unfold Lib.compact Lib.compactUpTo;rw[jl];have hr:((List.range z.length).filter (Lib.keeps z.toArray)).Pairwise (· < ·):=List.pairwise_lt_range.filter _;refine ig (λ{i j} hi hj hij=>?_) hr;simp only[eU,dA,Lib.keeps,decide_eq_true_eq]at hi hj;rcases hj.2 with h0|h0
 .omega
 .have e1:z.toArray[j]! = z[j]:=by simp[hj.1]
  have e2:z.toArray[j-1]! = z[j-1]'(by omega):=by simp[show j-1<z.length by omega]
  have e3:z.toArray[i]! = z[i]:=by simp[hi.1]
  rw[e1,e2]at h0;rw[e1,e3];have a:z[i]<=z[j-1]'(by omega):=by
   by_cases c:i=j-1
   .subst c;exact Int.le_refl _
   .exact dh.1 h i (j-1) hi.1 (by omega) (by omega)
  have b:=dh.1 h (j-1) j (by omega) hj.1 (by omega);omega
theorem JM{x:Int}:x∈Lib.compact z↔x∈z:=by
 have key:∀i (h:i<z.length),z[i]∈Lib.compact z:=by
  intro i
  induction i with
  |zero=>
   intro h;refine aI.2 ⟨0,eU.2 ⟨dA.2 h,by simp[Lib.keeps]⟩,by simp[h]⟩
  |succ i ih=>
   intro h;by_cases c:z[i+1]=z[i]
   .rw[c];exact ih (by omega)
   .refine aI.2 ⟨i+1,eU.2 ⟨dA.2 h,?_⟩,by simp[h]⟩
    simp only[Lib.keeps,decide_eq_true_eq,ko];right;have e1:z.toArray[i+1]! = z[i+1]:=(by simp[h]);have e2:z.toArray[i]! = z[i]:=(by simp[show i<z.length by omega]);rw[e1,e2];exact c
 constructor
 .intro h
  obtain⟨i,hi,rfl⟩:=aI.1 h;simp only[eU,dA]at hi;have:z.toArray[i]! = z[i]:=by simp[hi.1]
  rw[this];exact ah _
 .intro h
  obtain⟨i,hi,rfl⟩:=aO.1 h;exact key i hi
theorem Ua(l:List Nat):zZ (dx l)=dx (bE l):=by
 have hs:((dx l).mergeSort λx y=>decide (x<=y)).Pairwise (·<=·):=by
  have:=List.pairwise_mergeSort (le:=λx y:Int=>decide (x<=y)) (λa b c h1 h2=>by simp at *;omega) (λa b=>by simp;omega) (dx l);exact this.imp (λh=>by simpa using h)
 have ha:=JN hs;have hm:∀x,x∈zZ (dx l)↔x∈dx l:=λx=>by unfold zZ;rw[JM,List.mem_mergeSort]
 have hnn:∀x,x∈zZ (dx l)->∃n:Nat,x=(n:Int):=λx hx=>by obtain⟨n,_,e⟩:=ni ((hm x).1 hx);exact⟨n,e⟩
 have e1:zZ (dx l)=dx ((zZ (dx l)).map Int.toNat):=by
  unfold dx;rw[jC]
  conv=>lhs;rw[<-List.map_id (zZ _)]
  refine dP λx hx=>?_
  obtain⟨n,rfl⟩:=hnn x hx;rfl
 rw[e1];congr 1;refine bz.tQ ?_ (jw l) (λx=>?_)
 .unfold bz.Asc
  rw[jl];refine ig (λ{a b} ha hb h=>?_) ha;obtain⟨n,rfl⟩:=hnn a ha;obtain⟨m,rfl⟩:=hnn b hb;simp;omega
 .rw[bZ]
  constructor
  .intro h
   obtain⟨y,hy,rfl⟩:=aI.1 h;obtain⟨n,hn,rfl⟩:=ni ((hm y).1 hy)
   simpa using hn
  .intro h
   exact aI.2 ⟨(x:Int),(hm _).2 (sU.2 h),by simp⟩
end
section
open Go.RowKit
open bz (dC Nd vl Same Ge)
variable {w wr wa w2:World} {B q line:List Nat} {n pp h mb i:Nat} {ys:List Value} {s:iQ} {qv kv:Value}
theorem FW{B e:Nat}{v:Value}{l:List Nat}{m:Nat}(h:w.ownsRow B e 1 v n ys)(hn:n=m)(hy:ys=(dx l).map (Value.int .i64)):w.ownsRow B e 1 v m ((dx l).map (Value.int .i64)):=by subst hn;rw[<-hy];exact h
theorem kZ(a b:List Nat):dx (a++b)=dx a++dx b:=by simp[dx]
structure gD(pp h:Nat)(s:iQ)(w wr:World)(mb:Nat)(qv kv:Value)(q B line:List Nat):Prop where
 q:wr.ownsRow w.heap.size 3 1 qv q.length ((dx q).map (Value.int .i64))
 k:wr.ownsRow w.heap.size 3 1 kv B.length ((dx B).map (Value.int .i64))
 seen:∃f,gu prog 3 wr mb line.length f/\∀x:Nat,f (.int .i64 (x:Int))=if x∈line then some (.bool true)else none
 mb0:w.heap.size<=mb
 a1:qv.ownBlock≠some mb
 a2:kv.ownBlock≠some mb
 a3:∀b,qv.ownBlock=some b->kv.ownBlock≠some b
 uW:Ku pp h s wr (λb=>b=mb\/qv.ownBlock=some b\/kv.ownBlock=some b)
theorem gD.keep{pp h:Nat}{s s':iQ}{w wr w2:World}{mb:Nat}{qv kv:Value}{q B line:List Nat}{G:Nat->Prop}(m:gD pp h s w wr mb qv kv q B line)(hk:fe G wr w2)(hG:∀b,b=mb\/qv.ownBlock=some b\/kv.ownBlock=some b->¬G b)
 (hc:Ku pp h s' w2 (λb=>b=mb\/qv.ownBlock=some b\/kv.ownBlock=some b)):gD pp h s' w w2 mb qv kv q B line:=by
 obtain⟨f,f1,f2⟩:=m.seen;exact⟨bO m.q hk (λb hb=>hG b (.inr (.inl hb))),bO m.k hk (λb hb=>hG b (.inr (.inr hb))),⟨f,f1.keep (hk.block _ f1.lt (hG mb (.inl rfl))),f2⟩,m.mb0,m.a1,m.a2,m.a3,hc⟩
theorem gD.go{pp h:Nat}{s s':iQ}{w wr w2:World}{mb:Nat}{qv kv:Value}{q B line:List Nat}(m:gD pp h s w wr mb qv kv q B line)(g:jK pp h s wr s' w2):gD pp h s' w w2 mb qv kv q B line:=
 m.keep g.keep (λb hb=>(m.uW b hb).2.1) (m.uW.go g)
theorem Ku.ext{w':World}{T:Nat->Prop}(c:Ku pp h s w T)(hx:Ext w w'):Ku pp h s w' T:=λb hb=>⟨aQ (c b hb).1 hx.size,(c b hb).2⟩
theorem gD.ext{pp h:Nat}{s:iQ}{w wr w2:World}{mb:Nat}{qv kv:Value}{q B line:List Nat}(m:gD pp h s w wr mb qv kv q B line)(hx:Ext wr w2):gD pp h s w w2 mb qv kv q B line:=
 m.keep (fV (F:=λ_=>False) hx) (λ_ _=>id) (m.uW.ext hx)
theorem gD.push{qv':Value}{news:List Nat}(m:gD pp h s w wr mb qv kv q B line)(hP:dm wr pp h s)(hx:Ext wr wa)(hg:wa.grownBy w2 qv.ownBlock)
 (ho:w2.ownsRow w.heap.size 3 1 qv' n ys) (hn:n=(q++news).length) (hy:ys=(dx (q++news)).map (Value.int .i64)) (hl:mM wa qv qv'):gD pp h s w w2 mb qv' kv (q++news) B line:=by
 have hz:=hx.size;have hz2:=hg.size;have hL:∀b,qv'.ownBlock=some b->qv.ownBlock=some b\/wr.heap.size<=b:=λb hb=>by
  rcases hl with e|⟨g,e,k⟩
  .exact .inl (e ▸ hb)
  .rw[e]at hb;injection hb with hb;exact .inr (by omega)
 have m1:=m.ext hx;obtain⟨f,f1,f2⟩:=m1.seen;have hkg:=fD hg;have hcm:=m.uW;refine⟨FW ho hn hy,bO m1.k hkg (λb hb hq=>m.a3 b hq hb),⟨f,f1.keep (hkg.block _ f1.lt (λe=>m.a1 e)),f2⟩,m.mb0,λe=>?_,m.a2,λb hb hc=>?_,λb hb=>?_⟩
 .rcases hL mb e with h1|h1
  .exact m.a1 h1
  .have:=(hcm mb (.inl rfl)).1;omega
 .rcases hL b hb with h1|h1
  .exact m.a3 b h1 hc
  .have:=(hcm b (.inr (.inr hc))).1;omega
 .have hlt:=ho.lt
  rcases hb with rfl|hb|hb
  .have:=hcm _ (.inl rfl);exact⟨by omega,this.2⟩
  .refine⟨(hlt b hb).2,?_⟩
   rcases hL b hb with h1|h1
   .exact(hcm b (.inr (.inl h1))).2
   .exact hP.new h1
  .have:=hcm b (.inr (.inr hb));exact⟨by omega,this.2⟩
theorem gD.add{kv':Value}(m:gD pp h s w wr mb qv kv q B line)(hP:dm wr pp h s)(hx:Ext wr wa)(hg:wa.grownBy w2 kv.ownBlock)
 (ho:w2.ownsRow w.heap.size 3 1 kv' n ys) (hn:n=(B++[i]).length) (hy:ys=(dx (B++[i])).map (Value.int .i64)) (hl:mM wa kv kv'):gD pp h s w w2 mb qv kv' q (B++[i]) line:=by
 have hz:=hx.size;have hz2:=hg.size;have hL:∀b,kv'.ownBlock=some b->kv.ownBlock=some b\/wr.heap.size<=b:=λb hb=>by
  rcases hl with e|⟨g,e,k⟩
  .exact .inl (e ▸ hb)
  .rw[e]at hb;injection hb with hb;exact .inr (by omega)
 have m1:=m.ext hx;obtain⟨f,f1,f2⟩:=m1.seen;have hkg:=fD hg;have hcm:=m.uW;refine⟨bO m1.q hkg (λb hb hq=>m.a3 b hb hq),FW ho hn hy,⟨f,f1.keep (hkg.block _ f1.lt (λe=>m.a2 e)),f2⟩,m.mb0,m.a1,λe=>?_,λb hb hc=>?_,λb hb=>?_⟩
 .rcases hL mb e with h1|h1
  .exact m.a2 h1
  .have:=(hcm mb (.inl rfl)).1;omega
 .rcases hL b hc with h1|h1
  .exact m.a3 b hb h1
  .have:=(hcm b (.inr (.inl hb))).1;omega
 .have hlt:=ho.lt
  rcases hb with rfl|hb|hb
  .have:=hcm _ (.inl rfl);exact⟨by omega,this.2⟩
  .have:=hcm b (.inr (.inl hb));exact⟨by omega,this.2⟩
  .refine⟨(hlt b hb).2,?_⟩
   rcases hL b hb with h1|h1
   .exact(hcm b (.inr (.inr h1))).2
   .exact hP.new h1
theorem gD.mark{f:Value->Option Value}(m:gD pp h s w wr mb qv kv q B line)(hf:∀x:Nat,f (.int .i64 (x:Int))=if x∈line then some (.bool true)else none)
 (hM:gu prog 3 w2 mb (line.length+1) (upd (λ_ _=>Classical.propDecidable _) f (.int .i64 (i:Int)) (.bool true))) (hg:wr.grownBy w2 (some mb)):gD pp h s w w2 mb qv kv q B (line++[i]):=by
 have hk:=gJ hg;have hz:=hg.size;refine⟨bO m.q hk (λb hb e=>m.a1 (e ▸ hb)),bO m.k hk (λb hb e=>m.a2 (e ▸ hb)),⟨_,by rw[aj];exact hM,λx=>?_⟩,m.mb0,m.a1,m.a2,m.a3,λb hb=>⟨by have:=(m.uW b hb).1;omega,(m.uW b hb).2⟩⟩;by_cases e:x=i
 .subst e;rw[upd_same];simp
 .rw[upd_ne (by simp;omega),hf x];simp[e]
theorem gD.pop{g c:Nat}(m:gD pp h s w wr mb (.slice (some ⟨g,0,none⟩) (q++[i]).length c) kv (q++[i]) B line):gD pp h s w wr mb (.slice (some ⟨g,0,none⟩) q.length c) kv q B line:=by
 refine⟨?_,m.k,m.seen,m.mb0,m.a1,m.a2,m.a3,m.uW⟩;have:=Cx (k:=q.length) m.q (by simp);rw[kZ,List.take_append_of_le_length (by rw[bu];omega),cO (by rw[bu];omega)]at this;exact this
theorem gD.look{pp h:Nat}{s:iQ}{w wr:World}{mb:Nat}{qv kv:Value}{q B line:List Nat}(m:gD pp h s w wr mb qv kv q B line){x:Nat}(hx:x<1000000000)(W:World)(hW:W.heap[mb]?=wr.heap[mb]?):
 (Instr.lookup 187 (.map (some mb)) (.int .i64 (x:Int)) false).run prog W=.ok (.bool (decide (x∈line))) W:=by
 obtain⟨f,f1,f2⟩:=m.seen;obtain⟨kl,hkl⟩:=qj x hx;have:=(f1.keep hW).look oD underlying187 (Xw W) hkl false;rw[this,f2];by_cases e:x∈line <;> simp[e]
def Grow(s:iQ)(f:Nat)(s':iQ):Prop:=(∀N,f<N->N<=s.D.length->s'.D.length+miss N s'.cn<=s.D.length+miss N s.cn)/\(∀x,x<s.D.length->s.cn x=none->(s'.cn x).isSome->bz.born (vl s.D x)<=bz.born (vl s.D f))/\∀x,s.D.length<=x->x<s'.D.length->(s'.cn x).isSome
def qx(s:iQ)(f:Nat)(s':iQ):Prop:=(∀N,f<N->N<=s.D.length->s'.D.length+miss N s'.cn<=s.D.length+miss N s.cn)/\(∀x,x<s.D.length->s.cn x=none->(s'.cn x).isSome->bz.born (vl s.D x)<bz.born (vl s.D f))/\∀x,s.D.length<=x->x<s'.D.length->(s'.cn x).isSome
theorem qx.refl(s:iQ)(f:Nat):qx s f s:=⟨λ_ _ _=>ai _,λx _ h k=>(by rw[h]at k;cases k),λx a b=>absurd b (by omega)⟩
theorem qx.same{s1 s2:iQ}{f:Nat}(g:qx s f s1)(hD:s2.D=s1.D)(hc:s2.cn=s1.cn):qx s f s2:=⟨λN a b=>by rw[hD,hc];exact g.1 N a b,λx a b c=>g.2.1 x a b (by rw[<-hc];exact c),λx a b=>by rw[hc];exact g.2.2 x a (by rw[<-hD];exact b)⟩
def qH(D:dC)(cn:Nat->Option Nat)(left:Bool)(f:Nat):List Nat:=(opt D left f).map λx=>(cn x).getD 0
def mK(D:dC)(cn:Nat->Option Nat)(f:Nat)(left:Bool)(F:List Nat):Prop:=(∀x,x∈opt D left f->(cn x).isSome)/\∃line B,gN D f left (qH D cn left f) line B line.length/\vo D left B F
end
end Go.Proofs.YteknjeohbcgpdaaGreatDoor