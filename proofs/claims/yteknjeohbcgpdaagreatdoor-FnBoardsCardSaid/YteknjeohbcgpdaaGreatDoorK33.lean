/-
  Memory of the program's order: the list, the ranks, the nodes, the group. (5 texts.)
-/
import Derived.Test.YteknjeohbcgpdaaGreatDoorK30
set_option maxRecDepth 100000
namespace Go.Proofs.YteknjeohbcgpdaaGreatDoor
open Tryz
section
open Go.RowKit
open bO (dH Nd vl)
open Go.Sort (grow grow_grow alloc_eq_grow grow_empty)
def Bg(w w':World):Prop:=∃q os,w'=grow (w.drewN q) os
theorem Bg.refl(w:World):Bg w w:=⟨0,#[],by rw[grow_empty];rfl⟩
theorem Bg.drewN{w w1:World}(h:Bg w w1)(n:Nat):Bg w (w1.drewN n):=by
 obtain⟨q,os,rfl⟩:=h;exact⟨q+n,os,by rw[<-World.drewN_drewN];rfl⟩
theorem Bg.alloc{w w1:World}(h:Bg w w1)(X:Obj):Bg w (w1.alloc X):=by
 obtain⟨q,os,rfl⟩:=h;exact⟨q,os++#[X],by rw[alloc_eq_grow,grow_grow]⟩
theorem Bg.ext{w w1:World}(h:Bg w w1):Ext w w1:=by
 obtain⟨q,os,rfl⟩:=h;refine⟨rfl,rfl,rfl,?_,λk hk=>?_⟩
 .show w.heap.size<=(w.heap++os).size;rw[Array.size_append];omega
 .show(w.heap++os)[k]?=w.heap[k]?;rw[Array.getElem?_append_left hk]
theorem Re(p a b:List Nat):bO.cl (p++a) (p++b)=bO.cl a b:=by
 induction p with
 |nil=>rfl
 |cons x p ih=>simp[bO.cl,ih]
theorem Pw{a b:List Nat}{k:Nat}(h:a.take k=b.take k):bO.cl a b=bO.cl (a.drop k) (b.drop k):=by
 have e1:a=a.take k++a.drop k:=(iV k a).symm;have e2:b=a.take k++b.drop k:=by rw[h];exact(iV k b).symm
 conv=>lhs;rw[e1,e2]
 exact Re _ _ _
set_option maxHeartbeats 2000000 in
theorem lX(v u:Value)(a b:List Nat)(w:World)(hv:Ints w v (dD a))(hu:Ints w u (dD b))(ha:∀x,x∈a->x<900000000)(hb:∀x,x∈b->x<900000000):
 Calls prog 114 #[v,u] w λe w'=>e=.returned (.int .i64 (bO.cl a b))/\RD w w':=by
 obtain⟨av,cv,rfl,hv1,hv2,hv3⟩:=hv;obtain⟨au,cu,rfl,hu1,hu2,hu3⟩:=hu;rw[bJ]at hv1 hv2 hv3 hu1 hu2 hu3 ⊢;rw[bJ];go_enter Tryz.func114,Tryz.ntmps114
 go_wp2
 go_loopw [5,6,7,8,11] (λ_ _ _ _ ii wr=>∃k:Nat,k<=a.length/\ii=.int .i64 ((k:Nat):Int)/\RD w wr/\Hid (a.take k=b.take k)) (λ_ _ _ _ ii _=>a.length-(intOf ii).toNat)
 case atStart=>exact⟨0,aJ _,rfl,xQ _,by simp[Hid]⟩
 case round=>
  obtain⟨k,hk,rfl,⟨n,rfl⟩,HE⟩:=hrel;by_cases hlt:k<a.length
  .have h1:((k:Nat):Int)<((a.length:Nat):Int):=by omega
   obtain⟨b1,o1,rfl,hc1⟩:=hv3 (by omega);have hck:=hc1 k hlt;rw[gy hlt]at hck;have hax:=ha _ (ai hlt);by_cases hkb:k<b.length
   .have h2:¬(((b.length:Nat):Int)<=((k:Nat):Int)):=by omega
    obtain⟨b2,o2,rfl,hc2⟩:=hu3 (by omega);have Kn:=hc2 k hkb;rw[gy hkb]at Kn;have hbx:=hb _ (ai hkb);have HD:=aQ (Pw HE.out);have e1:a.drop k=a[k] :: a.drop (k+1):=lg hlt;have e2:b.drop k=b[k] :: b.drop (k+1):=lg hkb;have ht1:a.take (k+1)=a.take k++[a[k]]:=bg hlt;have ht2:b.take (k+1)=b.take k++[b[k]]:=bg hkb;obtain⟨x,hx⟩:∃x,x=a[k]:=⟨_,rfl⟩;obtain⟨y,hy⟩:∃y,y=b[k]:=⟨_,rfl⟩;rw[<-hx]at e1 ht1 hck hax;rw[<-hy]at e2 ht2 Kn hbx;have HEQ:=aQ (And.intro e1 (And.intro e2 (And.intro ht1 ht2)));clear hc1 hc2 e1 e2 ht1 ht2 hx hy;by_cases hxy:x=y
    .subst hxy
     have e0:Lib.compareInt (x:Int) (x:Int)=0:=(by simp[Lib.compareInt]);go_wp2_with (go_at_call 113;refine(Tryz.cmp_Compare_int _ _ _).mono ?_;rw[e0];rintro e w2 ⟨rfl,hw2⟩;subst hw2)
     go_roundw
     case rel=>exact⟨k+1,by omega,by go_num,⟨_,rfl⟩,aQ (by rw[HEQ.out.2.2.1,HEQ.out.2.2.2,HE.out])⟩
     case measure=>simp[intOf];omega
    .obtain⟨c,hc⟩:∃c,c=Lib.compareInt (x:Int) (y:Int):=⟨_,rfl⟩
     have hc0:(c == 0)=false:=(by rw[hc];unfold Lib.compareInt;simp;split <;> (try split)<;> omega);have HC:=aQ (show bO.cl a b=c by
      rw[HD.out,HEQ.out.1,HEQ.out.2.1,hc];simp only[bO.cl,Lib.compareInt];by_cases l1:x<y
      .rw[if_pos l1,if_pos (by omega)]
      .rw[if_neg l1,if_pos (show y<x by omega),if_neg (show ¬((x:Int)<(y:Int)) by omega),if_pos (show(x:Int) > (y:Int) by omega)])
     have HCE:=aQ hc;clear hc;go_wp2_with (go_at_call 113;refine(Tryz.cmp_Compare_int _ _ _).mono ?_;rw[<-HCE.out];rintro e w2 ⟨rfl,hw2⟩;subst hw2)
     go_ret
     exact⟨kH HC.out.symm,⟨_,rfl⟩⟩
   .have h2:((b.length:Nat):Int)<=((k:Nat):Int):=by omega
    have HD:=aQ (show bO.cl a b=1 by
     rw[Pw HE.out,List.drop_eq_nil_of_le (show b.length<=k by omega),lg hlt];rfl)
    clear hc1;go_wp2
    go_ret
    exact⟨kH HD.out.symm,⟨_,rfl⟩⟩
  .have h1:¬(((k:Nat):Int)<((a.length:Nat):Int)):=by omega
   have hke:k=a.length:=(by omega);subst hke;by_cases hlb:a.length<b.length
   .have h2:((a.length:Nat):Int)<((b.length:Nat):Int):=by omega
    have HD:=aQ (show bO.cl a b=-1 by
     rw[Pw HE.out,List.drop_eq_nil_of_le (ay _),lg hlb];rfl)
    go_wp2
    go_ret
    exact⟨kH HD.out.symm,⟨_,rfl⟩⟩
   .have h2:¬(((a.length:Nat):Int)<((b.length:Nat):Int)):=by omega
    have HD:=aQ (show bO.cl a b=0 by
     rw[Pw HE.out,List.drop_eq_nil_of_le (ay _),List.drop_eq_nil_of_le (show b.length<=a.length by omega)];rfl)
    go_wp2
    go_ret
    exact⟨kH HD.out.symm,⟨_,rfl⟩⟩
def orZ(x y:Int):Int:=if x≠0 then x else y
theorem Rc(b:Nat)(x y:Int)(w:World)(h0:w.cell? ⟨b,0,none⟩=some (.int .i64 x))(h1:w.cell? ⟨b,1,none⟩=some (.int .i64 y)):
 Calls prog 112 #[.slice (some ⟨b,0,none⟩) 2 2] w λe w'=>e=.returned (.int .i64 (orZ x y))/\RD w w':=by
 go_enter Tryz.func112,Tryz.ntmps112
 go_wp2
 go_loopw [5,8] (λ_ ii wr=>∃k:Nat,k<=2/\ii=.int .i64 ((k:Nat):Int)/\RD w wr/\Hid ((1<=k->x=0)/\(2<=k->y=0))) (λ_ ii _=>2-(intOf ii).toNat)
 case atStart=>exact⟨0,aJ _,rfl,xQ _,by simp[Hid]⟩
 case round=>
  obtain⟨k,hk,rfl,⟨n,rfl⟩,HE⟩:=hrel;rcases EZ hk with rfl|rfl|rfl
  .by_cases hx:x=0
   .subst hx
    go_wp2
    go_roundw
    case rel=>exact⟨1,by omega,by go_num,⟨_,rfl⟩,aQ ⟨by simp,λh=>by omega⟩⟩
    case measure=>simp[intOf]
   .have hx0:(x == 0)=false:=by simpa using hx
    have HX:=aQ hx;clear hx;go_wp2
    go_ret
    exact⟨kH (by unfold orZ;rw[if_pos HX.out]),⟨_,rfl⟩⟩
  .have HX:=aQ (HE.out.1 (by omega))
   by_cases hy:y=0
   .subst hy
    go_wp2
    go_roundw
    case rel=>exact⟨2,by omega,by go_num,⟨_,rfl⟩,aQ ⟨λ_=>HX.out,by simp⟩⟩
    case measure=>simp[intOf]
   .have hy0:(y == 0)=false:=by simpa using hy
    clear hy;go_wp2
    go_ret
    exact⟨kH (by unfold orZ;rw[if_neg (by simp[HX.out])]),⟨_,rfl⟩⟩
  .have HX:=aQ (And.intro (HE.out.1 (by omega)) (HE.out.2 (by omega)))
   go_wp2
   go_ret
   exact⟨kH (by unfold orZ;rw[if_neg (by simp[HX.out.1]),HX.out.2]),⟨_,rfl⟩⟩
def Tx:List Row:=[⟨0,[],7,[2]⟩,⟨1,[0],8,[6]⟩,⟨2,[1],9,[7]⟩,⟨3,[2],10,[8]⟩,⟨4,[],11,[0]⟩,⟨5,[3,4],12,[9,10]⟩,⟨6,[5],13,[11]⟩,⟨7,[],14,[2]⟩,⟨8,[7],15,[13]⟩,⟨9,[8],16,[14]⟩,⟨10,[9],17,[15]⟩,⟨11,[],18,[1]⟩,⟨12,[10,11],19,[16,17]⟩,⟨13,[12],20,[18]⟩,⟨14,[6,13],21,[12,19]⟩,⟨15,[14,14,0,1,2,3,4,5,6,7,8,9,10,11,12,13,14],6,[20]⟩]
set_option maxHeartbeats 2000000 in
theorem Mv(pb gb cb n x y:Nat)(bx by_:Nat)(pp:Nat)(w:World)(h0:w.cell? ⟨pb,0,none⟩=some (.pointer (some ⟨pp,0,none⟩)))(h2:w.cell? ⟨pp,2,none⟩=some (.slice (some ⟨gb,0,none⟩) n cb))(hn:n<=900000)(hx:x<n)(hy:y<n)(hbx:w.cell? ⟨gb,x,none⟩=some (.int .i64 (bx:Int)))(hby:w.cell? ⟨gb,y,none⟩=some (.int .i64 (by_:Int))):
 Calls prog 164 #[.int .i64 (x:Int),.int .i64 (y:Int),.pointer (some ⟨pb,0,none⟩)] w λe w'=>e=.returned (.int .i64 (Lib.compareInt (bx:Int) (by_:Int)))/\RD w w':=by
 go_enter Tryz.func164,Tryz.ntmps164
 go_upto_region 1 with fail
 refine bV (λW=>W.cell? ⟨pb,0,none⟩=some (.pointer (some ⟨pp,0,none⟩))/\W.cell? ⟨pp,2,none⟩=some (.slice (some ⟨gb,0,none⟩) n cb)/\W.cell? ⟨gb,x,none⟩=some (.int .i64 (bx:Int))/\W.cell? ⟨gb,y,none⟩=some (.int .i64 (by_:Int))) [14,15] Tx (by kernel_rfl) ⟨by kernel_rfl,by kernel_rfl,by kernel_rfl⟩ ⟨h0,h2,hbx,hby⟩ (λaz ah=>?_);(refine bT 0 az ah ?_;refine bT 1 az ah ?_;refine bT 2 az ah ?_;refine bT 3 az ah ?_;refine bT 4 az ah ?_;refine bT 5 az ah ?_;refine bT 6 az ah ?_;refine bT 7 az ah ?_;refine bT 8 az ah ?_;refine bT 9 az ah ?_;refine bT 10 az ah ?_;refine bT 11 az ah ?_;refine bT 12 az ah ?_;refine bT 13 az ah ?_);refine nU az [14,15] [_,_] ?_;clear az ah;go_wp2_with (go_at_call 113;refine(Tryz.cmp_Compare_int _ _ _).mono ?_;rintro e w2 ⟨rfl,hw2⟩;subst hw2)
 go_ret
 exact⟨rfl,⟨1,rfl⟩⟩
theorem new2_0(w:World)(x y:Value)(e:TypeId):(w.alloc (.cells #[x,y] e)).cell? ⟨w.heap.size,0,none⟩=some x:=(World.cell?_alloc_at (w:=w) #[x,y] e _ 0 rfl)
theorem new2_1(w:World)(x y:Value)(e:TypeId):(w.alloc (.cells #[x,y] e)).cell? ⟨w.heap.size,1,none⟩=some y:=(World.cell?_alloc_at (w:=w) #[x,y] e _ 1 rfl)
def Tj:List Row:=[⟨0,[],6,[2]⟩,⟨1,[0],7,[5]⟩,⟨2,[1],8,[6]⟩,⟨3,[],9,[3]⟩,⟨4,[3],10,[8]⟩,⟨5,[4],11,[9]⟩,⟨6,[2,5],12,[7,10]⟩,⟨7,[],13,[2]⟩,⟨8,[7],14,[12]⟩,⟨9,[8],15,[13]⟩,⟨10,[],16,[3]⟩,⟨11,[10],17,[15]⟩,⟨12,[11],18,[16]⟩,⟨13,[9,12,6],19,[14,17]⟩,⟨14,[6,13],20,[11,18]⟩,⟨15,[14,13],21,[19]⟩,⟨16,[15,15,0,1,2,3,4,5,6,7,8,9,10,11,12,13,14,15],5,[20]⟩]
set_option maxHeartbeats 2000000 in
theorem Mt(x y:Nat)(l1 r1 l2 r2:Value)(L1 R1 L2 R2:List Nat)(w:World)(hl1:Ints w l1 (dD L1))(hr1:Ints w r1 (dD R1))(hl2:Ints w l2 (dD L2))(hr2:Ints w r2 (dD R2))(b1:∀x,x∈L1->x<900000000)(b2:∀x,x∈R1->x<900000000)(b3:∀x,x∈L2->x<900000000)(b4:∀x,x∈R2->x<900000000):
 Calls prog 167 #[.agg #[.int .i64 (x:Int),l1,r1],.agg #[.int .i64 (y:Int),l2,r2]] w λe w'=>e=.returned (.int .i64 (bO.nc (L1,R1) (L2,R2)))/\Bg w w':=by
 obtain⟨a1,c1,rfl,-⟩:=id hl1;obtain⟨a2,c2,rfl,-⟩:=id hr1;obtain⟨a3,c3,rfl,-⟩:=id hl2;obtain⟨a4,c4,rfl,-⟩:=id hr2;rw[bJ]at hl1 hr1 hl2 hr2;simp only[bJ];go_enter Tryz.func167,Tryz.ntmps167
 go_upto_region 1 with fail
 have hG0:Bg w ((w.alloc (.cells #[.int .i64 (x:Int),.slice a1 L1.length c1,.slice a2 R1.length c2] 192)).alloc (.cells #[.int .i64 (y:Int),.slice a3 L2.length c3,.slice a4 R2.length c4] 192)):=((Bg.refl w).alloc _).alloc _;have hb1:((w.alloc (.cells #[.int .i64 (x:Int),.slice a1 L1.length c1,.slice a2 R1.length c2] 192)).alloc (.cells #[.int .i64 (y:Int),.slice a3 L2.length c3,.slice a4 R2.length c4] 192)).heap[w.heap.size]?=some (.cells #[.int .i64 (x:Int),.slice a1 L1.length c1,.slice a2 R1.length c2] 192 (0,0)):=by
  rw[Below.heap_alloc _ _ _ (by rw[eQ];omega)];exact heap_alloc_new w _
 have hb2:((w.alloc (.cells #[.int .i64 (x:Int),.slice a1 L1.length c1,.slice a2 R1.length c2] 192)).alloc (.cells #[.int .i64 (y:Int),.slice a3 L2.length c3,.slice a4 R2.length c4] 192)).heap[w.heap.size+1]?=some (.cells #[.int .i64 (y:Int),.slice a3 L2.length c3,.slice a4 R2.length c4] 192 (0,0)):=
  alloc_at (by rw[eQ])
 generalize (w.alloc (.cells #[.int .i64 (x:Int),.slice a1 L1.length c1,.slice a2 R1.length c2] 192)).alloc (.cells #[.int .i64 (y:Int),.slice a3 L2.length c3,.slice a4 R2.length c4] 192)=W0 at *;have hx0:=hG0.ext;have d1:=cell_of_row W0 w.heap.size 1 _ _ _ hb1;have d2:=cell_of_row W0 w.heap.size 2 _ _ _ hb1;have d3:=cell_of_row W0 (w.heap.size+1) 1 _ _ _ hb2;have d4:=cell_of_row W0 (w.heap.size+1) 2 _ _ _ hb2;have i1:=hl1.ext hx0;have i2:=hr1.ext hx0;have i3:=hl2.ext hx0;have i4:=hr2.ext hx0;refine bV (λW=>W.cell? ⟨w.heap.size,1,none⟩=some (.slice a1 L1.length c1)/\W.cell? ⟨w.heap.size,2,none⟩=some (.slice a2 R1.length c2)/\W.cell? ⟨w.heap.size+1,1,none⟩=some (.slice a3 L2.length c3)/\W.cell? ⟨w.heap.size+1,2,none⟩=some (.slice a4 R2.length c4)) [14,15,16] Tj (by kernel_rfl) ⟨by kernel_rfl,by kernel_rfl,by kernel_rfl⟩ ⟨d1,d2,d3,d4⟩ (λaz ah=>?_);(refine bT 0 az ah ?_;refine bT 1 az ah ?_;refine bT 2 az ah ?_;refine bT 3 az ah ?_;refine bT 4 az ah ?_;refine bT 5 az ah ?_;refine bT 7 az ah ?_;refine bT 8 az ah ?_;refine bT 9 az ah ?_;refine bT 10 az ah ?_;refine bT 11 az ah ?_;refine bT 12 az ah ?_);(refine nM az (i:=6) λK hK=>?_;go_simp);refine(lX _ _ L1 L2 _ (i1.ext (eU ⟨1,rfl⟩)) (i3.ext (eU ⟨1,rfl⟩)) b1 b3).mono ?_;rintro e w2 ⟨rfl,n2,rfl⟩;(refine hK.out _ _ (λ_=>?_) ?_)
 .exact ah
 clear hK K;(try simp only[nP]);(refine nM az (i:=13) λK hK=>?_;go_simp);refine(lX _ _ R1 R2 _ (i2.ext (eU ⟨1+n2,by rw[<-World.drewN_drewN]⟩)) (i4.ext (eU ⟨1+n2,by rw[<-World.drewN_drewN]⟩)) b2 b4).mono ?_;rintro e w3 ⟨rfl,n3,rfl⟩;(refine hK.out _ _ (λ_=>?_) ?_)
 .exact ah
 clear hK K;(try simp only[nP]);refine nU az [14,15,16] [_,_,_] ?_;clear az ah d1 d2 d3 d4 hb1 hb2;go_wp2_with (go_at_call 112;refine(Rc _ (bO.cl L1 L2) (bO.cl R1 R2) _ (new2_0 _ _ _ _) (new2_1 _ _ _ _)).mono ?_;rintro e w5 ⟨rfl,n5,rfl⟩)
 go_ret
 exact⟨rfl,((hG0.drewN (1+n2+n3)).alloc _).drewN n5⟩
end
section
open Go.RowKit
open bO (dH Nd vl)
open Go.Sort (grow PermIn SortedIn SWO)
variable {α:Type} {w:World} {base e g n cap size:Nat} {xs:List Value}
theorem yZ[Inhabited α](enc:α->Value)(h:w.ownsRow base e size (.slice (some ⟨g,0,none⟩) n cap) n xs)(d:Array α)(hd:d.size=xs.length)(m:Nat)(os:Array Obj):
 (grow (Go.Sort.putRow enc (Go.Sort.ahead w m) g 0 d) os).ownsRow base e size (.slice (some ⟨g,0,none⟩) n cap) n (d.toList.map enc)/\dX (λb=>b=g) w (grow (Go.Sort.putRow enc (Go.Sort.ahead w m) g 0 d) os):=by
 obtain⟨hlen,h⟩:=h;have hgl:g<w.heap.size:=by
  rcases h with⟨h,_⟩|⟨g',cap',cur,h1,h2,h3,_⟩
  .simp at h
  .simp only[Value.slice.injEq,bN,Addr.mk.injEq,and_true,true_and]at h1
   obtain⟨rfl,rfl⟩:=h1;exact bu h3
 have hsz:(Go.Sort.putRow enc (Go.Sort.ahead w m) g 0 d).heap.size=w.heap.size:=by rw[Go.Sort.size_putRow];rfl
 refine⟨⟨by rw[bD,Array.length_toList,hd,hlen],?_⟩,rfl,rfl,rfl,by simp[Go.Sort.grow,hsz],λk hk hn=>?_⟩
 .rcases h with⟨h,_⟩|⟨g',cap',cur,h1,h2,h3,h4,h5,h6,h7⟩
  .simp at h
  .simp only[Value.slice.injEq,bN,Addr.mk.injEq,and_true,true_and]at h1
   obtain⟨rfl,rfl⟩:=h1;refine .inr ⟨g,cap,Go.Sort.putCells enc 0 d cur,rfl,h2,?_,h4,h5,by simp[Go.Sort.putCells,h6],?_⟩
   .rw[xq _ _ (by rw[hsz];exact hgl)]
    exact xS _ _ _ h3
   .apply l6
    intro i;rw[il];by_cases c:i<n*size
    .rw[if_pos c,iW]
     have hc:i<cur.size:=(by rw[h6];exact bz c (gZ size h4));have hi:i<d.size:=(by rw[hd,hlen];exact c);rw[dm,iW,lh hi];simp only[Go.Sort.putCells,Array.getElem?_mapIdx,lh hc,jP];rw[if_pos (by simp;omega)];simp[hi]
    .rw[if_neg c,ek (by rw[bD,Array.length_toList,hd,hlen];omega)]
 .rw[xq _ _ (by rw[hsz];exact hk)]
  exact vv (Go.Sort.ahead w m) g k _ hn
theorem Dp[Inhabited α](enc:α->Value)(h:w.ownsRow base e size (.slice (some ⟨g,0,none⟩) n cap) n xs)(d:Array α)(hd:d.toList.map enc=xs):Go.Sort.Holds enc w g 0 d:=by
 intro j hj;have hl:=h.1;rw[jf];refine⟨?_,h.frozenAt j⟩;have hxl:xs.length=d.size:=by rw[<-hd];simp
 rw[h.cellAt j (by omega),<-hd,dm,iW,lh hj];simp[hj]
theorem Nt[Inhabited α](enc:α->List Value)(k:Nat)(hk:∀x,(enc x).length=k)(hk0:0<k)(d:Array α):(Go.Sort.flatK enc k d).toList=d.toList.flatMap enc:=by
 have hlen:∀l:List α,(l.flatMap enc).length=l.length*k:=by
  intro l
  induction l with
  |nil=>simp
  |cons x l ih=>rw[ji,aK,ih,hk,fQ,kS,Nat.one_mul];omega
 have hget:∀(l:List α) (t:Nat) (h:t<l.length*k),(l.flatMap enc)[t]?=(enc (l[t / k]'(Nat.div_lt_of_lt_mul (by rw[jg];exact h))))[t % k]?:=by
  intro l
  induction l with
  |nil=>intro t h;simp at h
  |cons x l ih=>
   intro t h;rw[ji];by_cases c:t<k
   .rw[dN (by rw[hk];exact c)]
    have e1:t / k=0:=Nat.div_eq_of_lt c;have e2:t % k=t:=Nat.mod_eq_of_lt c;simp only[e1,e2,List.getElem_cons_zero]
   .have hge:k<=t:=by omega
    obtain⟨u,rfl⟩:∃u,t=u+k:=⟨t-k,by omega⟩;rw[dW (by rw[hk];omega),hk,qj];have hu:u<l.length*k:=(by rw[fQ,kS,Nat.one_mul]at h;omega);rw[ih u hu];have e1:(u+k) / k=u / k+1:=Nat.add_div_right u hk0;have e2:(u+k) % k=u % k:=Nat.add_mod_right u k;simp only[e1,e2,List.getElem_cons_succ]
 apply l6;intro t;by_cases c:t<d.size*k
 .have hd:t / k<d.size:=Nat.div_lt_of_lt_mul (by rw[jg];exact c)
  have hm:t % k<(enc d[t / k]).length:=by rw[hk];exact Nat.mod_lt _ hk0
  rw[hget d.toList t (by simpa using c),iW];simp only[Go.Sort.flatK,Array.getElem?_map];rw[lh (by simpa using c)];simp[hd,hm]
 .rw[ek (by simp[hlen];omega),ek (by rw[hlen];simp;omega)]
theorem Jk[Inhabited (Fin n)]{lt:Fin n->Fin n->Bool}{d':Array (Fin n)}(hp:PermIn 0 n (Array.ofFn (n:=n) id) d')(hs:SortedIn lt 0 n d'):d'.toList.Perm (List.finRange n)/\d'.toList.Pairwise (λx y=>lt y x=false):=by
 obtain⟨h1,_,h3⟩:=hp;have hz:(Array.ofFn (n:=n) (id:Fin n->Fin n)).size=n:=by simp
 rw[hz]at h1;constructor
 .have e1:d'.extract 0 n=d':=Array.extract_eq_self_of_le (by omega)
  have e2:(Array.ofFn (n:=n) (id:Fin n->Fin n)).extract 0 n=Array.ofFn (n:=n) (id:Fin n->Fin n):=Array.extract_eq_self_of_le (by omega);rw[e1,e2]at h3;have e3:(Array.ofFn (n:=n) (id:Fin n->Fin n)).toList=List.finRange n:=by
   rw[Array.toList_ofFn];rfl
  rw[e3]at h3;exact h3
 .rw[dx]
  intro i j hi hj hij;simp only[Array.length_toList]at hi hj;have:=hs i j (aJ _) hij (by omega)
  simpa [hi,hj]using this
theorem SQ(f:Fin n->Nat):SWO (λx y:Fin n=>decide (Lib.compareInt (f x:Int) (f y:Int)<0)):=by
 have e:∀a b:Nat,decide (Lib.compareInt (a:Int) (b:Int)<0)=decide (a<b):=λa b=>by
  unfold Lib.compareInt;by_cases h1:a<b
  .rw[if_pos (by omega)];simp[h1]
  .rw[if_neg (by omega)]
   split <;> simp[h1]
 refine⟨λx=>by simp[e],λx y z h k=>?_,λx y z h k=>?_⟩
 .simp only[e,decide_eq_true_eq]at *;omega
 .simp only[e,decide_eq_false_iff_not]at *;omega
theorem abt(f:Fin n->Nd):SWO (λx y:Fin n=>decide (bO.nc (f x) (f y)<0)):=by
 refine⟨λx=>by simp[bO.GV],λx y z h k=>?_,λx y z h k=>?_⟩
 .simp only[decide_eq_true_eq]at *;exact bO.ve h k
 .simp only[decide_eq_false_iff_not]at *
  intro c;by_cases e:bO.nc (f x) (f y)=0
  .rw[bO.zl e]at c;exact k c
  .have h1:bO.nc (f y) (f x)<0:=by rw[bO.Aq];omega
   exact k (bO.ve h1 c)
end
section
open Go.RowKit
open bO (dH Nd vl)
open Go.Sort (grow PermIn SortedIn SWO)
theorem VW(args:Array Value)(w:World):(callFunc 164 args).run prog w=.ok (.enter 164 args) w:=by kernel_rfl
theorem VV(args:Array Value)(w:World):(callFunc 167 args).run prog w=.ok (.enter 167 args) w:=by kernel_rfl
theorem Gz(pp h:Nat)(s:iH)(pb base g cap:Nat)(Ls:List Nat)(w:World)(hP:dz w pp h s)(hown:w.ownsRow base 3 1 (.slice (some ⟨g,0,none⟩) Ls.length cap) Ls.length ((dD Ls).map (Value.int .i64)))(hL:∀x,x∈Ls->x<s.D.length)(hl0:0<Ls.length)(hll:Ls.length<=1000000)
 (jF:w.cell? ⟨pb,0,none⟩=some (.pointer (some ⟨pp,0,none⟩))) (hgp:g≠pb) (hgo:¬jN pp h s g) (hgs:¬s.S g):
 Calls prog 163 #[.slice (some ⟨g,0,none⟩) Ls.length cap,.func (.func 164) #[] #[.pointer (some ⟨pb,0,none⟩)]] w λe w'=>
  e=.returned (.tuple #[])/\∃L0:List Nat,L0.Perm Ls/\L0.Pairwise (λa b=>bO.born (vl s.D a)<=bO.born (vl s.D b))/\w'.ownsRow base 3 1 (.slice (some ⟨g,0,none⟩) Ls.length cap) Ls.length ((dD L0).map (Value.int .i64))/\dX (λb=>b=g) w w':=by
 let I:Inhabited (Fin Ls.length):=⟨⟨0,hl0⟩⟩
 let enc:Fin Ls.length->Value:=λi=>.int .i64 (Ls[i]:Int)
 let bf:Fin Ls.length->Nat:=λi=>bO.born (vl s.D Ls[i])
 let cf:Fin Ls.length->Fin Ls.length->Int:=λx y=>Lib.compareInt (bf x:Int) (bf y:Int)
 have hd:(Array.ofFn (n:=Ls.length) (id:Fin Ls.length->Fin Ls.length)).toList.map enc=(dD Ls).map (Value.int .i64):=by
  rw[Array.toList_ofFn];apply lD
  .simp[dD]
  .intro i h1 h2;simp[enc,dD]
 have hsz:(Array.ofFn (n:=Ls.length) (id:Fin Ls.length->Fin Ls.length)).size=Ls.length:=by simp
 have hsl:=Tryz.uW enc (λx=>rfl) cf (SQ bf) 164 #[.pointer (some ⟨pb,0,none⟩)] g 0 cap (Array.ofFn (n:=Ls.length) id) w VW
  (λm os dk hs x y=>by
   obtain⟨-,hk⟩:=yZ enc hown dk (by rw[hs,hsz];simp[dD]) m os;have hPk:=hP.keep hk (λb hb e=>hgo (e ▸ hb)) (λb hb e=>hgs (e ▸ hb));obtain⟨gb,cb,c2,hn1,hn2,cx⟩:=hPk.AY (hL _ (ai x.2));obtain⟨gb',cb',c2',-,-,cy⟩:=hPk.AY (hL _ (ai y.2));rw[c2]at c2';simp only[bN,Value.slice.injEq,Addr.mk.injEq,true_and,and_true]at c2';obtain⟨rfl,rfl⟩:=c2';have hb:=(World.cell?_of_block (hk.block pb (lt_of_cell jF) (λe=>hgp e.symm))).trans jF;refine(Mv pb gb cb s.D.length Ls[x] Ls[y] (bf x) (bf y) pp _ hb c2 hP.small (hL _ (ai x.2)) (hL _ (ai y.2)) cx cy).mono ?_;rintro e w' ⟨rfl,q,rfl⟩;exact⟨rfl,q,#[],by rw[Go.Sort.grow_empty];rfl⟩)
  (Dp enc hown _ hd) (hown.lt g rfl).2 (by rw[hsz];omega)
 rw[hsz]at hsl;refine hsl.mono ?_;rintro e w' ⟨rfl,d',m,os,hp,hs,hw⟩;obtain⟨p1,p2⟩:=Jk hp hs;have hds:d'.size=Ls.length:=by have:=hp.1;simpa using this
 obtain⟨ho,hk⟩:=yZ enc hown d' (by rw[hds];simp[dD]) m os;refine⟨rfl,d'.toList.map (λi=>Ls[i]),?_,?_,?_,?_⟩
 .have:=p1.map (λi:Fin Ls.length=>Ls[i])
  refine this.trans (List.Perm.of_eq ?_);apply lD
  .simp
  .intro i h1 h2;simp
 .rw[jh]
  refine p2.imp λ{a b} hab=>?_
  simp only[Go.Proofs.ltOf,decide_eq_false_iff_not,cf,bf]at hab;unfold Lib.compareInt at hab;by_cases c:bO.born (vl s.D Ls[b])<bO.born (vl s.D Ls[a])
  .rw[if_pos (by omega)]at hab;omega
  .omega
 .rw[hw]
  have e1:(dD (d'.toList.map (λi=>Ls[i]))).map (Value.int .i64)=d'.toList.map enc:=by simp[dD,enc]
  rw[e1];exact ho
 .rw[hw];exact hk
structure En where
 id:Nat
 lv:Value
 rv:Value
 l:List Nat
 r:List Nat
def En.cells(e:En):List Value:=[.int .i64 (e.id:Int),e.lv,e.rv]
def En.nd(e:En):Nd:=(e.l,e.r)
def En.blk(e:En)(b:Nat):Prop:=e.lv.ownBlock=some b\/e.rv.ownBlock=some b
def Eu(base:Nat)(w:World)(e:En):Prop:=w.ownsRow base 3 1 e.lv e.l.length ((dD e.l).map (Value.int .i64))/\w.ownsRow base 3 1 e.rv e.r.length ((dD e.r).map (Value.int .i64))/\(∀x,x∈e.l->x<900000000)/\(∀x,x∈e.r->x<900000000)/\e.l.length<=1000000/\e.r.length<=1000000
theorem Eu.keep{base:Nat}{w w':World}{e:En}{G:Nat->Prop}(h:Eu base w e)(hk:dX G w w')(hG:∀b,e.blk b->¬G b):Eu base w' e:=
 ⟨bI h.1 hk (λb hb=>hG b (.inl hb)),bI h.2.1 hk (λb hb=>hG b (.inr hb)),h.2.2⟩
theorem yS(base g cap:Nat)(G:List En)(w:World)(hown:w.ownsRow base 192 3 (.slice (some ⟨g,0,none⟩) G.length cap) G.length (G.flatMap En.cells))(hG:∀e,e∈G->Eu base w e)(hg0:∀e,e∈G->¬e.blk g)(hl0:0<G.length)(hll:G.length<=1000000):
 Calls prog 166 #[.slice (some ⟨g,0,none⟩) G.length cap,.func (.func 167) #[] #[]] w λe w'=>
  e=.returned (.tuple #[])/\∃G':List En,G'.Perm G/\G'.Pairwise (λa b=>¬bO.nc b.nd a.nd<0)/\w'.ownsRow base 192 3 (.slice (some ⟨g,0,none⟩) G.length cap) G.length (G'.flatMap En.cells)/\dX (λb=>b=g) w w':=by
 let I:Inhabited (Fin G.length):=⟨⟨0,hl0⟩⟩
 let enc:Fin G.length->List Value:=λi=>G[i].cells
 let cf:Fin G.length->Fin G.length->Int:=λx y=>bO.nc G[x].nd G[y].nd
 have hk3:∀x,(enc x).length=3:=λx=>rfl
 have hfl:∀d:Array (Fin G.length),(Go.Sort.flatK enc 3 d).toList=(d.toList.map (λi=>G[i])).flatMap En.cells:=λd=>by
  rw[Nt enc 3 hk3 (by omega),List.flatMap_map]
 have hG0:(Array.ofFn (n:=G.length) (id:Fin G.length->Fin G.length)).toList.map (λi=>G[i])=G:=by
  rw[Array.toList_ofFn];apply lD
  .simp
  .intro i h1 h2;simp
 have hsz:(Array.ofFn (n:=G.length) (id:Fin G.length->Fin G.length)).size=G.length:=by simp
 have hcell:∀x:Fin G.length,∀v,v∈enc x->v.oneCell'=true:=λx v hv=>by
  obtain⟨h1,h2,_⟩:=hG _ (ai x.2);obtain⟨a1,c1,e1,_,_⟩:=bH h1;obtain⟨a2,c2,e2,_,_⟩:=bH h2;have:v=.int .i64 (G[x].id:Int)\/v=G[x].lv\/v=G[x].rv:=by simpa [enc,En.cells]using hv
  rcases this with rfl|rfl|rfl
  .rfl
  .rw[show G[x].lv=_ from e1];rfl
  .rw[show G[x].rv=_ from e2];rfl
 have hxl:∀l:List En,(l.flatMap En.cells).length=l.length*3:=by
  intro l
  induction l with
  |nil=>simp
  |cons x l ih=>rw[ji,aK,ih];simp[En.cells];omega
 have hsl:=Tryz.slices_SortFunc 3 (λw=>by kernel_rfl) (λw=>by kernel_rfl) enc hk3 hcell cf (abt λi=>G[i].nd) 167 #[] g 0 cap (Array.ofFn (n:=G.length) id) w VV
  (λm os dk hs x y=>by
   obtain⟨-,hk⟩:=yZ (α:=Value) id hown (Go.Sort.flatK enc 3 dk) (by rw[Go.Sort.size_flatK,hs,hsz,hxl]) m os;obtain⟨x1,x2,x3,x4,x5,x6⟩:=(hG _ (ai x.2)).keep hk (λb hb e=>hg0 _ (ai x.2) (e ▸ hb));obtain⟨y1,y2,y3,y4,y5,y6⟩:=(hG _ (ai y.2)).keep hk (λb hb e=>hg0 _ (ai y.2) (e ▸ hb));have h:=Mt G[x].id G[y].id G[x].lv G[x].rv G[y].lv G[y].rv G[x].l G[x].r G[y].l G[y].r _ (Ints.eD x1 (by rw[bJ];exact dn x5 (by decide))) (Ints.eD x2 (by rw[bJ];exact dn x6 (by decide))) (Ints.eD y1 (by rw[bJ];exact dn y5 (by decide))) (Ints.eD y2 (by rw[bJ];exact dn y6 (by decide))) x3 x4 y3 y4;refine h.mono ?_;rintro e w' ⟨rfl,q,os',rfl⟩;exact⟨rfl,q,os',rfl⟩)
  (Dp (α:=Value) id hown _ (by rw[List.map_id,hfl,hG0])) (hown.lt g rfl).2 (by rw[hsz];omega)
 rw[hsz]at hsl;refine hsl.mono ?_;rintro e w' ⟨rfl,d',m,os,hp,hs,hw⟩;obtain⟨p1,p2⟩:=Jk hp hs;have hds:d'.size=G.length:=by have:=hp.1;simpa using this
 obtain⟨ho,hk⟩:=yZ (α:=Value) id hown (Go.Sort.flatK enc 3 d') (by rw[Go.Sort.size_flatK,hds,hxl]) m os;rw[List.map_id,hfl]at ho;refine⟨rfl,d'.toList.map (λi=>G[i]),?_,?_,?_,?_⟩
 .have:=p1.map (λi:Fin G.length=>G[i])
  refine this.trans (List.Perm.of_eq ?_);apply lD
  .simp
  .intro i h1 h2;simp
 .rw[jh]
  exact p2.imp λ{a b} hab=>by simpa [Go.Proofs.ltOf,cf]using hab
 .rw[hw];exact ho
 .rw[hw];exact hk
end
section
open bO
variable {D F:dH} {root b j n:Nat} {idx at_ rest from_:List Nat}
structure oD(D:dH)(root:Nat)(F:dH)(idx at_:List Nat)(b:Nat)(rest:List Nat):Prop where
 form:nO D root F idx at_ b
 nd:(idx++rest).Nodup
 mem:∀j,j∈idx++rest↔bO.Reach D root j
 sorted:rest.Pairwise (λx y=>born (vl D x)<=born (vl D y))
 low:∀j,j∈rest->b<=born (vl D j)
theorem nO.TA{b':Nat}(h:nO D root F idx at_ b)(hb:∀j,bO.Reach D root j->(born (vl D j)<b↔born (vl D j)<b')):nO D root F idx at_ b':=
 ⟨h.len,h.atl,h.nd,λj=>by rw[h.mem];exact⟨λ⟨a,c⟩=>⟨a,(hb j a).1 c⟩,λ⟨a,c⟩=>⟨a,(hb j a).2 c⟩⟩,h.place,h.node,h.sorted⟩
theorem oD.start{D:dH}{root:Nat}{L:List Nat}(hn:L.Nodup)(hm:∀j,j∈L↔bO.Reach D root j)(hs:L.Pairwise (λx y=>born (vl D x)<=born (vl D y))):oD D root [] [] (List.replicate (root+1) 0) 0 L:=
 ⟨nO.start D root,by simpa using hn,by simpa using hm,hs,λ_ _=>aJ _⟩
theorem oD.stage(h:oD D root F idx at_ b rest)(h0:0<rest.length):oD D root F idx at_ (born (vl D rest[0])) rest:=by
 have hge:∀j,j∈rest->born (vl D rest[0])<=born (vl D j):=λj hj=>by
  obtain⟨i,hi,rfl⟩:=aW.1 hj;by_cases e:i=0
  .subst e;exact ay _
  .exact dx.1 h.sorted 0 i h0 hi (by omega)
 refine⟨h.form.TA λj hj=>?_,h.nd,h.mem,h.sorted,hge⟩;have h1:=h.low _ (ai h0);rcases bq.1 ((h.mem j).2 hj)with hm|hm
 .have:=((h.form.mem j).1 hm).2;omega
 .have:=hge j hm;have:=h.low j hm;omega
theorem oD.reach(h:oD D root F idx at_ b rest)(hj:j∈rest):bO.Reach D root j:=(h.mem j).1 (bq.2 (.inr hj))
theorem oD.opts(g:bO.Good D)(h:oD D root F idx at_ b rest)(hj:j∈rest)(hb:born (vl D j)=b)(side:Bool):
 (∀x,x∈opt D side j->x∈idx)/\((opt D side j).map λx=>at_.getD x 0).Nodup/\(opt D side j).Nodup:=by
 have hr:=h.reach hj;have hp:=λx hx=>h.form.pos g.wf (side:=side) (x:=x) hr (Nat.le_of_eq hb) hx
 have hn:(opt D side j).Nodup:=by
  unfold opt;cases e:D[j]? with
  |none=>exact List.nodup_nil
  |some nd=>
   have ha:=g.Cf _ (jr e);cases side
   .exact lU ha.2
   .exact lU ha.1
 refine⟨λx hx=>?_,?_,hn⟩
 .obtain⟨p,hp,e,_⟩:=hp x hx
  rw[<-e];exact ai hp
 .rw[List.Nodup,jh]
  refine iq (λ{a c} ha hc hne e=>?_) hn;obtain⟨p,hp1,e1,e2⟩:=hp a ha;obtain⟨q,hq1,e3,e4⟩:=hp c hc;rw[e2,e4]at e;subst e;exact hne (by rw[<-e1,<-e3])
theorem Rn(h:nO D root F idx at_ b){x:Nat}(hx:x∈idx):at_.getD x 0<idx.length:=by
 obtain⟨p,hp,rfl⟩:=aW.1 hx;have:=h.place p hp;rw[aj,this];exact hp
def qC(at_:List Nat)(from_:List Nat)(n root:Nat):List Nat:=(List.range (root+1)).map λy=>if y∈from_ then n+from_.idxOf y else at_.getD y 0
theorem NL(at_ from_:List Nat)(n root:Nat):(qC at_ from_ n root).length=root+1:=by simp[qC]
theorem A8(hn:from_.Nodup)(hl:∀y,y∈from_->y<root+1)(j:Nat)(hj:j<from_.length):(qC at_ from_ n root)[from_[j]]?=some (n+j):=by
 have h1:=hl _ (ai hj);unfold qC;rw[dm,List.getElem?_range h1];simp only[jP,ai hj,if_true];rw[hn.idxOf_getElem j hj]
theorem yH(ha:at_.length=root+1)(y:Nat)(hy:y ∉ from_):(qC at_ from_ n root)[y]?=at_[y]?:=by
 unfold qC;rw[dm];by_cases c:y<root+1
 .rw[List.getElem?_range c]
  simp only[jP,hy,if_false];rw[aa (by omega)];simp[List.getD,show y<at_.length by omega]
 .rw[ek (by simp;omega),ek (by omega)];rfl
theorem oD.next{D:dH}(g:bO.Good D){root:Nat}(hroot:root<D.length){F:dH}{idx at_:List Nat}{b:Nat}{rest from_:List Nat}{q:Nat}(h:oD D root F idx at_ b rest)(hq:q<=rest.length)(hb:∀j (hj:j<rest.length),j<q->born (vl D rest[j])=b)(hq':∀hl:q<rest.length,born (vl D rest[q])≠b)
 (hp:from_.Perm (rest.take q)) (hs:from_.Pairwise (λx y=>¬nc (Xn D at_ y) (Xn D at_ x)<0)):oD D root (F++from_.map (Xn D at_)) (idx++from_) (qC at_ from_ F.length root) (b+1) (rest.drop q)/\from_.Nodup/\(∀y,y∈from_->y<root+1)/\(∀y,y∈from_->y ∉ idx):=by
 have hrd:rest=rest.take q++rest.drop q:=(iV q rest).symm;have hnr:rest.Nodup:=(l5.1 h.nd).2.1;have akf:∀a,a∈idx->∀c,c∈rest->a≠c:=(l5.1 h.nd).2.2;have hfr:∀y,y∈from_->y∈rest:=λy hy=>dY (hp.mem_iff.1 hy)
 have hfb:∀y,y∈from_->born (vl D y)=b:=λy hy=>by
  obtain⟨j,hj,rfl⟩:=aW.1 (hp.mem_iff.1 hy);rw[dI]at hj;rw[List.getElem_take];exact hb j (by omega) (by omega)
 have hdb:∀y,y∈rest.drop q->b<born (vl D y):=λy hy=>by
  obtain⟨j,hj,rfl⟩:=aW.1 hy;rw[iB]at hj;rw[rT];have oH:q<rest.length:=by omega
  have h1:=h.low _ (ai oH);have h2:=hq' oH;by_cases e:j=0
  .subst e;simp only[mG];omega
  .have:=dx.1 h.sorted q (q+j) oH (by omega) (by omega);omega
 have hfn:from_.Nodup:=hp.symm.nodup (hnr.sublist (List.take_sublist _ _));have hrt:∀y,y∈from_->y<root+1:=λy hy=>by have:=mP g.wf (h.reach (hfr y hy));omega
 have hlD:∀y,y∈from_->y<D.length:=λy hy=>by have:=hrt y hy;omega
 have hL:xM D root at_ b from_ (root+1):=by
  refine⟨λj=>⟨λhj=>⟨hrt j hj,h.reach (hfr j hj),hfb j hj⟩,λ⟨_,hr,hjb⟩=>?_⟩,?_⟩
  .rcases bq.1 ((h.mem j).2 hr)with hm|hm
   .have:=((h.form.mem j).1 hm).2;omega
   .rw[hrd]at hm
    rcases bq.1 hm with hm|hm
    .exact hp.mem_iff.2 hm
    .have:=hdb j hm;omega
  .refine iq (λ{x y} hx hy hxy=>?_) (hs.and hfn)
   obtain⟨h1,h2⟩:=hxy;have h3:¬nc (Xn D at_ x) (Xn D at_ y)=0:=λe=>h2 (h.form.inj g (h.reach (hfr x hx)) (Nat.le_of_eq (hfb x hx)) (h.reach (hfr y hy)) (Nat.le_of_eq (hfb y hy)) (hlD x hx) (hlD y hy) (zl e))
   have h4:=Aq (Xn D at_ x) (Xn D at_ y);omega
 refine⟨⟨h.form.next g hL (NL _ _ _ _) (λj hj=>A8 hfn hrt j hj) (λy hy=>yH h.form.atl y hy),?_,λj=>?_,h.sorted.sublist (List.drop_sublist _ _),λj hj=>hdb j hj⟩,hfn,hrt,λy hy hi=>akf y hi y (hfr y hy) rfl⟩
 .have MU:((idx++from_)++rest.drop q).Perm (idx++rest):=by
   rw[dA];refine List.Perm.append_left idx ?_
   conv=>rhs;rw[hrd]
   exact hp.append_right _
  exact MU.symm.nodup h.nd
 .rw[<-h.mem j]
  have MU:((idx++from_)++rest.drop q).Perm (idx++rest):=by
   rw[dA];refine List.Perm.append_left idx ?_
   conv=>rhs;rw[hrd]
   exact hp.append_right _
  exact MU.mem_iff
theorem oD.last{D:dH}(g:bO.Good D){root:Nat}(hr:root<D.length){F:dH}{idx at_:List Nat}{b:Nat}(h:oD D root F idx at_ b []):fC F/\Same (dZ F) (vl D root):=by
 refine nO.last g hr (h.form.TA λj hj=>?_);have h1:=(h.mem j).2 hj;rw[fV]at h1;have h2:=((h.form.mem j).1 h1).2;rcases C8 g.wf hj with rfl|h3
 .omega
 .omega
end
section
open Go.RowKit
open bO (dH Nd vl)
def En.two(e:En):List Value:=[e.lv,e.rv]
structure OM(w wr:World)(lb lc rb:Nat)(nv gv:Value)(Lc:List Nat)(mr:Nat)(fm:Value->Option Value)(nodes group V:List En):Prop where
 list:wr.ownsRow w.heap.size 3 1 (.slice (some ⟨lb,0,none⟩) Lc.length lc) Lc.length ((dD Lc).map (Value.int .i64))
 rank:gz prog 3 wr rb mr fm
 XD:w.heap.size<=rb
 node:wr.ownsRow w.heap.size 89 2 nv nodes.length (nodes.flatMap En.two)
 IW:wr.ownsRow w.heap.size 192 3 gv group.length (group.flatMap En.cells)
 uk:∀e,e∈V->Eu w.heap.size wr e
 apart:V.Pairwise (λa b=>∀x,a.blk x->¬b.blk x)
 self:∀e,e∈V->∀b,e.lv.ownBlock=some b->e.rv.ownBlock≠some b
 far:∀e,e∈V->∀x,e.blk x->x≠lb/\x≠rb/\nv.ownBlock≠some x/\gv.ownBlock≠some x
 a1:lb≠rb
 a2:nv.ownBlock≠some lb/\nv.ownBlock≠some rb
 a3:gv.ownBlock≠some lb/\gv.ownBlock≠some rb
 a4:∀b,nv.ownBlock=some b->gv.ownBlock≠some b
 ext:Ext w wr
section
variable {w wr w2 w3 wa:World} {lb lc rb mr:Nat} {nv gv gv' nv':Value} {Lc:List Nat} {fm:Value->Option Value} {nodes group V:List En}
variable {e:En} {n:Nat} {ys:List Value}
theorem Eu.ext{base:Nat}(h:Eu base wr e)(hx:Ext wr w2):Eu base w2 e:=h.keep (fq (F:=λ_=>False) hx) λ_ _=>id
theorem Eu.lt{base:Nat}{e:En}(h:Eu base wr e){b:Nat}(hb:e.blk b):base<=b/\b<wr.heap.size:=by
 rcases hb with hb|hb
 .exact h.1.lt b hb
 .exact h.2.1.lt b hb
theorem OM.ext'(m:OM w wr lb lc rb nv gv Lc mr fm nodes group V)(hx:Ext wr w2):OM w w2 lb lc rb nv gv Lc mr fm nodes group V:=
 ⟨bY m.list hx,m.rank.keep (hx.block _ m.rank.lt),m.XD,bY m.node hx,bY m.IW hx,λe he=>(m.uk e he).ext hx,m.apart,m.self,m.far,m.a1,m.a2,m.a3,m.a4,ax m.ext hx⟩
theorem OM.MG(m:OM w wr lb lc rb nv gv Lc mr fm nodes group V):w.heap.size<=lb/\lb<wr.heap.size:=m.list.lt lb rfl
theorem OM.akV(m:OM w wr lb lc rb nv gv Lc mr fm nodes group V):OM w (wr.alloc (.cells #[] 192)) lb lc rb nv (.slice (some ⟨wr.heap.size,0,none⟩) 0 0) Lc mr fm nodes [] V:=by
 have hx:Ext wr (wr.alloc (.cells #[] 192)):=bS (Below.refl _ _) _;have m1:=m.ext' hx;have hz:=m.ext.size;have hl:=m.MG;have hr:=m.rank.lt;have he:∀e,e∈V->∀x,e.blk x->x<wr.heap.size:=λe he x hx=>((m.uk e he).lt hx).2
 refine⟨m1.list,m1.rank,m1.XD,m1.node,?_,m1.uk,m1.apart,m1.self,λe h x hx=>⟨(m.far e h x hx).1,(m.far e h x hx).2.1,(m.far e h x hx).2.2.1,?_⟩,m.a1,m.a2,⟨?_,?_⟩,λb hb=>?_,m1.ext⟩
 .refine⟨by simp,.inr ⟨wr.heap.size,0,#[],rfl,hz,heap_alloc_new wr _,ay _,aJ _,by simp,by simp⟩⟩
 .have:=he e h x hx;simp[Value.ownBlock];omega
 .simp[Value.ownBlock];omega
 .simp[Value.ownBlock];omega
 .have:=(m.node.lt b hb).2;simp[Value.ownBlock];omega
theorem OM.adm(m:OM w wr lb lc rb nv gv Lc mr fm nodes group V)(hx:Ext wr w2)(he:Eu wr.heap.size w2 e)(hs:∀b,e.lv.ownBlock=some b->e.rv.ownBlock≠some b):OM w w2 lb lc rb nv gv Lc mr fm nodes group (V++[e]):=by
 have m1:=m.ext' hx;have hz:=m.ext.size;have hl:=m.MG;have hr:=m.rank.lt;have hlt:∀a,a∈V->∀x,a.blk x->x<wr.heap.size:=λa ha x hx=>((m.uk a ha).lt hx).2
 refine⟨m1.list,m1.rank,m1.XD,m1.node,m1.IW,λa ha=>?_,?_,λa ha=>?_,λa ha x hx'=>?_,m.a1,m.a2,m.a3,m.a4,m1.ext⟩
 .rcases bq.1 ha with ha|ha
  .exact m1.uk a ha
  .simp at ha;subst ha;exact⟨jS he.1 hz,jS he.2.1 hz,he.2.2⟩
 .rw[oo]
  refine⟨m.apart,by simp,λa ha b hb x hx1 hx2=>?_⟩;simp at hb;subst hb;have:=hlt a ha x hx1;have:=(he.lt hx2).1;omega
 .rcases bq.1 ha with ha|ha
  .exact m.self a ha
  .simp at ha;subst ha;exact hs
 .rcases bq.1 ha with ha|ha
  .exact m.far a ha x hx'
  .simp at ha;subst ha
   have h1:=(he.lt hx').1;refine⟨by omega,by omega,λe=>?_,λe=>?_⟩
   .have:=(m.node.lt x e).2;omega
   .have:=(m.IW.lt x e).2;omega
theorem OM.akW(m:OM w wr lb lc rb nv gv Lc mr fm nodes group V)(hx:Ext wr wa)(hg:wa.grownBy w2 gv.ownBlock)(ho:w2.ownsRow w.heap.size 192 3 gv' n ys)(hn:n=(group++[e]).length)(hy:ys=(group++[e]).flatMap En.cells)(hl:kR wa gv gv'):OM w w2 lb lc rb nv gv' Lc mr fm nodes (group++[e]) V:=by
 have m1:=m.ext' hx;have hk:=fH hg;have hz:=hx.size;have hL:∀b,gv'.ownBlock=some b->gv.ownBlock=some b\/wr.heap.size<=b:=λb hb=>by
  rcases hl with e|⟨g,e,k⟩
  .exact .inl (e ▸ hb)
  .rw[e]at hb;injection hb with hb;exact .inr (by omega)
 have hlb:=m.MG;have hr:=m.rank.lt;subst hn hy;refine⟨bI m1.list hk (λb hb e=>m.a3.1 (by simp only[Value.ownBlock,bN]at hb;rw[hb];exact e)),m1.rank.keep (hk.block _ m1.rank.lt (λe=>m.a3.2 e)),m.XD,bI m1.node hk (λb hb e=>m.a4 b hb e),ho,λa ha=>(m1.uk a ha).keep hk (λb hb e=>(m.far a ha b hb).2.2.2 e),m.apart,m.self,λa ha x hx'=>⟨(m.far a ha x hx').1,(m.far a ha x hx').2.1,(m.far a ha x hx').2.2.1,λe=>?_⟩,m.a1,m.a2,⟨λe=>?_,λe=>?_⟩,λb hb e=>?_,dS m1.ext hg (λb hb=>(m1.IW.lt b hb).1)⟩
 .rcases hL x e with h|h
  .exact(m.far a ha x hx').2.2.2 h
  .have:=((m.uk a ha).lt hx').2;omega
 .rcases hL lb e with h|h
  .exact m.a3.1 h
  .omega
 .rcases hL rb e with h|h
  .exact m.a3.2 h
  .omega
 .rcases hL b e with h|h
  .exact m.a4 b hb h
  .have:=(m.node.lt b hb).2;omega
theorem OM.aa6{g c:Nat}{G':List En}(m:OM w wr lb lc rb nv (.slice (some ⟨g,0,none⟩) group.length c) Lc mr fm nodes group (nodes++group))(hp:G'.Perm group)(ho:w2.ownsRow w.heap.size 192 3 (.slice (some ⟨g,0,none⟩) group.length c) group.length (G'.flatMap En.cells))(hk:dX (λb=>b=g) wr w2):OM w w2 lb lc rb nv (.slice (some ⟨g,0,none⟩) G'.length c) Lc mr fm nodes G' (nodes++G'):=by
 have hl:=hp.length_eq;have MU:(nodes++G').Perm (nodes++group):=List.Perm.append_left _ hp;have hgb:(Value.slice (some ⟨g,0,none⟩) group.length c).ownBlock=some g:=rfl;have akb:∀e,e∈nodes++group->∀x,e.blk x->¬x=g:=λe he x hx h=>(m.far e he x hx).2.2.2 (by rw[h];rfl)
 have hgw:=(m.IW.lt g rfl);refine⟨bI m.list hk (λb hb e=>?_),m.rank.keep (hk.block _ m.rank.lt (λe=>m.a3.2 (by rw[e];rfl))),m.XD,bI m.node hk (λb hb e=>m.a4 b hb (by rw[e];rfl)),by rw[hl];exact ho,λe he=>(m.uk e (MU.mem_iff.1 he)).keep hk (akb e (MU.mem_iff.1 he)),?_,λe he=>m.self e (MU.mem_iff.1 he),λe he=>m.far e (MU.mem_iff.1 he),m.a1,m.a2,m.a3,m.a4,?_⟩
 .simp only[Value.ownBlock,bN]at hb
  exact m.a3.1 (by show some g=some lb;rw[<-e,hb])
 .exact(MU.pairwise_iff (λ{a b} h x hx hy=>h x hy hx)).2 m.apart
 .exact kK m.ext hk (λx hx=>by omega)
theorem OM.aeC(m:OM w wr lb lc rb nv gv Lc mr fm nodes group V){k:Nat}(hk:k<Lc.length)(x:Nat):OM w (wr.setCell ⟨lb,k,none⟩ (.int .i64 (x:Int))) lb lc rb nv gv (Lc.set k x) mr fm nodes group V:=by
 have hs:dX (λb=>b=lb) wr (wr.setCell ⟨lb,k,none⟩ (.int .i64 (x:Int))):=dV (p:=⟨lb,k,none⟩);have hl:=m.MG;refine⟨?_,m.rank.keep (hs.block _ m.rank.lt (λe=>m.a1 e.symm)),m.XD,bI m.node hs (λb hb e=>m.a2.1 (e ▸ hb)),bI m.IW hs (λb hb e=>m.a3.1 (e ▸ hb)),λe he=>(m.uk e he).keep hs (λb hb h=>(m.far e he b hb).1 h),m.apart,m.self,m.far,m.a1,m.a2,m.a3,m.a4,kK m.ext hs (λb hb=>by omega)⟩;have h:=yY (k:=k) m.list hk (x:Int);have e:(dD Lc).set k (x:Int)=dD (Lc.set k x):=by simp[dD,oq]
 rw[e]at h;rw[eO];exact h
theorem OM.aes(m:OM w wr lb lc rb nv gv Lc mr fm nodes group V){LA:Value->Option Value}{mr':Nat}(hM:gz prog 3 w2 rb mr' LA)(hg:wr.grownBy w2 (some rb)):OM w w2 lb lc rb nv gv Lc mr' LA nodes group V:=by
 have hs:=gJ hg;have hr:=m.XD;refine⟨bI m.list hs (λb hb e=>m.a1 (by simp only[Value.ownBlock,bN]at hb;rw[hb];exact e)),hM,m.XD,bI m.node hs (λb hb e=>m.a2.2 (e ▸ hb)),bI m.IW hs (λb hb e=>m.a3.2 (e ▸ hb)),λe he=>(m.uk e he).keep hs (λb hb h=>(m.far e he b hb).2.1 h),m.apart,m.self,m.far,m.a1,m.a2,m.a3,m.a4,kK m.ext hs (λb hb=>by omega)⟩
theorem OM.aeB(m:OM w wr lb lc rb nv gv Lc mr fm nodes group V)(hx:Ext wr wa)(hg:wa.grownBy w2 nv.ownBlock)(ho:w2.ownsRow w.heap.size 89 2 nv' n ys)(hn:n=(nodes++[e]).length)(hy:ys=(nodes++[e]).flatMap En.two)(hl:kR wa nv nv'):OM w w2 lb lc rb nv' gv Lc mr fm (nodes++[e]) group V:=by
 have m1:=m.ext' hx;have hk:=fH hg;have hz:=hx.size;have hL:∀b,nv'.ownBlock=some b->nv.ownBlock=some b\/wr.heap.size<=b:=λb hb=>by
  rcases hl with e|⟨g,e,k⟩
  .exact .inl (e ▸ hb)
  .rw[e]at hb;injection hb with hb;exact .inr (by omega)
 have hlb:=m.MG;have hr:=m.rank.lt;subst hn hy;refine⟨bI m1.list hk (λb hb e=>m.a2.1 (by simp only[Value.ownBlock,bN]at hb;rw[hb];exact e)),m1.rank.keep (hk.block _ m1.rank.lt (λe=>m.a2.2 e)),m.XD,ho,bI m1.IW hk (λb hb e=>m.a4 b e hb),λa ha=>(m1.uk a ha).keep hk (λb hb e=>(m.far a ha b hb).2.2.1 e),m.apart,m.self,λa ha x hx'=>⟨(m.far a ha x hx').1,(m.far a ha x hx').2.1,λe=>?_,(m.far a ha x hx').2.2.2⟩,m.a1,⟨λe=>?_,λe=>?_⟩,m.a3,λb hb e=>?_,dS m1.ext hg (λb hb=>(m1.node.lt b hb).1)⟩
 .rcases hL x e with h|h
  .exact(m.far a ha x hx').2.2.1 h
  .have:=((m.uk a ha).lt hx').2;omega
 .rcases hL lb e with h|h
  .exact m.a2.1 h
  .omega
 .rcases hL rb e with h|h
  .exact m.a2.2 h
  .omega
 .rcases hL b hb with h|h
  .exact m.a4 b h e
  .have:=(m.IW.lt b e).2;omega
end
end
end Go.Proofs.YteknjeohbcgpdaaGreatDoor