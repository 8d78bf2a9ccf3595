/- 24 -/
import Derived.Test.YtplgooajigigkaaGreatDoorK23
set_option maxRecDepth 100000
set_option maxHeartbeats 4000000
namespace Go.Proofs.YtplgooajigigkaaGreatDoor
open Tryz
section
open Go.RowKit
open bE (dh Nd vl)
open Go.Sort (grow grow_grow alloc_eq_grow grow_empty)
def CW(w w':World):Prop:=∃q os,w'=grow (w.drewN q) os
theorem CW.refl(w:World):CW w w:=⟨0,#[],by rw[grow_empty];rfl⟩
theorem CW.drewN{w w1:World}(h:CW w w1)(n:Nat):CW w (w1.drewN n):=by
 obtain⟨q,os,rfl⟩:=h;exact⟨q+n,os,by rw[<-World.drewN_drewN];rfl⟩
theorem CW.alloc{w w1:World}(h:CW w w1)(X:Obj):CW w (w1.alloc X):=by
 obtain⟨q,os,rfl⟩:=h;exact⟨q,os++#[X],by rw[alloc_eq_grow,grow_grow]⟩
theorem CW.ext{w w1:World}(h:CW w w1):Ext w w1:=by
 obtain⟨q,os,rfl⟩:=h;refine⟨rfl,rfl,rfl,?_,λk hk=>?_⟩
 .show w.heap.size<=(w.heap++os).size;rw[Array.size_append];omega
 .show(w.heap++os)[k]?=w.heap[k]?;rw[Array.getElem?_append_left hk]
theorem TQ(p a b:List Nat):bE.cl (p++a) (p++b)=bE.cl a b:=by
 induction p with
 |nil=>rfl
 |cons x p ih=>simp[bE.cl,ih]
theorem Rv{a b:List Nat}{k:Nat}(h:a.take k=b.take k):bE.cl a b=bE.cl (a.drop k) (b.drop k):=by
 have e1:a=a.take k++a.drop k:=(kX k a).symm;have e2:b=a.take k++b.drop k:=by rw[h];exact(kX k b).symm
 conv=>lhs;rw[e1,e2]
 exact TQ _ _ _
theorem nI(v u:Value)(a b:List Nat)(w:World)(hv:Ints w v (dB a))(hu:Ints w u (dB b))(ha:∀x,x∈a->x<900000000)(hb:∀x,x∈b->x<900000000):
 Calls prog 103 #[v,u] w λe w'=>e=.returned (.int .i64 (bE.cl a b))/\RD w w':=by
 obtain⟨av,cv,rfl,hv1,hv2,hv3⟩:=hv;obtain⟨au,cu,rfl,hu1,hu2,hu3⟩:=hu;rw[bG]at hv1 hv2 hv3 hu1 hu2 hu3 ⊢;rw[bG];go_enter Tryz.func103,Tryz.ntmps103
 go_wp2
 go_loopw [5,6,7,8,11] (λ_ _ _ _ ii wr=>∃k:Nat,k<=a.length/\ii=.int .i64 ((k:Nat):Int)/\RD w wr/\Hid (a.take k=b.take k)) (λ_ _ _ _ ii _=>a.length-(intOf ii).toNat)
 case atStart=>exact⟨0,aU _,rfl,uX _,by simp[Hid]⟩
 case round=>
  obtain⟨k,hk,rfl,⟨n,rfl⟩,HE⟩:=hrel;by_cases hlt:k<a.length
  .have h1:((k:Nat):Int)<((a.length:Nat):Int):=by omega
   obtain⟨b1,o1,rfl,hc1⟩:=hv3 (by omega);have hck:=hc1 k hlt;rw[iA hlt]at hck;have hax:=ha _ (ai hlt);by_cases hkb:k<b.length
   .have h2:¬(((b.length:Nat):Int)<=((k:Nat):Int)):=by omega
    obtain⟨b2,o2,rfl,hc2⟩:=hu3 (by omega);have Mc:=hc2 k hkb;rw[iA hkb]at Mc;have hbx:=hb _ (ai hkb);have HD:=aW (Rv HE.out);have e1:a.drop k=a[k] :: a.drop (k+1):=kR hlt;have e2:b.drop k=b[k] :: b.drop (k+1):=kR hkb;have ht1:a.take (k+1)=a.take k++[a[k]]:=bJ hlt;have ht2:b.take (k+1)=b.take k++[b[k]]:=bJ hkb;obtain⟨x,hx⟩:=fu (a[k]);obtain⟨y,hy⟩:=fu (b[k]);rw[<-hx]at e1 ht1 hck hax;rw[<-hy]at e2 ht2 Mc hbx;have Y1:=Ap e1 e2 ht1 ht2;clear hc1 hc2 e1 e2 ht1 ht2 hx hy;by_cases hxy:x=y
    .subst hxy
     have e0:Lib.compareInt (x:Int) (x:Int)=0:=(by simp[Lib.compareInt]);go_wp2_with (go_at_call 102;refine(Tryz.cmp_Compare_int _ _ _).mono ?_;rw[e0];rintro e w2 ⟨rfl,hw2⟩;subst hw2)
     go_roundw
     case rel=>exact⟨k+1,by omega,by go_num,⟨_,rfl⟩,aW (by rw[Y1.out.2.2.1,Y1.out.2.2.2,HE.out])⟩
     case measure=>simp[intOf];omega
    .obtain⟨c,hc⟩:=fu (Lib.compareInt (x:Int) (y:Int))
     have hc0:(c == 0)=false:=(by rw[hc];unfold Lib.compareInt;simp;split <;> (try split)<;> omega);have HC:=aW (show bE.cl a b=c by
      rw[HD.out,Y1.out.1,Y1.out.2.1,hc];simp only[bE.cl,Lib.compareInt];by_cases l1:x<y
      .rw[if_pos l1,if_pos (by omega)]
      .rw[if_neg l1,if_pos (show y<x by omega),if_neg (show ¬((x:Int)<(y:Int)) by omega),if_pos (show(x:Int) > (y:Int) by omega)])
     have HCE:=aW hc;clear hc;go_wp2_with (go_at_call 102;refine(Tryz.cmp_Compare_int _ _ _).mono ?_;rw[<-HCE.out];rintro e w2 ⟨rfl,hw2⟩;subst hw2)
     go_ret
     exact⟨iW HC.out.symm,⟨_,rfl⟩⟩
   .have h2:((b.length:Nat):Int)<=((k:Nat):Int):=by omega
    have HD:=aW (show bE.cl a b=1 by
     rw[Rv HE.out,List.drop_eq_nil_of_le (show b.length<=k by omega),kR hlt];rfl)
    clear hc1;go_wp2
    go_ret
    exact⟨iW HD.out.symm,⟨_,rfl⟩⟩
  .have h1:¬(((k:Nat):Int)<((a.length:Nat):Int)):=by omega
   have hke:k=a.length:=(by omega);subst hke;by_cases hlb:a.length<b.length
   .have h2:((a.length:Nat):Int)<((b.length:Nat):Int):=by omega
    have HD:=aW (show bE.cl a b=-1 by
     rw[Rv HE.out,List.drop_eq_nil_of_le (aJ _),kR hlb];rfl)
    go_wp2
    go_ret
    exact⟨iW HD.out.symm,⟨_,rfl⟩⟩
   .have h2:¬(((a.length:Nat):Int)<((b.length:Nat):Int)):=by omega
    have HD:=aW (show bE.cl a b=0 by
     rw[Rv HE.out,List.drop_eq_nil_of_le (aJ _),List.drop_eq_nil_of_le (show b.length<=a.length by omega)];rfl)
    go_wp2
    go_ret
    exact⟨iW HD.out.symm,⟨_,rfl⟩⟩
def orZ(x y:Int):Int:=if x≠0 then x else y
theorem TP(b:Nat)(x y:Int)(w:World)(h0:w.cell? ⟨b,0,none⟩=some (.int .i64 x))(h1:w.cell? ⟨b,1,none⟩=some (.int .i64 y)):
 Calls prog 101 #[.slice (some ⟨b,0,none⟩) 2 2] w λe w'=>e=.returned (.int .i64 (orZ x y))/\RD w w':=by
 go_enter Tryz.func101,Tryz.ntmps101
 go_wp2
 go_loopw [5,8] (λ_ ii wr=>∃k:Nat,k<=2/\ii=.int .i64 ((k:Nat):Int)/\RD w wr/\Hid ((1<=k->x=0)/\(2<=k->y=0))) (λ_ ii _=>2-(intOf ii).toNat)
 case atStart=>exact⟨0,aU _,rfl,uX _,by simp[Hid]⟩
 case round=>
  obtain⟨k,hk,rfl,⟨n,rfl⟩,HE⟩:=hrel;rcases Ha hk with rfl|rfl|rfl
  .by_cases hx:x=0
   .subst hx
    go_wp2
    go_roundw
    case rel=>exact⟨1,by omega,by go_num,⟨_,rfl⟩,aW ⟨by simp,λh=>by omega⟩⟩
    case measure=>simp[intOf]
   .have hx0:(x == 0)=false:=by simpa using hx
    have HX:=aW hx;clear hx;go_wp2
    go_ret
    exact⟨iW (by unfold orZ;rw[if_pos HX.out]),⟨_,rfl⟩⟩
  .have HX:=aW (HE.out.1 (by omega))
   by_cases hy:y=0
   .subst hy
    go_wp2
    go_roundw
    case rel=>exact⟨2,by omega,by go_num,⟨_,rfl⟩,aW ⟨λ_=>HX.out,by simp⟩⟩
    case measure=>simp[intOf]
   .have hy0:(y == 0)=false:=by simpa using hy
    clear hy;go_wp2
    go_ret
    exact⟨iW (by unfold orZ;rw[if_neg (by simp[HX.out])]),⟨_,rfl⟩⟩
  .have HX:=jm (HE.out.1 (by omega)) (HE.out.2 (by omega))
   go_wp2
   go_ret
   exact⟨iW (by unfold orZ;rw[if_neg (by simp[HX.out.1]),HX.out.2]),⟨_,rfl⟩⟩
def Vw:List Row:=[⟨0,[],7,[2]⟩,⟨1,[0],8,[6]⟩,⟨2,[1],9,[7]⟩,⟨3,[2],10,[8]⟩,⟨4,[],11,[0]⟩,⟨5,[3,4],12,[9,10]⟩,⟨6,[5],13,[11]⟩,⟨7,[],14,[2]⟩,⟨8,[7],15,[13]⟩,⟨9,[8],16,[14]⟩,⟨10,[9],17,[15]⟩,⟨11,[],18,[1]⟩,⟨12,[10,11],19,[16,17]⟩,⟨13,[12],20,[18]⟩,⟨14,[6,13],21,[12,19]⟩,⟨15,[14,14,0,1,2,3,4,5,6,7,8,9,10,11,12,13,14],6,[20]⟩]
theorem NV(pb gb cb n x y:Nat)(bx by_:Nat)(pp:Nat)(w:World)(h0:w.cell? ⟨pb,0,none⟩=some (.pointer (some ⟨pp,0,none⟩)))(h2:w.cell? ⟨pp,2,none⟩=some (.slice (some ⟨gb,0,none⟩) n cb))(hn:n<=900000)(hx:x<n)(hy:y<n)(hbx:w.cell? ⟨gb,x,none⟩=some (.int .i64 (bx:Int)))(hby:w.cell? ⟨gb,y,none⟩=some (.int .i64 (by_:Int))):
 Calls prog 168 #[.int .i64 (x:Int),.int .i64 (y:Int),.pointer (some ⟨pb,0,none⟩)] w λe w'=>e=.returned (.int .i64 (Lib.compareInt (bx:Int) (by_:Int)))/\RD w w':=by
 go_enter Tryz.func168,Tryz.ntmps168
 go_upto_region 1 with fail
 refine oJ (λW=>W.cell? ⟨pb,0,none⟩=some (.pointer (some ⟨pp,0,none⟩))/\W.cell? ⟨pp,2,none⟩=some (.slice (some ⟨gb,0,none⟩) n cb)/\W.cell? ⟨gb,x,none⟩=some (.int .i64 (bx:Int))/\W.cell? ⟨gb,y,none⟩=some (.int .i64 (by_:Int))) [14,15] Vw ⟨h0,h2,hbx,hby⟩ (λaj ae=>?_);(refine bP 0 aj ae ?_;refine bP 1 aj ae ?_;refine bP 2 aj ae ?_;refine bP 3 aj ae ?_;refine bP 4 aj ae ?_;refine bP 5 aj ae ?_;refine bP 6 aj ae ?_;refine bP 7 aj ae ?_;refine bP 8 aj ae ?_;refine bP 9 aj ae ?_;refine bP 10 aj ae ?_;refine bP 11 aj ae ?_;refine bP 12 aj ae ?_;refine bP 13 aj ae ?_);refine nQ aj [14,15] [_,_] ?_;clear aj ae;go_wp2_with (go_at_call 102;refine(Tryz.cmp_Compare_int _ _ _).mono ?_;rintro e w2 ⟨rfl,hw2⟩;subst hw2)
 go_ret
 exact⟨rfl,⟨1,rfl⟩⟩
theorem new2_0(w:World)(x y:Value)(e:TypeId):(w.alloc (.cells #[x,y] e)).cell? ⟨w.heap.size,0,none⟩=some x:=(World.cell?_alloc_at (w:=w) #[x,y] e _ 0 rfl)
theorem new2_1(w:World)(x y:Value)(e:TypeId):(w.alloc (.cells #[x,y] e)).cell? ⟨w.heap.size,1,none⟩=some y:=(World.cell?_alloc_at (w:=w) #[x,y] e _ 1 rfl)
def Vn:List Row:=[⟨0,[],6,[2]⟩,⟨1,[0],7,[5]⟩,⟨2,[1],8,[6]⟩,⟨3,[],9,[3]⟩,⟨4,[3],10,[8]⟩,⟨5,[4],11,[9]⟩,⟨6,[2,5],12,[7,10]⟩,⟨7,[],13,[2]⟩,⟨8,[7],14,[12]⟩,⟨9,[8],15,[13]⟩,⟨10,[],16,[3]⟩,⟨11,[10],17,[15]⟩,⟨12,[11],18,[16]⟩,⟨13,[9,12,6],19,[14,17]⟩,⟨14,[6,13],20,[11,18]⟩,⟨15,[14,13],21,[19]⟩,⟨16,[15,15,0,1,2,3,4,5,6,7,8,9,10,11,12,13,14,15],5,[20]⟩]
theorem NU(x y:Nat)(l1 r1 l2 r2:Value)(L1 R1 L2 R2:List Nat)(w:World)(hl1:Ints w l1 (dB L1))(hr1:Ints w r1 (dB R1))(hl2:Ints w l2 (dB L2))(hr2:Ints w r2 (dB R2))(b1:∀x,x∈L1->x<900000000)(b2:∀x,x∈R1->x<900000000)(b3:∀x,x∈L2->x<900000000)(b4:∀x,x∈R2->x<900000000):
 Calls prog 171 #[.agg #[.int .i64 (x:Int),l1,r1],.agg #[.int .i64 (y:Int),l2,r2]] w λe w'=>e=.returned (.int .i64 (bE.nc (L1,R1) (L2,R2)))/\CW w w':=by
 obtain⟨a1,c1,rfl,-⟩:=id hl1;obtain⟨a2,c2,rfl,-⟩:=id hr1;obtain⟨a3,c3,rfl,-⟩:=id hl2;obtain⟨a4,c4,rfl,-⟩:=id hr2;rw[bG]at hl1 hr1 hl2 hr2;simp only[bG];go_enter Tryz.func171,Tryz.ntmps171
 go_upto_region 1 with fail
 have hG0:CW w ((w.alloc (.cells #[.int .i64 (x:Int),.slice a1 L1.length c1,.slice a2 R1.length c2] 201)).alloc (.cells #[.int .i64 (y:Int),.slice a3 L2.length c3,.slice a4 R2.length c4] 201)):=((CW.refl w).alloc _).alloc _;have hb1:((w.alloc (.cells #[.int .i64 (x:Int),.slice a1 L1.length c1,.slice a2 R1.length c2] 201)).alloc (.cells #[.int .i64 (y:Int),.slice a3 L2.length c3,.slice a4 R2.length c4] 201)).heap[w.heap.size]?=some (.cells #[.int .i64 (x:Int),.slice a1 L1.length c1,.slice a2 R1.length c2] 201 (0,0)):=by
  rw[jo _ _ _ (by rw[fU];omega)];exact eu w _
 have hb2:((w.alloc (.cells #[.int .i64 (x:Int),.slice a1 L1.length c1,.slice a2 R1.length c2] 201)).alloc (.cells #[.int .i64 (y:Int),.slice a3 L2.length c3,.slice a4 R2.length c4] 201)).heap[w.heap.size+1]?=some (.cells #[.int .i64 (y:Int),.slice a3 L2.length c3,.slice a4 R2.length c4] 201 (0,0)):=
  alloc_at (by rw[fU])
 generalize (w.alloc (.cells #[.int .i64 (x:Int),.slice a1 L1.length c1,.slice a2 R1.length c2] 201)).alloc (.cells #[.int .i64 (y:Int),.slice a3 L2.length c3,.slice a4 R2.length c4] 201)=W0 at *;have hx0:=hG0.ext;have d1:=bQ W0 w.heap.size 1 _ _ _ hb1;have d2:=bQ W0 w.heap.size 2 _ _ _ hb1;have d3:=bQ W0 (w.heap.size+1) 1 _ _ _ hb2;have d4:=bQ W0 (w.heap.size+1) 2 _ _ _ hb2;have i1:=hl1.ext hx0;have i2:=hr1.ext hx0;have i3:=hl2.ext hx0;have i4:=hr2.ext hx0;refine oJ (λW=>W.cell? ⟨w.heap.size,1,none⟩=some (.slice a1 L1.length c1)/\W.cell? ⟨w.heap.size,2,none⟩=some (.slice a2 R1.length c2)/\W.cell? ⟨w.heap.size+1,1,none⟩=some (.slice a3 L2.length c3)/\W.cell? ⟨w.heap.size+1,2,none⟩=some (.slice a4 R2.length c4)) [14,15,16] Vn ⟨d1,d2,d3,d4⟩ (λaj ae=>?_);(refine bP 0 aj ae ?_;refine bP 1 aj ae ?_;refine bP 2 aj ae ?_;refine bP 3 aj ae ?_;refine bP 4 aj ae ?_;refine bP 5 aj ae ?_;refine bP 7 aj ae ?_;refine bP 8 aj ae ?_;refine bP 9 aj ae ?_;refine bP 10 aj ae ?_;refine bP 11 aj ae ?_;refine bP 12 aj ae ?_);(refine jv aj (i:=6) λK hK=>?_;go_simp);refine(nI _ _ L1 L2 _ (i1.ext (dQ ⟨1,rfl⟩)) (i3.ext (dQ ⟨1,rfl⟩)) b1 b3).mono ?_;rintro e w2 ⟨rfl,n2,rfl⟩;(refine hK.out _ _ (λ_=>?_) ?_)
 .exact ae
 clear hK K;(try simp only[nP]);(refine jv aj (i:=13) λK hK=>?_;go_simp);refine(nI _ _ R1 R2 _ (i2.ext (dQ ⟨1+n2,by rw[<-World.drewN_drewN]⟩)) (i4.ext (dQ ⟨1+n2,by rw[<-World.drewN_drewN]⟩)) b2 b4).mono ?_;rintro e w3 ⟨rfl,n3,rfl⟩;(refine hK.out _ _ (λ_=>?_) ?_)
 .exact ae
 clear hK K;(try simp only[nP]);refine nQ aj [14,15,16] [_,_,_] ?_;clear aj ae d1 d2 d3 d4 hb1 hb2;go_wp2_with (go_at_call 101;refine(TP _ (bE.cl L1 L2) (bE.cl R1 R2) _ (new2_0 _ _ _ _) (new2_1 _ _ _ _)).mono ?_;rintro e w5 ⟨rfl,n5,rfl⟩)
 go_ret
 exact⟨rfl,((hG0.drewN (1+n2+n3)).alloc _).drewN n5⟩
end
section
open Go.RowKit
open bE (dh Nd vl)
open Go.Sort (grow PermIn SortedIn SWO)
variable {α:Type} {w:World} {base e g n cap size:Nat} {xs:List Value}
theorem A8[Inhabited α](enc:α->Value)(h:w.ownsRow base e size (.slice (some ⟨g,0,none⟩) n cap) n xs)(d:Array α)(hd:d.size=xs.length)(m:Nat)(os:Array Obj):
 (grow (Go.Sort.putRow enc (Go.Sort.ahead w m) g 0 d) os).ownsRow base e size (.slice (some ⟨g,0,none⟩) n cap) n (d.toList.map enc)/\fJ (λb=>b=g) w (grow (Go.Sort.putRow enc (Go.Sort.ahead w m) g 0 d) os):=by
 obtain⟨hlen,h⟩:=h;have hgl:g<w.heap.size:=by
  rcases h with⟨h,_⟩|⟨g',cap',cur,h1,h2,h3,_⟩
  .simp at h
  .simp only[il,bU,Addr.mk.injEq,and_true,true_and]at h1
   obtain⟨rfl,rfl⟩:=h1;exact bW h3
 have hsz:(Go.Sort.putRow enc (Go.Sort.ahead w m) g 0 d).heap.size=w.heap.size:=by rw[Go.Sort.size_putRow];rfl
 refine⟨⟨by rw[bK,Array.length_toList,hd,hlen],?_⟩,rfl,rfl,rfl,by simp[Go.Sort.grow,hsz],λk hk hn=>?_⟩
 .rcases h with⟨h,_⟩|⟨g',cap',cur,h1,h2,h3,h4,h5,h6,h7⟩
  .simp at h
  .simp only[il,bU,Addr.mk.injEq,and_true,true_and]at h1
   obtain⟨rfl,rfl⟩:=h1;refine .inr ⟨g,cap,Go.Sort.putCells enc 0 d cur,rfl,h2,?_,h4,h5,by simp[Go.Sort.putCells,h6],?_⟩
   .rw[zf _ _ (by rw[hsz];exact hgl)]
    exact zH _ _ _ h3
   .apply qA
    intro i;rw[pF];by_cases c:i<n*size
    .rw[if_pos c,kZ]
     have hc:i<cur.size:=(by rw[h6];exact bg c (jC size h4));have hi:i<d.size:=(by rw[hd,hlen];exact c);rw[ek,kZ,p9 hi];simp only[Go.Sort.putCells,Array.getElem?_mapIdx,p9 hc,Option.map_some];rw[if_pos (by simp;omega)];simp[hi]
    .rw[if_neg c,kY (by rw[bK,Array.length_toList,hd,hlen];omega)]
 .rw[zf _ _ (by rw[hsz];exact hk)]
  exact xY (Go.Sort.ahead w m) g k _ hn
theorem EN[Inhabited α](enc:α->Value)(h:w.ownsRow base e size (.slice (some ⟨g,0,none⟩) n cap) n xs)(d:Array α)(hd:d.toList.map enc=xs):Go.Sort.Holds enc w g 0 d:=by
 intro j hj;have hl:=h.1;rw[fI];refine⟨?_,h.frozenAt j⟩;have hxl:xs.length=d.size:=by rw[<-hd];simp
 rw[h.cellAt j (by omega),<-hd,ek,kZ,p9 hj];simp[hj]
theorem Pw[Inhabited α](enc:α->List Value)(k:Nat)(hk:∀x,(enc x).length=k)(hk0:0<k)(d:Array α):(Go.Sort.flatK enc k d).toList=d.toList.flatMap enc:=by
 have hlen:∀l:List α,(l.flatMap enc).length=l.length*k:=by
  intro l
  induction l with
  |nil=>simp
  |cons x l ih=>rw[jZ,bu,ih,hk,gI,rW,Nat.one_mul];omega
 have hget:∀(l:List α) (t:Nat) (h:t<l.length*k),(l.flatMap enc)[t]?=(enc (l[t / k]'(Nat.div_lt_of_lt_mul (by rw[iY];exact h))))[t % k]?:=by
  intro l
  induction l with
  |nil=>intro t h;simp at h
  |cons x l ih=>
   intro t h;rw[jZ];by_cases c:t<k
   .rw[dN (by rw[hk];exact c)]
    have e1:t / k=0:=Nat.div_eq_of_lt c;have e2:t % k=t:=Nat.mod_eq_of_lt c;simp only[e1,e2,jG]
   .have hge:k<=t:=by omega
    obtain⟨u,rfl⟩:∃u,t=u+k:=⟨t-k,by omega⟩;rw[dX (by rw[hk];omega),hk,sW];have hu:u<l.length*k:=(by rw[gI,rW,Nat.one_mul]at h;omega);rw[ih u hu];have e1:(u+k) / k=u / k+1:=Nat.add_div_right u hk0;have e2:(u+k) % k=u % k:=Nat.add_mod_right u k;simp only[e1,e2,List.getElem_cons_succ]
 apply qA;intro t;by_cases c:t<d.size*k
 .have hd:t / k<d.size:=Nat.div_lt_of_lt_mul (by rw[iY];exact c)
  have hm:t % k<(enc d[t / k]).length:=by rw[hk];exact Nat.mod_lt _ hk0
  rw[hget d.toList t (by simpa using c),kZ];simp only[Go.Sort.flatK,Array.getElem?_map];rw[p9 (by simpa using c)];simp[hd,hm]
 .rw[kY (by simp[hlen];omega),kY (by rw[hlen];simp;omega)]
theorem KJ[Inhabited (Fin n)]{lt:Fin n->Fin n->Bool}{d':Array (Fin n)}(hp:PermIn 0 n (Array.ofFn (n:=n) id) d')(hs:SortedIn lt 0 n d'):d'.toList.Perm (List.finRange n)/\d'.toList.Pairwise (λx y=>lt y x=false):=by
 obtain⟨h1,_,h3⟩:=hp;have hz:(Array.ofFn (n:=n) (id:Fin n->Fin n)).size=n:=by simp
 rw[hz]at h1;constructor
 .have e1:d'.extract 0 n=d':=Array.extract_eq_self_of_le (by omega)
  have e2:(Array.ofFn (n:=n) (id:Fin n->Fin n)).extract 0 n=Array.ofFn (n:=n) (id:Fin n->Fin n):=Array.extract_eq_self_of_le (by omega);rw[e1,e2]at h3;have e3:(Array.ofFn (n:=n) (id:Fin n->Fin n)).toList=List.finRange n:=by
   rw[Array.toList_ofFn];rfl
  rw[e3]at h3;exact h3
 .rw[dx]
  intro i j hi hj hij;simp only[Array.length_toList]at hi hj;have:=hs i j (aU _) hij (by omega)
  simpa [hi,hj]using this
theorem U7(f:Fin n->Nat):SWO (λx y:Fin n=>decide (Lib.compareInt (f x:Int) (f y:Int)<0)):=by
 have e:∀a b:Nat,decide (Lib.compareInt (a:Int) (b:Int)<0)=decide (a<b):=λa b=>by
  unfold Lib.compareInt;by_cases h1:a<b
  .rw[if_pos (by omega)];simp[h1]
  .rw[if_neg (by omega)]
   split <;> simp[h1]
 refine⟨λx=>by simp[e],λx y z h k=>?_,λx y z h k=>?_⟩
 .simp only[e,decide_eq_true_eq]at *;omega
 .simp only[e,decide_eq_false_iff_not]at *;omega
theorem acV(f:Fin n->Nd):SWO (λx y:Fin n=>decide (bE.nc (f x) (f y)<0)):=by
 refine⟨λx=>by simp[bE.Bl],λx y z h k=>?_,λx y z h k=>?_⟩
 .simp only[decide_eq_true_eq]at *;exact bE.vo h k
 .simp only[decide_eq_false_iff_not]at *
  intro c;by_cases e:bE.nc (f x) (f y)=0
  .rw[bE.Bj e]at c;exact k c
  .have h1:bE.nc (f y) (f x)<0:=by rw[bE.Cr];omega
   exact k (bE.vo h1 c)
end
section
open Go.RowKit
open bE (dh Nd vl)
open Go.Sort (grow PermIn SortedIn SWO)
theorem X9(args:Array Value)(w:World):(callFunc 168 args).run prog w=.ok (.enter 168 args) w:=by kernel_rfl
theorem X8(args:Array Value)(w:World):(callFunc 171 args).run prog w=.ok (.enter 171 args) w:=by kernel_rfl
theorem I8(pp h:Nat)(s:jF)(pb base g cap:Nat)(Ls:List Nat)(w:World)(hP:dA w pp h s)(hown:w.ownsRow base 3 1 (.slice (some ⟨g,0,none⟩) Ls.length cap) Ls.length ((dB Ls).map (Value.int .i64)))(hL:∀x,x∈Ls->x<s.D.length)(hl0:0<Ls.length)(hll:Ls.length<=1000000)
 (xc:w.cell? ⟨pb,0,none⟩=some (.pointer (some ⟨pp,0,none⟩))) (hgp:g≠pb) (hgo:¬lg pp h s g) (hgs:¬s.S g):
 Calls prog 167 #[.slice (some ⟨g,0,none⟩) Ls.length cap,.func (.func 168) #[] #[.pointer (some ⟨pb,0,none⟩)]] w λe w'=>
  e=.returned (.tuple #[])/\∃L0:List Nat,L0.Perm Ls/\L0.Pairwise (λa b=>bE.born (vl s.D a)<=bE.born (vl s.D b))/\w'.ownsRow base 3 1 (.slice (some ⟨g,0,none⟩) Ls.length cap) Ls.length ((dB L0).map (Value.int .i64))/\fJ (λb=>b=g) w w':=by
 let I:Inhabited (Fin Ls.length):=⟨⟨0,hl0⟩⟩
 let enc:Fin Ls.length->Value:=λi=>.int .i64 (Ls[i]:Int)
 let bf:Fin Ls.length->Nat:=λi=>bE.born (vl s.D Ls[i])
 let cf:Fin Ls.length->Fin Ls.length->Int:=λx y=>Lib.compareInt (bf x:Int) (bf y:Int)
 have hd:(Array.ofFn (n:=Ls.length) (id:Fin Ls.length->Fin Ls.length)).toList.map enc=(dB Ls).map (Value.int .i64):=by
  rw[Array.toList_ofFn];apply rz
  .simp[dB]
  .intro i h1 h2;simp[enc,dB]
 have hsz:(Array.ofFn (n:=Ls.length) (id:Fin Ls.length->Fin Ls.length)).size=Ls.length:=by simp
 have hsl:=Tryz.xQ enc (λx=>rfl) cf (U7 bf) 168 #[.pointer (some ⟨pb,0,none⟩)] g 0 cap (Array.ofFn (n:=Ls.length) id) w X9
  (λm os dk hs x y=>by
   obtain⟨-,hk⟩:=A8 enc hown dk (by rw[hs,hsz];simp[dB]) m os;have hPk:=hP.keep hk (λb hb e=>hgo (e ▸ hb)) (λb hb e=>hgs (e ▸ hb));obtain⟨gb,cb,c2,hn1,hn2,cx⟩:=hPk.CQ (hL _ (ai x.2));obtain⟨gb',cb',c2',-,-,cy⟩:=hPk.CQ (hL _ (ai y.2));rw[c2]at c2';simp only[bU,il,Addr.mk.injEq,true_and,and_true]at c2';obtain⟨rfl,rfl⟩:=c2';have hb:=(mP (hk.block pb (lt_of_cell xc) (λe=>hgp e.symm))).trans xc;refine(NV pb gb cb s.D.length Ls[x] Ls[y] (bf x) (bf y) pp _ hb c2 hP.small (hL _ (ai x.2)) (hL _ (ai y.2)) cx cy).mono ?_;rintro e w' ⟨rfl,q,rfl⟩;exact⟨rfl,q,#[],by rw[Go.Sort.grow_empty];rfl⟩)
  (EN enc hown _ hd) (hown.lt g rfl).2 (by rw[hsz];omega)
 rw[hsz]at hsl;refine hsl.mono ?_;rintro e w' ⟨rfl,d',m,os,hp,hs,hw⟩;obtain⟨p1,p2⟩:=KJ hp hs;have hds:d'.size=Ls.length:=by have:=hp.1;simpa using this
 obtain⟨ho,hk⟩:=A8 enc hown d' (by rw[hds];simp[dB]) m os;refine⟨rfl,d'.toList.map (λi=>Ls[i]),?_,?_,?_,?_⟩
 .have:=p1.map (λi:Fin Ls.length=>Ls[i])
  refine this.trans (List.Perm.of_eq ?_);apply rz
  .simp
  .intro i h1 h2;simp
 .rw[gU]
  refine p2.imp λ{a b} hab=>?_
  simp only[Go.Proofs.ltOf,decide_eq_false_iff_not,cf,bf]at hab;unfold Lib.compareInt at hab;by_cases c:bE.born (vl s.D Ls[b])<bE.born (vl s.D Ls[a])
  .rw[if_pos (by omega)]at hab;omega
  .omega
 .rw[hw]
  have e1:(dB (d'.toList.map (λi=>Ls[i]))).map (Value.int .i64)=d'.toList.map enc:=by simp[dB,enc]
  rw[e1];exact ho
 .rw[hw];exact hk
structure En where
 id:Nat
 lv:Value
 rv:Value
 l:List Nat
 r:List Nat
def En.cells(e:En):List Value:=[.int .i64 (e.id:Int),e.lv,e.rv]
def En.nd(e:En):Nd:=(e.l,e.r)
def En.blk(e:En)(b:Nat):Prop:=e.lv.ownBlock=some b\/e.rv.ownBlock=some b
def Gd(base:Nat)(w:World)(e:En):Prop:=w.ownsRow base 3 1 e.lv e.l.length ((dB e.l).map (Value.int .i64))/\w.ownsRow base 3 1 e.rv e.r.length ((dB e.r).map (Value.int .i64))/\(∀x,x∈e.l->x<900000000)/\(∀x,x∈e.r->x<900000000)/\e.l.length<=1000000/\e.r.length<=1000000
theorem Gd.keep{base:Nat}{w w':World}{e:En}{G:Nat->Prop}(h:Gd base w e)(hk:fJ G w w')(hG:∀b,e.blk b->¬G b):Gd base w' e:=
 ⟨bS h.1 hk (λb hb=>hG b (.inl hb)),bS h.2.1 hk (λb hb=>hG b (.inr hb)),h.2.2⟩
theorem I7(base g cap:Nat)(G:List En)(w:World)(hown:w.ownsRow base 201 3 (.slice (some ⟨g,0,none⟩) G.length cap) G.length (G.flatMap En.cells))(hG:∀e,e∈G->Gd base w e)(hg0:∀e,e∈G->¬e.blk g)(hl0:0<G.length)(hll:G.length<=1000000):
 Calls prog 170 #[.slice (some ⟨g,0,none⟩) G.length cap,.func (.func 171) #[] #[]] w λe w'=>
  e=.returned (.tuple #[])/\∃G':List En,G'.Perm G/\G'.Pairwise (λa b=>¬bE.nc b.nd a.nd<0)/\w'.ownsRow base 201 3 (.slice (some ⟨g,0,none⟩) G.length cap) G.length (G'.flatMap En.cells)/\fJ (λb=>b=g) w w':=by
 let I:Inhabited (Fin G.length):=⟨⟨0,hl0⟩⟩
 let enc:Fin G.length->List Value:=λi=>G[i].cells
 let cf:Fin G.length->Fin G.length->Int:=λx y=>bE.nc G[x].nd G[y].nd
 have hk3:∀x,(enc x).length=3:=λx=>rfl
 have hfl:∀d:Array (Fin G.length),(Go.Sort.flatK enc 3 d).toList=(d.toList.map (λi=>G[i])).flatMap En.cells:=λd=>by
  rw[Pw enc 3 hk3 (by omega),List.flatMap_map]
 have hG0:(Array.ofFn (n:=G.length) (id:Fin G.length->Fin G.length)).toList.map (λi=>G[i])=G:=by
  rw[Array.toList_ofFn];apply rz
  .simp
  .intro i h1 h2;simp
 have hsz:(Array.ofFn (n:=G.length) (id:Fin G.length->Fin G.length)).size=G.length:=by simp
 have hcell:∀x:Fin G.length,∀v,v∈enc x->v.oneCell'=true:=λx v hv=>by
  obtain⟨h1,h2,_⟩:=hG _ (ai x.2);obtain⟨a1,c1,e1,_,_⟩:=bT h1;obtain⟨a2,c2,e2,_,_⟩:=bT h2;have:v=.int .i64 (G[x].id:Int)\/v=G[x].lv\/v=G[x].rv:=by simpa [enc,En.cells]using hv
  rcases this with rfl|rfl|rfl
  .rfl
  .rw[show G[x].lv=_ from e1];rfl
  .rw[show G[x].rv=_ from e2];rfl
 have hxl:∀l:List En,(l.flatMap En.cells).length=l.length*3:=by
  intro l
  induction l with
  |nil=>simp
  |cons x l ih=>rw[jZ,bu,ih];simp[En.cells];omega
 have hsl:=Tryz.slices_SortFunc 3 (λw=>by kernel_rfl) (λw=>by kernel_rfl) enc hk3 hcell cf (acV λi=>G[i].nd) 171 #[] g 0 cap (Array.ofFn (n:=G.length) id) w X8
  (λm os dk hs x y=>by
   obtain⟨-,hk⟩:=A8 (α:=Value) id hown (Go.Sort.flatK enc 3 dk) (by rw[Go.Sort.size_flatK,hs,hsz,hxl]) m os;obtain⟨x1,x2,x3,x4,x5,x6⟩:=(hG _ (ai x.2)).keep hk (λb hb e=>hg0 _ (ai x.2) (e ▸ hb));obtain⟨y1,y2,y3,y4,y5,y6⟩:=(hG _ (ai y.2)).keep hk (λb hb e=>hg0 _ (ai y.2) (e ▸ hb));have h:=NU G[x].id G[y].id G[x].lv G[x].rv G[y].lv G[y].rv G[x].l G[x].r G[y].l G[y].r _ (Ints.gm x1 (by rw[bG];exact bZ x5 (by decide))) (Ints.gm x2 (by rw[bG];exact bZ x6 (by decide))) (Ints.gm y1 (by rw[bG];exact bZ y5 (by decide))) (Ints.gm y2 (by rw[bG];exact bZ y6 (by decide))) x3 x4 y3 y4;refine h.mono ?_;rintro e w' ⟨rfl,q,os',rfl⟩;exact⟨rfl,q,os',rfl⟩)
  (EN (α:=Value) id hown _ (by rw[Au,hfl,hG0])) (hown.lt g rfl).2 (by rw[hsz];omega)
 rw[hsz]at hsl;refine hsl.mono ?_;rintro e w' ⟨rfl,d',m,os,hp,hs,hw⟩;obtain⟨p1,p2⟩:=KJ hp hs;have hds:d'.size=G.length:=by have:=hp.1;simpa using this
 obtain⟨ho,hk⟩:=A8 (α:=Value) id hown (Go.Sort.flatK enc 3 d') (by rw[Go.Sort.size_flatK,hds,hxl]) m os;rw[Au,hfl]at ho;refine⟨rfl,d'.toList.map (λi=>G[i]),?_,?_,?_,?_⟩
 .have:=p1.map (λi:Fin G.length=>G[i])
  refine this.trans (List.Perm.of_eq ?_);apply rz
  .simp
  .intro i h1 h2;simp
 .rw[gU]
  exact p2.imp λ{a b} hab=>by simpa [Go.Proofs.ltOf,cf]using hab
 .rw[hw];exact ho
 .rw[hw];exact hk
end
