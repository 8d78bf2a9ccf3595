/- 34 -/
import Derived.Test.YtplgooajigigkaaGreatDoorQ33
set_option maxRecDepth 100000
set_option maxHeartbeats 4000000
namespace Go.Proofs.YtplgooajigigkaaGreatDoor
open Tryz
section
open Go.RowKit
open aZ (cZ Nd vl)
open Go.Sort (grow grow_grow alloc_eq_grow grow_empty)
def zw(w w':World):Prop:=∃q os,w'=grow (w.drewN q) os
theorem zw.refl(w:World):zw w w:=⟨0,#[],by rw[grow_empty];rfl⟩
theorem zw.drewN{w w1:World}(h:zw w w1)(n:Nat):zw w (w1.drewN n):=by
 obtain⟨q,os,rfl⟩:=h;exact⟨q+n,os,by rw[<-World.drewN_drewN];rfl⟩
theorem zw.alloc{w w1:World}(h:zw w w1)(X:Obj):zw w (w1.alloc X):=by
 obtain⟨q,os,rfl⟩:=h;exact⟨q,os++#[X],by rw[alloc_eq_grow,grow_grow]⟩
theorem zw.ext{w w1:World}(h:zw w w1):Ext w w1:=by
 obtain⟨q,os,rfl⟩:=h;refine⟨rfl,rfl,rfl,?_,λk hk=>?_⟩
 .show w.heap.size<=(w.heap++os).size;rw[Array.size_append];omega
 .show(w.heap++os)[k]?=w.heap[k]?;rw[Array.getElem?_append_left hk]
theorem PL(p a b:List Nat):aZ.cl (p++a) (p++b)=aZ.cl a b:=by
 induction p with
 |nil=>rfl
 |cons x p ih=>simp[aZ.cl,ih]
theorem NC{a b:List Nat}{k:Nat}(h:a.take k=b.take k):aZ.cl a b=aZ.cl (a.drop k) (b.drop k):=by
 have e1:a=a.take k++a.drop k:=(jw k a).symm;have e2:b=a.take k++b.drop k:=by rw[h];exact(jw k b).symm
 conv=>lhs;rw[e1,e2]
 exact PL _ _ _
theorem kZ(v u:Value)(a b:List Nat)(w:World)(hv:Ints w v (bV a))(hu:Ints w u (bV b))(ha:∀x,x∈a->x<900000000)(hb:∀x,x∈b->x<900000000):
 Calls prog 103 #[v,u] w λe w'=>e=.returned (.int .i64 (aZ.cl a b))/\RD w w':=by
 obtain⟨av,cv,rfl,hv1,hv2,hv3⟩:=hv;obtain⟨au,cu,rfl,hu1,hu2,hu3⟩:=hu;rw[aP]at hv1 hv2 hv3 hu1 hu2 hu3 ⊢;rw[aP];go_enter Tryz.func103,Tryz.ntmps103
 go_wp2
 go_loopw [5,6,7,8,11] (λ_ _ _ _ ii wr=>∃k:Nat,k<=a.length/\ii=.int .i64 ((k:Nat):Int)/\RD w wr/\Hid (a.take k=b.take k)) (λ_ _ _ _ ii _=>a.length-(intOf ii).toNat)
 case atStart=>exact⟨0,az _,rfl,rU _,by simp[Hid]⟩
 case round=>
  obtain⟨k,hk,rfl,⟨n,rfl⟩,HE⟩:=hrel;by_cases hlt:k<a.length
  .have h1:((k:Nat):Int)<((a.length:Nat):Int):=by omega
   obtain⟨b1,o1,rfl,hc1⟩:=hv3 (by omega);have hck:=hc1 k hlt;rw[fD hlt]at hck;have hax:=ha _ (aj hlt);by_cases hkb:k<b.length
   .have h2:¬(((b.length:Nat):Int)<=((k:Nat):Int)):=by omega
    obtain⟨b2,o2,rfl,hc2⟩:=hu3 (by omega);have I9:=hc2 k hkb;rw[fD hkb]at I9;have hbx:=hb _ (aj hkb);have HD:=aI (NC HE.out);have e1:a.drop k=a[k] :: a.drop (k+1):=fQ hlt;have e2:b.drop k=b[k] :: b.drop (k+1):=fQ hkb;have ht1:a.take (k+1)=a.take k++[a[k]]:=aW hlt;have ht2:b.take (k+1)=b.take k++[b[k]]:=aW hkb;obtain⟨x,hx⟩:=eu (a[k]);obtain⟨y,hy⟩:=eu (b[k]);rw[<-hx]at e1 ht1 hck hax;rw[<-hy]at e2 ht2 I9 hbx;have U6:=JM e1 e2 ht1 ht2;clear hc1 hc2 e1 e2 ht1 ht2 hx hy;by_cases hxy:x=y
    .subst hxy
     have e0:Lib.compareInt (x:Int) (x:Int)=0:=(by simp[Lib.compareInt]);go_wp2_with (go_at_call 102;refine(Tryz.cmp_Compare_int _ _ _).mono ?_;rw[e0];rintro e w2 ⟨rfl,hw2⟩;subst hw2)
     go_roundw
     case rel=>exact⟨k+1,by omega,by go_num,⟨_,rfl⟩,aI (by rw[U6.out.2.2.1,U6.out.2.2.2,HE.out])⟩
     case measure=>simp[intOf];omega
    .obtain⟨c,hc⟩:=eu (Lib.compareInt (x:Int) (y:Int))
     have hc0:(c == 0)=false:=(by rw[hc];unfold Lib.compareInt;simp;split <;> (try split)<;> omega);have HC:=aI (show aZ.cl a b=c by
      rw[HD.out,U6.out.1,U6.out.2.1,hc];simp only[aZ.cl,Lib.compareInt];by_cases l1:x<y
      .rw[if_pos l1,if_pos (by omega)]
      .rw[if_neg l1,if_pos (show y<x by omega),if_neg (show ¬((x:Int)<(y:Int)) by omega),if_pos (show(x:Int) > (y:Int) by omega)])
     have HCE:=aI hc;clear hc;go_wp2_with (go_at_call 102;refine(Tryz.cmp_Compare_int _ _ _).mono ?_;rw[<-HCE.out];rintro e w2 ⟨rfl,hw2⟩;subst hw2)
     go_ret
     exact⟨jy HC.out.symm,⟨_,rfl⟩⟩
   .have h2:((b.length:Nat):Int)<=((k:Nat):Int):=by omega
    have HD:=aI (show aZ.cl a b=1 by
     rw[NC HE.out,l6 (show b.length<=k by omega),fQ hlt];rfl)
    clear hc1;go_wp2
    go_ret
    exact⟨jy HD.out.symm,⟨_,rfl⟩⟩
  .have h1:¬(((k:Nat):Int)<((a.length:Nat):Int)):=by omega
   have hke:k=a.length:=(by omega);subst hke;by_cases hlb:a.length<b.length
   .have h2:((a.length:Nat):Int)<((b.length:Nat):Int):=by omega
    have HD:=aI (show aZ.cl a b=-1 by
     rw[NC HE.out,l6 (ax _),fQ hlb];rfl)
    go_wp2
    go_ret
    exact⟨jy HD.out.symm,⟨_,rfl⟩⟩
   .have h2:¬(((a.length:Nat):Int)<((b.length:Nat):Int)):=by omega
    have HD:=aI (show aZ.cl a b=0 by
     rw[NC HE.out,l6 (ax _),l6 (show b.length<=a.length by omega)];rfl)
    go_wp2
    go_ret
    exact⟨jy HD.out.symm,⟨_,rfl⟩⟩
def YA(x y:Int):Int:=if x≠0 then x else y
theorem PK(b:Nat)(x y:Int)(w:World)(h0:w.cell? ⟨b,0,none⟩=some (.int .i64 x))(h1:w.cell? ⟨b,1,none⟩=some (.int .i64 y)):
 Calls prog 101 #[.slice (some ⟨b,0,none⟩) 2 2] w λe w'=>e=.returned (.int .i64 (YA x y))/\RD w w':=by
 go_enter Tryz.func101,Tryz.ntmps101
 go_wp2
 go_loopw [5,8] (λ_ ii wr=>∃k:Nat,k<=2/\ii=.int .i64 ((k:Nat):Int)/\RD w wr/\Hid ((1<=k->x=0)/\(2<=k->y=0))) (λ_ ii _=>2-(intOf ii).toNat)
 case atStart=>exact⟨0,az _,rfl,rU _,by simp[Hid]⟩
 case round=>
  obtain⟨k,hk,rfl,⟨n,rfl⟩,HE⟩:=hrel;rcases Dn hk with rfl|rfl|rfl
  .by_cases hx:x=0
   .subst hx
    go_wp2
    go_roundw
    case rel=>exact⟨1,by omega,by go_num,⟨_,rfl⟩,aI ⟨by simp,λh=>by omega⟩⟩
    case measure=>simp[intOf]
   .have hx0:(x == 0)=false:=by simpa using hx
    have HX:=aI hx;clear hx;go_wp2
    go_ret
    exact⟨jy (by unfold YA;rw[if_pos HX.out]),⟨_,rfl⟩⟩
  .have HX:=aI (HE.out.1 (by omega))
   by_cases hy:y=0
   .subst hy
    go_wp2
    go_roundw
    case rel=>exact⟨2,by omega,by go_num,⟨_,rfl⟩,aI ⟨λ_=>HX.out,by simp⟩⟩
    case measure=>simp[intOf]
   .have hy0:(y == 0)=false:=by simpa using hy
    clear hy;go_wp2
    go_ret
    exact⟨jy (by unfold YA;rw[if_neg (by simp[HX.out])]),⟨_,rfl⟩⟩
  .have HX:=jW (HE.out.1 (by omega)) (HE.out.2 (by omega))
   go_wp2
   go_ret
   exact⟨jy (by unfold YA;rw[if_neg (by simp[HX.out.1]),HX.out.2]),⟨_,rfl⟩⟩
def Q7:List Row:=[⟨0,[],7,[2]⟩,⟨1,[0],8,[6]⟩,⟨2,[1],9,[7]⟩,⟨3,[2],10,[8]⟩,⟨4,[],11,[0]⟩,⟨5,[3,4],12,[9,10]⟩,⟨6,[5],13,[11]⟩,⟨7,[],14,[2]⟩,⟨8,[7],15,[13]⟩,⟨9,[8],16,[14]⟩,⟨10,[9],17,[15]⟩,⟨11,[],18,[1]⟩,⟨12,[10,11],19,[16,17]⟩,⟨13,[12],20,[18]⟩,⟨14,[6,13],21,[12,19]⟩,⟨15,[14,14,0,1,2,3,4,5,6,7,8,9,10,11,12,13,14],6,[20]⟩]
theorem Kw(pb gb cb n x y:Nat)(bx by_:Nat)(pp:Nat)(w:World)(h0:w.cell? ⟨pb,0,none⟩=some (.pointer (some ⟨pp,0,none⟩)))(h2:w.cell? ⟨pp,2,none⟩=some (.slice (some ⟨gb,0,none⟩) n cb))(hn:n<=900000)(hx:x<n)(hy:y<n)(hbx:w.cell? ⟨gb,x,none⟩=some (.int .i64 (bx:Int)))(hby:w.cell? ⟨gb,y,none⟩=some (.int .i64 (by_:Int))):
 Calls prog 168 #[.int .i64 (x:Int),.int .i64 (y:Int),.pointer (some ⟨pb,0,none⟩)] w λe w'=>e=.returned (.int .i64 (Lib.compareInt (bx:Int) (by_:Int)))/\RD w w':=by
 go_enter Tryz.func168,Tryz.ntmps168
 go_upto_region 1 with fail
 refine mQ (λW=>W.cell? ⟨pb,0,none⟩=some (.pointer (some ⟨pp,0,none⟩))/\W.cell? ⟨pp,2,none⟩=some (.slice (some ⟨gb,0,none⟩) n cb)/\W.cell? ⟨gb,x,none⟩=some (.int .i64 (bx:Int))/\W.cell? ⟨gb,y,none⟩=some (.int .i64 (by_:Int))) [14,15] Q7 ⟨h0,h2,hbx,hby⟩ (λai aa=>?_);(refine bg 0 ai aa ?_;refine bg 1 ai aa ?_;refine bg 2 ai aa ?_;refine bg 3 ai aa ?_;refine bg 4 ai aa ?_;refine bg 5 ai aa ?_;refine bg 6 ai aa ?_;refine bg 7 ai aa ?_;refine bg 8 ai aa ?_;refine bg 9 ai aa ?_;refine bg 10 ai aa ?_;refine bg 11 ai aa ?_;refine bg 12 ai aa ?_;refine bg 13 ai aa ?_);refine mM ai [14,15] [_,_] ?_;clear ai aa;go_wp2_with (go_at_call 102;refine(Tryz.cmp_Compare_int _ _ _).mono ?_;rintro e w2 ⟨rfl,hw2⟩;subst hw2)
 go_ret
 exact⟨rfl,⟨1,rfl⟩⟩
theorem new2_0(w:World)(x y:Value)(e:TypeId):(w.alloc (.cells #[x,y] e)).cell? ⟨w.heap.size,0,none⟩=some x:=(World.cell?_alloc_at (w:=w) #[x,y] e _ 0 rfl)
theorem new2_1(w:World)(x y:Value)(e:TypeId):(w.alloc (.cells #[x,y] e)).cell? ⟨w.heap.size,1,none⟩=some y:=(World.cell?_alloc_at (w:=w) #[x,y] e _ 1 rfl)
def QX:List Row:=[⟨0,[],6,[2]⟩,⟨1,[0],7,[5]⟩,⟨2,[1],8,[6]⟩,⟨3,[],9,[3]⟩,⟨4,[3],10,[8]⟩,⟨5,[4],11,[9]⟩,⟨6,[2,5],12,[7,10]⟩,⟨7,[],13,[2]⟩,⟨8,[7],14,[12]⟩,⟨9,[8],15,[13]⟩,⟨10,[],16,[3]⟩,⟨11,[10],17,[15]⟩,⟨12,[11],18,[16]⟩,⟨13,[9,12,6],19,[14,17]⟩,⟨14,[6,13],20,[11,18]⟩,⟨15,[14,13],21,[19]⟩,⟨16,[15,15,0,1,2,3,4,5,6,7,8,9,10,11,12,13,14,15],5,[20]⟩]
theorem Kv(x y:Nat)(l1 r1 l2 r2:Value)(L1 R1 L2 R2:List Nat)(w:World)(hl1:Ints w l1 (bV L1))(hr1:Ints w r1 (bV R1))(hl2:Ints w l2 (bV L2))(hr2:Ints w r2 (bV R2))(b1:∀x,x∈L1->x<900000000)(b2:∀x,x∈R1->x<900000000)(b3:∀x,x∈L2->x<900000000)(b4:∀x,x∈R2->x<900000000):
 Calls prog 171 #[.agg #[.int .i64 (x:Int),l1,r1],.agg #[.int .i64 (y:Int),l2,r2]] w λe w'=>e=.returned (.int .i64 (aZ.nc (L1,R1) (L2,R2)))/\zw w w':=by
 obtain⟨a1,c1,rfl,-⟩:=id hl1;obtain⟨a2,c2,rfl,-⟩:=id hr1;obtain⟨a3,c3,rfl,-⟩:=id hl2;obtain⟨a4,c4,rfl,-⟩:=id hr2;rw[aP]at hl1 hr1 hl2 hr2;simp only[aP];go_enter Tryz.func171,Tryz.ntmps171
 go_upto_region 1 with fail
 have hG0:zw w ((w.alloc (.cells #[.int .i64 (x:Int),.slice a1 L1.length c1,.slice a2 R1.length c2] 201)).alloc (.cells #[.int .i64 (y:Int),.slice a3 L2.length c3,.slice a4 R2.length c4] 201)):=((zw.refl w).alloc _).alloc _;have hb1:((w.alloc (.cells #[.int .i64 (x:Int),.slice a1 L1.length c1,.slice a2 R1.length c2] 201)).alloc (.cells #[.int .i64 (y:Int),.slice a3 L2.length c3,.slice a4 R2.length c4] 201)).heap[w.heap.size]?=some (.cells #[.int .i64 (x:Int),.slice a1 L1.length c1,.slice a2 R1.length c2] 201 (0,0)):=by
  rw[gI _ _ _ (by rw[eX];omega)];exact dV w _
 have hb2:((w.alloc (.cells #[.int .i64 (x:Int),.slice a1 L1.length c1,.slice a2 R1.length c2] 201)).alloc (.cells #[.int .i64 (y:Int),.slice a3 L2.length c3,.slice a4 R2.length c4] 201)).heap[w.heap.size+1]?=some (.cells #[.int .i64 (y:Int),.slice a3 L2.length c3,.slice a4 R2.length c4] 201 (0,0)):=
  alloc_at (by rw[eX])
 generalize (w.alloc (.cells #[.int .i64 (x:Int),.slice a1 L1.length c1,.slice a2 R1.length c2] 201)).alloc (.cells #[.int .i64 (y:Int),.slice a3 L2.length c3,.slice a4 R2.length c4] 201)=W0 at *;have hx0:=hG0.ext;have d1:=bI W0 w.heap.size 1 _ _ _ hb1;have d2:=bI W0 w.heap.size 2 _ _ _ hb1;have d3:=bI W0 (w.heap.size+1) 1 _ _ _ hb2;have d4:=bI W0 (w.heap.size+1) 2 _ _ _ hb2;have i1:=hl1.ext hx0;have i2:=hr1.ext hx0;have i3:=hl2.ext hx0;have i4:=hr2.ext hx0;refine mQ (λW=>W.cell? ⟨w.heap.size,1,none⟩=some (.slice a1 L1.length c1)/\W.cell? ⟨w.heap.size,2,none⟩=some (.slice a2 R1.length c2)/\W.cell? ⟨w.heap.size+1,1,none⟩=some (.slice a3 L2.length c3)/\W.cell? ⟨w.heap.size+1,2,none⟩=some (.slice a4 R2.length c4)) [14,15,16] QX ⟨d1,d2,d3,d4⟩ (λai aa=>?_);(refine bg 0 ai aa ?_;refine bg 1 ai aa ?_;refine bg 2 ai aa ?_;refine bg 3 ai aa ?_;refine bg 4 ai aa ?_;refine bg 5 ai aa ?_;refine bg 7 ai aa ?_;refine bg 8 ai aa ?_;refine bg 9 ai aa ?_;refine bg 10 ai aa ?_;refine bg 11 ai aa ?_;refine bg 12 ai aa ?_);(refine kS ai (i:=6) λK hK=>?_;go_simp);refine(kZ _ _ L1 L2 _ (i1.ext (dz ⟨1,rfl⟩)) (i3.ext (dz ⟨1,rfl⟩)) b1 b3).mono ?_;rintro e w2 ⟨rfl,n2,rfl⟩;(refine hK.out _ _ (λ_=>?_) ?_)
 .exact aa
 clear hK K;(try simp only[nP]);(refine kS ai (i:=13) λK hK=>?_;go_simp);refine(kZ _ _ R1 R2 _ (i2.ext (dz ⟨1+n2,by rw[<-World.drewN_drewN]⟩)) (i4.ext (dz ⟨1+n2,by rw[<-World.drewN_drewN]⟩)) b2 b4).mono ?_;rintro e w3 ⟨rfl,n3,rfl⟩;(refine hK.out _ _ (λ_=>?_) ?_)
 .exact aa
 clear hK K;(try simp only[nP]);refine mM ai [14,15,16] [_,_,_] ?_;clear ai aa d1 d2 d3 d4 hb1 hb2;go_wp2_with (go_at_call 101;refine(PK _ (aZ.cl L1 L2) (aZ.cl R1 R2) _ (new2_0 _ _ _ _) (new2_1 _ _ _ _)).mono ?_;rintro e w5 ⟨rfl,n5,rfl⟩)
 go_ret
 exact⟨rfl,((hG0.drewN (1+n2+n3)).alloc _).drewN n5⟩
end
section
open Go.RowKit
open aZ (cZ Nd vl)
open Go.Sort (grow PermIn SortedIn SWO)
variable {α:Type} {w:World} {base e g n cap size:Nat} {xs:List Value}
theorem xP[Inhabited α](enc:α->Value)(h:w.ownsRow base e size (.slice (some ⟨g,0,none⟩) n cap) n xs)(d:Array α)(hd:d.size=xs.length)(m:Nat)(os:Array Obj):
 (grow (Go.Sort.putRow enc (Go.Sort.ahead w m) g 0 d) os).ownsRow base e size (.slice (some ⟨g,0,none⟩) n cap) n (d.toList.map enc)/\dW (λb=>b=g) w (grow (Go.Sort.putRow enc (Go.Sort.ahead w m) g 0 d) os):=by
 obtain⟨hlen,h⟩:=h;have hgl:g<w.heap.size:=by
  rcases h with⟨h,_⟩|⟨g',cap',cur,h1,h2,h3,_⟩
  .simp at h
  .simp only[gz,bN,Addr.mk.injEq,and_true,true_and]at h1
   obtain⟨rfl,rfl⟩:=h1;exact bq h3
 have hsz:(Go.Sort.putRow enc (Go.Sort.ahead w m) g 0 d).heap.size=w.heap.size:=by rw[Go.Sort.size_putRow];rfl
 refine⟨⟨by rw[bH,ib,hd,hlen],?_⟩,rfl,rfl,rfl,by simp[Go.Sort.grow,hsz],λk hk hn=>?_⟩
 .rcases h with⟨h,_⟩|⟨g',cap',cur,h1,h2,h3,h4,h5,h6,h7⟩
  .simp at h
  .simp only[gz,bN,Addr.mk.injEq,and_true,true_and]at h1
   obtain⟨rfl,rfl⟩:=h1;refine .inr ⟨g,cap,Go.Sort.putCells enc 0 d cur,rfl,h2,?_,h4,h5,by simp[Go.Sort.putCells,h6],?_⟩
   .rw[vO _ _ (by rw[hsz];exact hgl)]
    exact wy _ _ _ h3
   .apply qQ
    intro i;rw[kK];by_cases c:i<n*size
    .rw[if_pos c,ik]
     have hc:i<cur.size:=(by rw[h6];exact aJ c (kV size h4));have hi:i<d.size:=(by rw[hd,hlen];exact c);rw[bO,ik,mV hi];simp only[Go.Sort.putCells,Array.getElem?_mapIdx,mV hc,eT];rw[if_pos (by simp;omega)];simp[hi]
    .rw[if_neg c,ic (by rw[bH,ib,hd,hlen];omega)]
 .rw[vO _ _ (by rw[hsz];exact hk)]
  exact uG (Go.Sort.ahead w m) g k _ hn
theorem Bo[Inhabited α](enc:α->Value)(h:w.ownsRow base e size (.slice (some ⟨g,0,none⟩) n cap) n xs)(d:Array α)(hd:d.toList.map enc=xs):Go.Sort.Holds enc w g 0 d:=by
 intro j hj;have hl:=h.1;rw[gQ];refine⟨?_,h.frozenAt j⟩;have hxl:xs.length=d.size:=by rw[<-hd];simp
 rw[h.cellAt j (by omega),<-hd,bO,ik,mV hj];simp[hj]
theorem LU[Inhabited α](enc:α->List Value)(k:Nat)(hk:∀x,(enc x).length=k)(hk0:0<k)(d:Array α):(Go.Sort.flatK enc k d).toList=d.toList.flatMap enc:=by
 have hlen:∀l:List α,(l.flatMap enc).length=l.length*k:=by
  intro l
  induction l with
  |nil=>simp
  |cons x l ih=>rw[jr,aK,ih,hk,l9,rJ,Nat.one_mul];omega
 have hget:∀(l:List α) (t:Nat) (h:t<l.length*k),(l.flatMap enc)[t]?=(enc (l[t / k]'(Nat.div_lt_of_lt_mul (by rw[kP];exact h))))[t % k]?:=by
  intro l
  induction l with
  |nil=>intro t h;simp at h
  |cons x l ih=>
   intro t h;rw[jr];by_cases c:t<k
   .rw[bQ (by rw[hk];exact c)]
    have e1:t / k=0:=Nat.div_eq_of_lt c;have e2:t % k=t:=Nat.mod_eq_of_lt c;simp only[e1,e2,l5]
   .have hge:k<=t:=by omega
    obtain⟨u,rfl⟩:∃u,t=u+k:=⟨t-k,by omega⟩;rw[dC (by rw[hk];omega),hk,jE];have hu:u<l.length*k:=(by rw[l9,rJ,Nat.one_mul]at h;omega);rw[ih u hu];have e1:(u+k) / k=u / k+1:=Nat.add_div_right u hk0;have e2:(u+k) % k=u % k:=Nat.add_mod_right u k;simp only[e1,e2,List.getElem_cons_succ]
 apply qQ;intro t;by_cases c:t<d.size*k
 .have hd:t / k<d.size:=Nat.div_lt_of_lt_mul (by rw[kP];exact c)
  have hm:t % k<(enc d[t / k]).length:=by rw[hk];exact Nat.mod_lt _ hk0
  rw[hget d.toList t (by simpa using c),ik];simp only[Go.Sort.flatK,Array.getElem?_map];rw[mV (by simpa using c)];simp[hd,hm]
 .rw[ic (by simp[hlen];omega),ic (by rw[hlen];simp;omega)]
theorem GK[Inhabited (Fin n)]{lt:Fin n->Fin n->Bool}{d':Array (Fin n)}(hp:PermIn 0 n (Array.ofFn (n:=n) id) d')(hs:SortedIn lt 0 n d'):d'.toList.Perm (List.finRange n)/\d'.toList.Pairwise (λx y=>lt y x=false):=by
 obtain⟨h1,_,h3⟩:=hp;have hz:(Array.ofFn (n:=n) (id:Fin n->Fin n)).size=n:=by simp
 rw[hz]at h1;constructor
 .have e1:d'.extract 0 n=d':=Array.extract_eq_self_of_le (by omega)
  have e2:(Array.ofFn (n:=n) (id:Fin n->Fin n)).extract 0 n=Array.ofFn (n:=n) (id:Fin n->Fin n):=Array.extract_eq_self_of_le (by omega);rw[e1,e2]at h3;have e3:(Array.ofFn (n:=n) (id:Fin n->Fin n)).toList=List.finRange n:=by
   rw[Array.toList_ofFn];rfl
  rw[e3]at h3;exact h3
 .rw[bP]
  intro i j hi hj hij;simp only[ib]at hi hj;have:=hs i j (az _) hij (by omega)
  simpa [hi,hj]using this
theorem QP(f:Fin n->Nat):SWO (λx y:Fin n=>decide (Lib.compareInt (f x:Int) (f y:Int)<0)):=by
 have e:∀a b:Nat,decide (Lib.compareInt (a:Int) (b:Int)<0)=decide (a<b):=λa b=>by
  unfold Lib.compareInt;by_cases h1:a<b
  .rw[if_pos (by omega)];simp[h1]
  .rw[if_neg (by omega)]
   split <;> simp[h1]
 refine⟨λx=>by simp[e],λx y z h k=>?_,λx y z h k=>?_⟩
 .simp only[e,decide_eq_true_eq]at *;omega
 .simp only[e,decide_eq_false_iff_not]at *;omega
theorem Zt(f:Fin n->Nd):SWO (λx y:Fin n=>decide (aZ.nc (f x) (f y)<0)):=by
 refine⟨λx=>by simp[aZ.AA],λx y z h k=>?_,λx y z h k=>?_⟩
 .simp only[decide_eq_true_eq]at *;exact aZ.qY h k
 .simp only[decide_eq_false_iff_not]at *
  intro c;by_cases e:aZ.nc (f x) (f y)=0
  .rw[aZ.xQ e]at c;exact k c
  .have h1:aZ.nc (f y) (f x)<0:=by rw[aZ.yZ];omega
   exact k (aZ.qY h1 c)
end
section
open Go.RowKit
open aZ (cZ Nd vl)
open Go.Sort (grow PermIn SortedIn SWO)
theorem TK(args:Array Value)(w:World):(callFunc 168 args).run prog w=.ok (.enter 168 args) w:=by kernel_rfl
theorem TJ(args:Array Value)(w:World):(callFunc 171 args).run prog w=.ok (.enter 171 args) w:=by kernel_rfl
theorem EO(pp h:Nat)(s:iK)(pb base g cap:Nat)(Ls:List Nat)(w:World)(hP:bX w pp h s)(hown:w.ownsRow base 3 1 (.slice (some ⟨g,0,none⟩) Ls.length cap) Ls.length ((bV Ls).map (Value.int .i64)))(hL:∀x,x∈Ls->x<s.D.length)(hl0:0<Ls.length)(hll:Ls.length<=1000000)
 (jk:w.cell? ⟨pb,0,none⟩=some (.pointer (some ⟨pp,0,none⟩))) (hgp:g≠pb) (hgo:¬jI pp h s g) (hgs:¬s.S g):
 Calls prog 167 #[.slice (some ⟨g,0,none⟩) Ls.length cap,.func (.func 168) #[] #[.pointer (some ⟨pb,0,none⟩)]] w λe w'=>
  e=.returned (.tuple #[])/\∃L0:List Nat,L0.Perm Ls/\L0.Pairwise (λa b=>aZ.born (vl s.D a)<=aZ.born (vl s.D b))/\w'.ownsRow base 3 1 (.slice (some ⟨g,0,none⟩) Ls.length cap) Ls.length ((bV L0).map (Value.int .i64))/\dW (λb=>b=g) w w':=by
 let I:Inhabited (Fin Ls.length):=⟨⟨0,hl0⟩⟩
 let enc:Fin Ls.length->Value:=λi=>.int .i64 (Ls[i]:Int)
 let bf:Fin Ls.length->Nat:=λi=>aZ.born (vl s.D Ls[i])
 let cf:Fin Ls.length->Fin Ls.length->Int:=λx y=>Lib.compareInt (bf x:Int) (bf y:Int)
 have hd:(Array.ofFn (n:=Ls.length) (id:Fin Ls.length->Fin Ls.length)).toList.map enc=(bV Ls).map (Value.int .i64):=by
  rw[Array.toList_ofFn];apply uh
  .simp[bV]
  .intro i h1 h2;simp[enc,bV]
 have hsz:(Array.ofFn (n:=Ls.length) (id:Fin Ls.length->Fin Ls.length)).size=Ls.length:=by simp
 have hsl:=Tryz.uy enc (λx=>rfl) cf (QP bf) 168 #[.pointer (some ⟨pb,0,none⟩)] g 0 cap (Array.ofFn (n:=Ls.length) id) w TK
  (λm os dk hs x y=>by
   obtain⟨-,hk⟩:=xP enc hown dk (by rw[hs,hsz];simp[bV]) m os;have hPk:=hP.keep hk (λb hb e=>hgo (e ▸ hb)) (λb hb e=>hgs (e ▸ hb));obtain⟨gb,cb,c2,hn1,hn2,cx⟩:=hPk.zq (hL _ (aj x.2));obtain⟨gb',cb',c2',-,-,cy⟩:=hPk.zq (hL _ (aj y.2));rw[c2]at c2';simp only[bN,gz,Addr.mk.injEq,true_and,and_true]at c2';obtain⟨rfl,rfl⟩:=c2';have hb:=(lh (hk.block pb (lt_of_cell jk) (λe=>hgp e.symm))).trans jk;refine(Kw pb gb cb s.D.length Ls[x] Ls[y] (bf x) (bf y) pp _ hb c2 hP.small (hL _ (aj x.2)) (hL _ (aj y.2)) cx cy).mono ?_;rintro e w' ⟨rfl,q,rfl⟩;exact⟨rfl,q,#[],by rw[Go.Sort.grow_empty];rfl⟩)
  (Bo enc hown _ hd) (hown.lt g rfl).2 (by rw[hsz];omega)
 rw[hsz]at hsl;refine hsl.mono ?_;rintro e w' ⟨rfl,d',m,os,hp,hs,hw⟩;obtain⟨p1,p2⟩:=GK hp hs;have hds:d'.size=Ls.length:=by have:=hp.1;simpa using this
 obtain⟨ho,hk⟩:=xP enc hown d' (by rw[hds];simp[bV]) m os;refine⟨rfl,d'.toList.map (λi=>Ls[i]),?_,?_,?_,?_⟩
 .have:=p1.map (λi:Fin Ls.length=>Ls[i])
  refine this.trans (List.Perm.of_eq ?_);apply uh
  .simp
  .intro i h1 h2;simp
 .rw[gP]
  refine p2.imp λ{a b} hab=>?_
  simp only[Go.Proofs.ltOf,decide_eq_false_iff_not,cf,bf]at hab;unfold Lib.compareInt at hab;by_cases c:aZ.born (vl s.D Ls[b])<aZ.born (vl s.D Ls[a])
  .rw[if_pos (by omega)]at hab;omega
  .omega
 .rw[hw]
  have e1:(bV (d'.toList.map (λi=>Ls[i]))).map (Value.int .i64)=d'.toList.map enc:=by simp[bV,enc]
  rw[e1];exact ho
 .rw[hw];exact hk
structure En where
 id:Nat
 lv:Value
 rv:Value
 l:List Nat
 r:List Nat
def En.cells(e:En):List Value:=[.int .i64 (e.id:Int),e.lv,e.rv]
def En.nd(e:En):Nd:=(e.l,e.r)
def En.blk(e:En)(b:Nat):Prop:=e.lv.ownBlock=some b\/e.rv.ownBlock=some b
def CF(base:Nat)(w:World)(e:En):Prop:=w.ownsRow base 3 1 e.lv e.l.length ((bV e.l).map (Value.int .i64))/\w.ownsRow base 3 1 e.rv e.r.length ((bV e.r).map (Value.int .i64))/\(∀x,x∈e.l->x<900000000)/\(∀x,x∈e.r->x<900000000)/\e.l.length<=1000000/\e.r.length<=1000000
theorem CF.keep{base:Nat}{w w':World}{e:En}{G:Nat->Prop}(h:CF base w e)(hk:dW G w w')(hG:∀b,e.blk b->¬G b):CF base w' e:=
 ⟨aV h.1 hk (λb hb=>hG b (.inl hb)),aV h.2.1 hk (λb hb=>hG b (.inr hb)),h.2.2⟩
theorem EN(base g cap:Nat)(G:List En)(w:World)(hown:w.ownsRow base 201 3 (.slice (some ⟨g,0,none⟩) G.length cap) G.length (G.flatMap En.cells))(hG:∀e,e∈G->CF base w e)(hg0:∀e,e∈G->¬e.blk g)(hl0:0<G.length)(hll:G.length<=1000000):
 Calls prog 170 #[.slice (some ⟨g,0,none⟩) G.length cap,.func (.func 171) #[] #[]] w λe w'=>
  e=.returned (.tuple #[])/\∃G':List En,G'.Perm G/\G'.Pairwise (λa b=>¬aZ.nc b.nd a.nd<0)/\w'.ownsRow base 201 3 (.slice (some ⟨g,0,none⟩) G.length cap) G.length (G'.flatMap En.cells)/\dW (λb=>b=g) w w':=by
 let I:Inhabited (Fin G.length):=⟨⟨0,hl0⟩⟩
 let enc:Fin G.length->List Value:=λi=>G[i].cells
 let cf:Fin G.length->Fin G.length->Int:=λx y=>aZ.nc G[x].nd G[y].nd
 have hk3:∀x,(enc x).length=3:=λx=>rfl
 have hfl:∀d:Array (Fin G.length),(Go.Sort.flatK enc 3 d).toList=(d.toList.map (λi=>G[i])).flatMap En.cells:=λd=>by
  rw[LU enc 3 hk3 (by omega),List.flatMap_map]
 have hG0:(Array.ofFn (n:=G.length) (id:Fin G.length->Fin G.length)).toList.map (λi=>G[i])=G:=by
  rw[Array.toList_ofFn];apply uh
  .simp
  .intro i h1 h2;simp
 have hsz:(Array.ofFn (n:=G.length) (id:Fin G.length->Fin G.length)).size=G.length:=by simp
 have hcell:∀x:Fin G.length,∀v,v∈enc x->v.oneCell'=true:=λx v hv=>by
  obtain⟨h1,h2,_⟩:=hG _ (aj x.2);obtain⟨a1,c1,e1,_,_⟩:=bu h1;obtain⟨a2,c2,e2,_,_⟩:=bu h2;have:v=.int .i64 (G[x].id:Int)\/v=G[x].lv\/v=G[x].rv:=by simpa [enc,En.cells]using hv
  rcases this with rfl|rfl|rfl
  .rfl
  .rw[show G[x].lv=_ from e1];rfl
  .rw[show G[x].rv=_ from e2];rfl
 have hxl:∀l:List En,(l.flatMap En.cells).length=l.length*3:=by
  intro l
  induction l with
  |nil=>simp
  |cons x l ih=>rw[jr,aK,ih];simp[En.cells];omega
 have hsl:=Tryz.slices_SortFunc 3 (λw=>by kernel_rfl) (λw=>by kernel_rfl) enc hk3 hcell cf (Zt λi=>G[i].nd) 171 #[] g 0 cap (Array.ofFn (n:=G.length) id) w TJ
  (λm os dk hs x y=>by
   obtain⟨-,hk⟩:=xP (α:=Value) id hown (Go.Sort.flatK enc 3 dk) (by rw[Go.Sort.size_flatK,hs,hsz,hxl]) m os;obtain⟨x1,x2,x3,x4,x5,x6⟩:=(hG _ (aj x.2)).keep hk (λb hb e=>hg0 _ (aj x.2) (e ▸ hb));obtain⟨y1,y2,y3,y4,y5,y6⟩:=(hG _ (aj y.2)).keep hk (λb hb e=>hg0 _ (aj y.2) (e ▸ hb));have h:=Kv G[x].id G[y].id G[x].lv G[x].rv G[y].lv G[y].rv G[x].l G[x].r G[y].l G[y].r _ (Ints.dX x1 (by rw[aP];exact df x5 (by decide))) (Ints.dX x2 (by rw[aP];exact df x6 (by decide))) (Ints.dX y1 (by rw[aP];exact df y5 (by decide))) (Ints.dX y2 (by rw[aP];exact df y6 (by decide))) x3 x4 y3 y4;refine h.mono ?_;rintro e w' ⟨rfl,q,os',rfl⟩;exact⟨rfl,q,os',rfl⟩)
  (Bo (α:=Value) id hown _ (by rw[o6,hfl,hG0])) (hown.lt g rfl).2 (by rw[hsz];omega)
 rw[hsz]at hsl;refine hsl.mono ?_;rintro e w' ⟨rfl,d',m,os,hp,hs,hw⟩;obtain⟨p1,p2⟩:=GK hp hs;have hds:d'.size=G.length:=by have:=hp.1;simpa using this
 obtain⟨ho,hk⟩:=xP (α:=Value) id hown (Go.Sort.flatK enc 3 d') (by rw[Go.Sort.size_flatK,hds,hxl]) m os;rw[o6,hfl]at ho;refine⟨rfl,d'.toList.map (λi=>G[i]),?_,?_,?_,?_⟩
 .have:=p1.map (λi:Fin G.length=>G[i])
  refine this.trans (List.Perm.of_eq ?_);apply uh
  .simp
  .intro i h1 h2;simp
 .rw[gP]
  exact p2.imp λ{a b} hab=>by simpa [Go.Proofs.ltOf,cf]using hab
 .rw[hw];exact ho
 .rw[hw];exact hk
end
