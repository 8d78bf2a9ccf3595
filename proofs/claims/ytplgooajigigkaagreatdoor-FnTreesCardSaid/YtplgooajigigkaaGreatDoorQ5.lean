/- 5 -/
import Derived.Test.YtplgooajigigkaaGreatDoorQ4
import Derived.Test.YtplgooajigigkaaGreatDoorProg
import Derived.Lib.Hide
import Derived.BigQuiet
import Derived.WalkSpells
set_option maxRecDepth 100000
set_option maxHeartbeats 4000000
namespace Go.Proofs.YtplgooajigigkaaGreatDoor
open Tryz
theorem oo:type_of% @Go.IntWalk.i64_left:=@Go.IntWalk.i64_left
section
open Go.RowKit
variable {k:Nat} {l:List Int}
theorem gE.{u} {α:Type u}:(∀(l:List α) (i:Nat),l.toArray[i]?=l[i]?)/\(∀(a:α) (l:List α) (i:Nat),(a :: l)[i+1]?=l[i]?)/\∀(a:α) (l:List α),(a :: l)[0]?=some a:=⟨λ_ _=>by simp,λ_ _ _=>by simp,λ_ _=>by simp⟩
theorem nE.{u} {α:Type u}:(∀(l:List α) (i:Nat) (a:α),l.toArray.setIfInBounds i a=(l.set i a).toArray)/\(∀(a b:α) (l:List α),(a :: l).set 0 b=b :: l)/\∀(a b:α) (l:List α) (i:Nat),(a :: l).set (i+1) b=a :: l.set i b:=⟨λ_ _ _=>by simp,λ_ _ _=>by simp,λ_ _ _ _=>by simp⟩
theorem nP:(∀(a:Act) (i:Nat) (v:Value),a.put (some i) v={ a with tmps:=a.tmps.setIfInBounds i v })/\(∀(a:Act) (v:Value),a.put none v=a)/\(∀(l:List Value) (i:Nat) (a:Value),l.toArray.setIfInBounds i a=(l.set i a).toArray)/\(∀(a b:Value) (l:List Value),(a :: l).set 0 b=b :: l)/\∀(a b:Value) (l:List Value) (i:Nat),(a :: l).set (i+1) b=a :: l.set i b:=⟨λ_ _ _=>rfl,λ_ _=>rfl,λ_ _ _=>by simp,λ_ _ _=>by simp,λ_ _ _ _=>by simp⟩
theorem aI{p:Prop}(h:p):Hid p:=h
theorem eX(w:World)(o:Obj):(w.alloc o).heap.size=w.heap.size+1:=by simp
theorem jy{k:IntKind}{a b:Int}(h:a=b):Ending.returned (.int k a)=.returned (.int k b):=by rw[h]
theorem dI{a b:Bool}(h:a=b):Ending.returned (.bool a)=.returned (.bool b):=by rw[h]
theorem pg{P:Program}{f:FuncId}{args:Array Value}{w:World}{a n:Nat}{v:Value}
 (h:Calls P f args (w.drewN (a+n)) λe w'=>e=.returned v/\∃m,w'=(w.drewN (a+n)).drewN m):
 Calls P f args (w.drewN (a+n)) λe w''=>e=.returned v/\∃m,w''=w.drewN (a+m):=
 h.mono λ_ _ ⟨he,m,hm⟩=>⟨he,n+m,by rw[hm,World.drewN_drewN,Nat.add_assoc]⟩
def RD(w w':World):Prop:=∃n,w'=w.drewN n
theorem rU(w:World):RD w w:=⟨0,rfl⟩
theorem xK(w:World)(n:Nat):RD w (w.drewN n):=⟨n,rfl⟩
theorem z8(w:World)(n m:Nat):RD w ((w.drewN n).drewN m):=⟨n+m,by simp⟩
theorem zZ(w:World)(n m k:Nat):RD w (((w.drewN n).drewN m).drewN k):=⟨n+m+k,by simp⟩
def dD(l:List Int)(k:Nat):Int:=l[k]?.getD 0
theorem kW(h:k<l.length):dD l k=l[k]:=by simp[dD,h]
theorem EC(h:k<l.length):dD l k∈l:=by rw[kW h];exact aj h
theorem mX(h:k<l.length):l.take (k+1)=l.take k++[dD l k]:=by
 rw[aW h,kW h]
def l7(l:List Int)(n:Int):Bool:=decide (n∈l)
def Ints(w:World)(v:Value)(l:List Int):Prop:=
 ∃a cap,v=.slice a l.length cap/\l.length<=cap/\l.length<=1152921504606846976/\
  (0<l.length->∃b off,a=some ⟨b,off,none⟩/\∀i,i<l.length->w.cell? ⟨b,off+i,none⟩=some (.int .i64 (dD l i)))
end
section
open Go.RowKit
variable {l:List Int} {lo hi:Int}
def wD(x a b:Int):Bool:=decide (a<=x) && decide (x<=b)
theorem jg(x a b:Int)(w:World):Calls prog 92 #[.int .i64 x,.int .i64 a,.int .i64 b] w λe w'=>e=.returned (.bool (wD x a b))/\RD w w':=by
 by_cases h1:a<=x
 .go_enter Tryz.func92,Tryz.ntmps92
  go_wp2
  go_ret
  exact⟨dI (by simp[wD,h1]),(by first|exact rU _|exact xK _ _|exact z8 _ _ _|exact zZ _ _ _ _)⟩
 .have hd:decide (a<=x)=false:=by simpa using h1
  go_enter Tryz.func92,Tryz.ntmps92
  go_wp2
  go_ret
  exact⟨dI (by simp[wD,hd]),(by first|exact rU _|exact xK _ _|exact z8 _ _ _|exact zZ _ _ _ _)⟩
theorem sJ(a b:Int)(w:World):Calls prog 162 #[.int .i64 a,.int .i64 b] w λe w'=>e=.returned (.int .i64 (max a b))/\RD w w':=by
 go_enter Tryz.func162,Tryz.ntmps162
 go_wp2
 all_goals go_ret
 all_goals exact⟨jy (by omega),(by first|exact rU _|exact xK _ _|exact z8 _ _ _|exact zZ _ _ _ _)⟩
theorem Po(l:List Int)(x n:Int):l7 (l++[x]) n=(l7 l n || decide (n=x)):=by
 simp[l7]
theorem pF(v:Value)(l:List Int)(n:Int)(w:World)(h:Ints w v l):
 Calls prog 164 #[v,.int .i64 n] w λe w'=>e=.returned (.bool (l7 l n))/\RD w w':=by
 obtain⟨a,cap,rfl,hlc,hcap,hc⟩:=h;go_enter Tryz.func164,Tryz.ntmps164
 go_wp2
 go_loop [5] (λi=>∃k:Nat,k<=l.length/\i=.int .i64 k/\Hid (l7 (l.take k) n=false)) (λi=>l.length-(intOf i).toNat)
 case atStart=>exact⟨0,az _,rfl,by simp[Hid,l7]⟩
 case round=>
  obtain⟨k,hk,rfl,HN⟩:=hrel;by_cases hlt:k<l.length
  .obtain⟨b,off,rfl,hcell⟩:=hc (by omega)
   have hck:=hcell k hlt;clear hcell hc;go_wp2
   .have heq:(dD l k == n)=true:=by assumption
    go_ret
    refine⟨dI ?_,(by first|exact rU _|exact xK _ _|exact z8 _ _ _|exact zZ _ _ _ _)⟩;have e:dD l k=n:=(by simpa using heq);have:=EC hlt;simp[l7,<-e,this]
   .have hne:(dD l k == n)=false:=by assumption
    go_round
    case rel=>
     refine⟨k+1,by omega,by go_num,?_⟩;have:=HN.out;show l7 _ _=_;rw[mX hlt,Po,this];simp at hne ⊢;exact λh=>hne h.symm
    case measure=>simp[intOf];omega
  .go_wp2
   go_ret
   refine⟨dI ?_,(by first|exact rU _|exact xK _ _|exact z8 _ _ _|exact zZ _ _ _ _)⟩;have:=HN.out;rw[dH (by omega)]at this;exact this.symm
def tN(a b:List Int):Bool:=decide (a=b)
theorem lJ(v u:Value)(l m:List Int)(w:World)(h:Ints w v l)(g:Ints w u m):
 Calls prog 152 #[v,u] w λe w'=>e=.returned (.bool (tN l m))/\RD w w':=by
 obtain⟨a,cap,rfl,hlc,hcap,hc⟩:=h;obtain⟨a',cap',rfl,Xg,Nt,hc'⟩:=g;by_cases hll:l.length=m.length
 .have hb:((l.length:Int)== m.length)=true:=by simp[hll]
  have hb':((l.length:Int) != m.length)=false:=by simp[hll]
  have HL:=aI hll;have hle:m.length<=l.length:=by omega
  have amn:l.length<=m.length:=by omega
  clear hll;go_enter Tryz.func152,Tryz.ntmps152
  go_wp2
  go_loopw [5] (λi wr=>∃k:Nat,k<=l.length/\i=.int .i64 k/\RD w wr/\Hid (l.take k=m.take k)) (λi _=>l.length-(intOf i).toNat)
  case atStart=>exact⟨0,az _,rfl,rU _,by simp[Hid]⟩
  case round=>
   obtain⟨k,hk,rfl,⟨n,rfl⟩,HN⟩:=hrel;by_cases hlt:k<l.length
   .have acQ:k<m.length:=by omega
    obtain⟨b,off,rfl,hcell⟩:=hc (by omega);obtain⟨b',off',rfl,hcell'⟩:=hc' (by omega);have hck:=hcell k hlt;have Xq:=hcell' k acQ;clear hcell hc hcell' hc';go_wp2
    go_quiet (fail)
    go_wp2
    .have hne:(dD l k != dD m k)=true:=by assumption
     go_ret
     refine⟨dI ?_,(by first|exact rU _|exact xK _ _|exact z8 _ _ _|exact zZ _ _ _ _)⟩;have:l≠m:=λe=>by rw[e]at hne;simp at hne
     simp[tN,this]
    .have hne:(dD l k != dD m k)=false:=by assumption
     go_roundw
     case rel=>
      refine⟨k+1,by omega,by go_num,(by first|exact rU _|exact xK _ _|exact z8 _ _ _|exact zZ _ _ _ _),?_⟩;show _=_;rw[mX hlt,mX acQ,HN.out];simp at hne;rw[hne]
     case measure=>simp[intOf];omega
   .go_wp2
    go_ret
    refine⟨dI ?_,(by first|exact rU _|exact xK _ _|exact z8 _ _ _|exact zZ _ _ _ _)⟩;have:=HN.out;rw[dH (by omega),dH (by omega)]at this;simp[tN,this]
 .have hb:((l.length:Int)== m.length)=false:=by simp;omega
  have hb':((l.length:Int) != m.length)=true:=by simp;omega
  have HL:=aI hll;clear hll;go_enter Tryz.func152,Tryz.ntmps152
  go_wp2
  go_ret
  refine⟨dI ?_,(by first|exact rU _|exact xK _ _|exact z8 _ _ _|exact zZ _ _ _ _)⟩;have:l≠m:=λe=>HL.out (by rw[e])
  simp[tN,this]
def Aw(l:List Int)(lo hi:Int)(k:Nat):Prop:=∀j,j<k->lo<=dD l j/\dD l j<=hi/\(0<j->dD l (j-1)<dD l j)
def rises(l:List Int)(lo hi:Int):Bool:=(List.range l.length).all λj=>decide (lo<=dD l j) && decide (dD l j<=hi) && decide (0<j->dD l (j-1)<dD l j)
theorem ve:rises l lo hi=true↔Aw l lo hi l.length:=by simp[rises,Aw,and_assoc,Nat.pos_iff_ne_zero,Classical.or_iff_not_imp_left]
theorem Ha{k:Nat}(hk:k<l.length)(h:¬(lo<=dD l k/\dD l k<=hi/\(0<k->dD l (k-1)<dD l k))):rises l lo hi=false:=by
 rw[nJ];intro e;exact h (ve.1 e k hk)
theorem nk(v:Value)(l:List Int)(lo hi:Int)(w:World)(h:Ints w v l):
 Calls prog 110 #[v,.int .i64 lo,.int .i64 hi] w λe w'=>e=.returned (.bool (rises l lo hi))/\RD w w':=by
 obtain⟨a,cap,rfl,hlc,hcap,hc⟩:=h;go_enter Tryz.func110,Tryz.ntmps110
 go_wp2
 go_loopw [7] (λi wr=>∃k:Nat,k<=l.length/\i=.int .i64 k/\RD w wr/\Hid (Aw l lo hi k)) (λi _=>l.length-(intOf i).toNat)
 case atStart=>exact⟨0,az _,rfl,rU _,λj h=>absurd h (by omega)⟩
 case round=>
  obtain⟨k,hk,rfl,⟨n,rfl⟩,HN⟩:=hrel;by_cases hlt:k<l.length
  .obtain⟨b,off,rfl,hcell⟩:=hc (by omega)
   have hck:=hcell k hlt;by_cases hin:wD (dD l k) lo hi=true
   .by_cases h0:0<k
    .have lK:=hcell (k-1) (by omega)
     obtain⟨j,rfl⟩:∃j,k=j+1:=⟨k-1,by omega⟩;clear hcell hc;simp only[jE]at lK;by_cases hge:dD l (j+1)<=dD l j
     .go_wp2
      go_quiet ((go_at_call 92;first|exact Calls.quiet_of (jg _ _ _ _)|exact pg (jg _ _ _ _)))
      go_wp2
      go_ret
      exact⟨dI (Ha hlt (λh=>by have:=h.2.2 (by omega);simp at this;omega)).symm,(by first|exact rU _|exact xK _ _|exact z8 _ _ _|exact zZ _ _ _ _)⟩
     .have hd:decide (dD l (j+1)<=dD l j)=false:=by simpa using hge
      go_wp2
      go_quiet ((go_at_call 92;first|exact Calls.quiet_of (jg _ _ _ _)|exact pg (jg _ _ _ _)))
      go_wp2
      go_roundw
      case rel=>
       refine⟨j+1+1,by omega,by go_num,(by first|exact rU _|exact xK _ _|exact z8 _ _ _|exact zZ _ _ _ _),λi hi=>?_⟩;rcases fe i (j+1)with h|h
       .exact HN.out i h
       .obtain rfl:i=j+1:=by omega
        have:=hin;simp[wD]at this;exact⟨this.1,this.2,λ_=>by simp;omega⟩
      case measure=>simp[intOf];omega
    .have hd0:decide ((0:Int)<(k:Int))=false:=by simp;omega
     clear hcell hc;go_wp2
     go_quiet ((go_at_call 92;first|exact Calls.quiet_of (jg _ _ _ _)|exact pg (jg _ _ _ _)))
     go_wp2
     go_roundw
     case rel=>
      refine⟨k+1,by omega,by go_num,(by first|exact rU _|exact xK _ _|exact z8 _ _ _|exact zZ _ _ _ _),λi hi=>?_⟩;obtain rfl:i=k:=(by omega);have:=hin;simp[wD]at this;exact⟨this.1,this.2,λh=>absurd h (by omega)⟩
     case measure=>simp[intOf];omega
   .have hin':wD (dD l k) lo hi=false:=by simpa using hin
    clear hcell hc hin;go_wp2
    go_quiet ((go_at_call 92;first|exact Calls.quiet_of (jg _ _ _ _)|exact pg (jg _ _ _ _)))
    go_wp2
    go_ret
    refine⟨dI (Ha hlt (λh=>?_)).symm,(by first|exact rU _|exact xK _ _|exact z8 _ _ _|exact zZ _ _ _ _)⟩;have:=hin';simp[wD]at this;omega
  .go_wp2
   go_ret
   refine⟨dI ?_,(by first|exact rU _|exact xK _ _|exact z8 _ _ _|exact zZ _ _ _ _)⟩;have:=HN.out;rw[show k=l.length by omega]at this;exact(ve.2 this).symm
end
section
open Go.RowKit
variable {l m:List Int} {k:Nat}
def Gf:List Int->List Int->Int
 |[],[]=>0
 |[],_ :: _=>-1
 |_ :: _,[]=>1
 |a :: l,b :: m=>if a<b then -1 else if b<a then 1 else Gf l m
theorem L6(p a b:List Int):Gf (p++a) (p++b)=Gf a b:=by
 induction p with
 |nil=>rfl
 |cons x p ih=>simp[Gf,ih]
theorem rF(h:k<l.length):l.drop k=dD l k :: l.drop (k+1):=by
 rw[fQ h,kW h]
theorem Cq(h:l.take k=m.take k):Gf l m=Gf (l.drop k) (m.drop k):=by
 have e1:l=l.take k++l.drop k:=(jw k l).symm;have e2:m=l.take k++m.drop k:=by rw[h];exact(jw k m).symm
 have:=L6 (l.take k) (l.drop k) (m.drop k);rw[<-e1,<-e2]at this;exact this
theorem aaT(h:l.take k=m.take k)(hl:k<l.length)(hm:k<m.length)(hx:dD l k<dD m k):Gf l m=-1:=by
 rw[Cq h,rF hl,rF hm,Gf,if_pos hx]
theorem aaU(h:l.take k=m.take k)(hl:k<l.length)(hm:k<m.length)(hx:dD m k<dD l k):Gf l m=1:=by
 rw[Cq h,rF hl,rF hm,Gf,if_neg (by omega),if_pos hx]
theorem Ua(h:l.take l.length=m.take l.length)(hm:l.length<m.length):Gf l m=-1:=by
 rw[Cq h,rF hm];simp[Gf]
theorem T9(h:l.take m.length=m.take m.length)(hm:m.length<l.length):Gf l m=1:=by
 rw[Cq h,rF hm];simp[Gf]
theorem TZ(h:l.take l.length=m.take l.length)(hm:l.length=m.length):Gf l m=0:=by
 rw[Cq h,hm,List.drop_length,<-hm,List.drop_length];rfl
theorem wV(v u:Value)(l m:List Int)(w:World)(h:Ints w v l)(g:Ints w u m):
 Calls prog 166 #[v,u] w λe w'=>e=.returned (.int .i64 (Gf l m))/\RD w w':=by
 obtain⟨a,cap,rfl,hlc,hcap,hc⟩:=h;obtain⟨a',cap',rfl,Xg,Nt,hc'⟩:=g;go_enter Tryz.func166,Tryz.ntmps166
 go_wp2
 go_loopw [5] (λi wr=>∃k:Nat,k<=l.length/\k<=m.length/\i=.int .i64 k/\RD w wr/\Hid (l.take k=m.take k)) (λi _=>l.length-(intOf i).toNat)
 case atStart=>exact⟨0,az _,az _,rfl,rU _,by simp[Hid]⟩
 case round=>
  obtain⟨k,hk,hkm,rfl,⟨n,rfl⟩,HN⟩:=hrel;by_cases hlt:k<l.length
  .by_cases hlm:k<m.length
   .obtain⟨b,off,rfl,hcell⟩:=hc (by omega)
    obtain⟨b',off',rfl,hcell'⟩:=hc' (by omega);have hck:=hcell k hlt;have Xq:=hcell' k hlm;clear hcell hc hcell' hc';by_cases Pk:dD l k<dD m k
    .have hne:(dD l k != dD m k)=true:=by simp;omega
     go_wp2
     go_quiet (fail)
     go_wp2
     go_quiet (fail)
     go_wp2
     go_ret
     exact⟨jy (aaT HN.out hlt hlm Pk).symm,(by first|exact rU _|exact xK _ _|exact z8 _ _ _|exact zZ _ _ _ _)⟩
    .by_cases hgt:dD m k<dD l k
     .have hne:(dD l k != dD m k)=true:=by simp;omega
      have hd:decide (dD l k<dD m k)=false:=(by simpa using Pk);go_wp2
      go_quiet (fail)
      go_wp2
      go_quiet (fail)
      go_wp2
      go_ret
      exact⟨jy (aaU HN.out hlt hlm hgt).symm,(by first|exact rU _|exact xK _ _|exact z8 _ _ _|exact zZ _ _ _ _)⟩
     .have hne:(dD l k != dD m k)=false:=by simp;omega
      go_wp2
      go_quiet (fail)
      go_wp2
      go_roundw
      case rel=>
       refine⟨k+1,by omega,by omega,by go_num,(by first|exact rU _|exact xK _ _|exact z8 _ _ _|exact zZ _ _ _ _),?_⟩;show _=_;rw[mX hlt,mX hlm,HN.out,show dD l k=dD m k by omega]
      case measure=>simp[intOf];omega
   .have hge:m.length<l.length\/l.length=m.length:=by omega
    have hmk:k=m.length:=(by omega);have HK:=aI hmk;have hgt:m.length<l.length:=(by omega);clear hmk hge;go_wp2
    go_ret
    exact⟨jy (T9 (by rw[<-HK.out];exact HN.out) hgt).symm,(by first|exact rU _|exact xK _ _|exact z8 _ _ _|exact zZ _ _ _ _)⟩
  .have hlk:k=l.length:=by omega
   have HK:=aI hlk;clear hlk;go_wp2
   .have h1:l.length<m.length:=by assumption
    go_ret
    exact⟨jy (Ua (by rw[<-HK.out];exact HN.out) h1).symm,(by first|exact rU _|exact xK _ _|exact z8 _ _ _|exact zZ _ _ _ _)⟩
   .have h1:¬l.length<m.length:=by assumption
    go_ret
    have e:=HK.out;exact⟨jy (TZ (by rw[<-e];exact HN.out) (by omega)).symm,(by first|exact rU _|exact xK _ _|exact z8 _ _ _|exact zZ _ _ _ _)⟩
end
section
open Go.RowKit
open aZ (cZ Nd vl Same Gm Canon eU)
variable {l us:List Int} {s:List UInt8} {e n:Nat} {c:UInt8}
def cutAt(us:List Int)(s:List UInt8)(e:Nat):Nat->List Int × List Int × List UInt8
 | 0=>([],[],[])
 |k+1=>
  if k=e\/(0<=dD us k/\dD (cutAt us s e k).1 (dD us k).toNat=-2)then((cutAt us s e k).1++[-2],(cutAt us s e k).2.1,(cutAt us s e k).2.2)
  else((cutAt us s e k).1++[((cutAt us s e k).2.1.length:Int)],(cutAt us s e k).2.1++[if 0<=dD us k then dD (cutAt us s e k).1 (dD us k).toNat else -1],(cutAt us s e k).2.2++[s.getD k 0])
def iJ(us:List Int)(s:List UInt8)(e:Nat):List Int:=(cutAt us s e us.length).2.1
def lW(us:List Int)(s:List UInt8)(e:Nat):List UInt8:=(cutAt us s e us.length).2.2
structure GT(us:List Int)(s:List UInt8):Prop where
 len:us.length=s.length
 small:us.length<=8
 sign:∀c,c∈s->c=76\/c=82
 up:∀i,i<us.length->-1<=dD us i/\dD us i<(i:Int)
theorem lC{m:List Int}{i:Nat}(h:i<l.length):dD (l++m) i=dD l i:=by simp[dD,bQ h]
theorem nQ{x:Int}:dD (l++[x]) l.length=x:=by simp[dD]
structure abm(us:List Int)(s:List UInt8)(e k:Nat)(at_ ou:List Int)(os:List UInt8):Prop where
 len:at_.length=k
 same:ou.length=os.length
 le:ou.length<=k
 lt:e<k->ou.length<k
 pl:∀j,j<k->dD at_ j=-2\/(0<=dD at_ j/\dD at_ j<(ou.length:Int))
 sign:∀c,c∈os->c=76\/c=82
 up:∀i,i<ou.length->-1<=dD ou i/\dD ou i<(i:Int)
theorem yw(h:GT us s)(e:Nat):∀k,k<=us.length->abm us s e k (cutAt us s e k).1 (cutAt us s e k).2.1 (cutAt us s e k).2.2:=by
 intro k
 induction k with
 |zero=>intro _;exact⟨rfl,rfl,ax _,λh=>absurd h (by omega),λj h=>absurd h (by omega),by simp[cutAt],by simp[cutAt]⟩
 |succ k ih=>
  intro hk;have I:=ih (by omega);rw[cutAt];generalize (cutAt us s e k).1=at_ at *;generalize (cutAt us s e k).2.1=ou at *;generalize (cutAt us s e k).2.2=os at *;have hl:=I.len;by_cases hc:k=e\/(0<=dD us k/\dD at_ (dD us k).toNat=-2)
  .rw[if_pos hc]
   refine⟨by simp[hl],I.same,by have:=I.le;dsimp only;omega,λ_=>by have:=I.le;dsimp only;omega,λj hj=>?_,I.sign,I.up⟩;by_cases hjk:j<k
   .dsimp only;rw[lC (by omega)];exact I.pl j hjk
   .have:j=at_.length:=by omega
    subst this;dsimp only;rw[nQ];exact .inl rfl
  .rw[if_neg hc]
   have hu:=h.up k (by omega);have hnew:-1<=(if 0<=dD us k then dD at_ (dD us k).toNat else -1)/\(if 0<=dD us k then dD at_ (dD us k).toNat else -1)<(ou.length:Int):=by
    split
    .rename_i h0
     rcases I.pl (dD us k).toNat (by omega)with p|p
     .exact absurd (.inr ⟨h0,p⟩) hc
     .omega
    .omega
   refine⟨by simp[hl],by simp[I.same],by have:=I.le;simp;omega,λhe=>by have:=I.lt (by omega);simp;omega,λj hj=>?_,?_,λi hi=>?_⟩
   .by_cases hjk:j<k
    .dsimp only;rw[lC (by omega)]
     rcases I.pl j hjk with p|p
     .exact .inl p
     .exact .inr ⟨p.1,by simp;omega⟩
    .have:j=at_.length:=by omega
     subst this;dsimp only;rw[nQ];exact .inr ⟨by omega,by simp;omega⟩
   .intro c hcm
    rcases aM.1 hcm with p|p
    .exact I.sign c p
    .simp only[dB]at p
     subst p;refine h.sign _ ?_;rw[aO,ae (by have:=h.len;omega),gM];exact aj _
   .dsimp only at hi ⊢
    by_cases hio:i<ou.length
    .rw[lC hio];exact I.up i hio
    .have:i=ou.length:=by simp at hi;omega
     subst this;rw[nQ];exact hnew
theorem qh(h:GT us s)(he:e<us.length):GT (iJ us s e) (lW us s e)/\(iJ us s e).length<us.length:=by
 have I:=yw h e us.length (ax _);exact⟨⟨I.same,by have:=I.le;have:=h.small;unfold iJ;omega,I.sign,I.up⟩,I.lt he⟩
def dU(s:List UInt8)(left:Bool)(k:Nat):List Nat:=(List.range k).filter λi=>(s.getD i 0 == 76)== left
theorem sU(s:List UInt8)(left:Bool)(k:Nat):dU s left (k+1)=if ((s.getD k 0 == 76)== left)=true then dU s left k++[k]else dU s left k:=by
 simp only[dU,nA,jF];split <;> simp_all
theorem uR{left:Bool}{k:Nat}(h:e∈dU s left k):e<k:=by
 simp[dU]at h;exact h.1
theorem lV(s:List UInt8)(k:Nat):(dU s true k).length+(dU s false k).length=k:=by
 induction k with
 |zero=>rfl
 |succ k ih=>
  rw[sU,sU];cases hc:(s.getD k 0 == 76)<;> simp <;> omega
def Vk:Nat->List Int->List UInt8->Gm
 | 0,_,_=>.mk [] []
 |n+1,us,s=>.mk ((dU s true us.length).map λe=>Vk n (iJ us s e) (lW us s e)) ((dU s false us.length).map λe=>Vk n (iJ us s e) (lW us s e))
def tg(us:List Int)(s:List UInt8):Gm:=Vk us.length us s
theorem AZ:∀n m {us:List Int} {s:List UInt8},GT us s->us.length<=n->us.length<=m->Vk n us s=Vk m us s:=by
 intro n
 induction n with
 |zero=>
  intro m us s h hn hm;cases m with
  |zero=>rfl
  |succ m=>have:us.length=0:=by omega
           simp[Vk,dU,this]
 |succ n ih=>
  intro m us s h hn hm;cases m with
  |zero=>have:us.length=0:=by omega
         simp[Vk,dU,this]
  |succ m=>
   rw[Vk,Vk];congr 1
   all_goals
    apply bE;intro e he;obtain⟨g,l⟩:=qh h (uR he);exact ih m g (by omega) (by omega)
theorem MI(h:GT us s):tg us s=.mk ((dU s true us.length).map λe=>tg (iJ us s e) (lW us s e)) ((dU s false us.length).map λe=>tg (iJ us s e) (lW us s e)):=by
 rw[tg,AZ us.length (us.length+1) h (ax _) (by omega),Vk];congr 1
 all_goals
  apply bE;intro e he;obtain⟨g,l⟩:=qh h (uR he);exact AZ _ _ g (by omega) (by omega)
def kN:Nat->Nat
 | 0=>1
 |n+1=>1+(n+1)*kN n
theorem vL:∀{n m:Nat},n<=m->kN n<=kN m:=by
 have step:∀n,kN n<=kN (n+1):=λn=>by
  rw[kN];have:1*kN n<=(n+1)*kN n:=kV _ (by omega);omega
 intro n m h
 induction m with
 |zero=>have:n=0:=by omega
        subst this;exact ax _
 |succ m ih=>
  by_cases e:n=m+1
  .subst e;exact ax _
  .exact df (ih (by omega)) (step m)
theorem kN_8(h:n<=8):kN n<=109601:=df (vL h) (by decide)
theorem ZI(n:Nat):1<=kN n:=df (by decide) (vL (az n))
theorem Ni{a:Nat}(h:a+1<=n):a*kN (n-1)+kN (n-1)+1<=kN n:=by
 obtain⟨m,rfl⟩:∃m,n=m+1:=⟨n-1,by omega⟩;rw[jE,kN,<-Nat.succ_mul];have:(a+1)*kN m<=(m+1)*kN m:=kV _ h;rw[Nat.succ_eq_add_one];omega
def oU(n:Int):List UInt8:=if n<0 then [45,49]else [UInt8.ofNat (48+n.toNat)]
def txt(c:UInt8):List Int->List UInt8
 |[]=>[]
 |u :: us=>(c :: oU u)++txt c us
theorem Gv(c:UInt8)(us:List Int)(u:Int):txt c (us++[u])=txt c us++(c :: oU u):=by
 induction us with
 |nil=>simp[txt]
 |cons a us ih=>simp only[List.cons_append,txt,ih,dh]
theorem Rz{u v:Int}(hu:-1<=u/\u<10)(hv:-1<=v/\v<10){a b:List UInt8}(h:oU u++a=oU v++b):u=v/\a=b:=by
 have hx:∀x:Int,-1<=x/\x<10->x=-1\/x=0\/x=1\/x=2\/x=3\/x=4\/x=5\/x=6\/x=7\/x=8\/x=9:=by intro x hx;omega
 rcases hx u hu with rfl|rfl|rfl|rfl|rfl|rfl|rfl|rfl|rfl|rfl|rfl <;> rcases hx v hv with rfl|rfl|rfl|rfl|rfl|rfl|rfl|rfl|rfl|rfl|rfl <;> simp_all [oU]
theorem VU:∀{us vs:List Int},(∀u,u∈us->-1<=u/\u<10)->(∀u,u∈vs->-1<=u/\u<10)->txt c us=txt c vs->us=vs:=by
 intro us
 induction us with
 |nil=>intro vs _ _ h;cases vs with
  |nil=>rfl
  |cons v vs=>simp[txt]at h
 |cons u us ih=>
  intro vs hu hv h;cases vs with
  |nil=>simp[txt]at h
  |cons v vs=>
   simp only[txt,List.cons_append,iZ,true_and]at h;obtain⟨e,h2⟩:=Rz (hu u (by simp)) (hv v (by simp)) h;rw[e,ih (λx hx=>hu x (by simp[hx])) (λx hx=>hv x (by simp[hx])) h2]
theorem Gy(hc:c≠76/\c≠82){vs:List Int}{t:List UInt8}(g:GT us s)(k:GT vs t)(h:s++txt c us=t++txt c vs):us=vs/\s=t:=by
 have key:∀{s t a b:List UInt8},(∀x,x∈s->x≠c)->(∀x,x∈t->x≠c)->(a=[]\/∃r,a=c :: r)->(b=[]\/∃r,b=c :: r)->s++a=t++b->s=t/\a=b:=by
  intro s
  induction s with
  |nil=>
   intro t a b _ ht ha hb h;cases t with
   |nil=>exact⟨rfl,h⟩
   |cons x t=>
    simp at h;rcases ha with rfl|⟨r,rfl⟩
    .simp at h
    .simp at h;exact absurd h.1.symm (ht x (by simp))
  |cons y s ih=>
   intro t a b hs ht ha hb h;cases t with
   |nil=>
    simp at h;rcases hb with rfl|⟨r,rfl⟩
    .simp at h
    .simp at h;exact absurd h.1 (hs y (by simp))
   |cons x t=>
    simp only[List.cons_append,iZ]at h;obtain⟨e1,e2⟩:=ih (λz hz=>hs z (by simp[hz])) (λz hz=>ht z (by simp[hz])) ha hb h.2;exact⟨by rw[h.1,e1],e2⟩
 have ht:∀us:List Int,txt c us=[]\/∃r,txt c us=c :: r:=λus=>by cases us with
  |nil=>exact .inl rfl
  |cons u us=>exact .inr ⟨_,rfl⟩
 have hs:∀{us:List Int} {s:List UInt8},GT us s->∀x,x∈s->x≠c:=λg x hx e=>by
  subst e;rcases g.sign x hx with h|h
  .exact hc.1 h
  .exact hc.2 h
 have hu:∀{us:List Int} {s:List UInt8},GT us s->∀u,u∈us->-1<=u/\u<10:=λg u hu=>by
  obtain⟨i,hi,rfl⟩:=aH.1 hu;have:=g.up i hi;have:=g.small;rw[kW hi]at *;omega
 obtain⟨e1,e2⟩:=key (hs g) (hs k) (ht us) (ht vs) h;exact⟨VU (hu g) (hu k) e2,e1⟩
def kg(F:cZ)(us:List Int)(s:List UInt8):Prop:=aZ.eD F/\∃g,Same (aZ.eQ F) g/\Canon g/\eU g (tg us s)
end
section
open Go.RowKit
def vR(n:Int):ByteArray:=⟨(oU n).toArray⟩
theorem DX(n:Int):(vR n).data.toList=oU n:=by simp[vR]
theorem digit_eq{n:Nat}(h:n<10):({ data:=#[48,49,50,51,52,53,54,55,56,57] }:ByteArray).extract n (n+1)=vR n:=by
 have:n=0\/n=1\/n=2\/n=3\/n=4\/n=5\/n=6\/n=7\/n=8\/n=9:=by omega
 rcases this with rfl|rfl|rfl|rfl|rfl|rfl|rfl|rfl|rfl|rfl <;> decide
theorem D9(n:Nat)(hn:n<10)(w:World):Calls prog 93 #[.int .i64 (n:Int)] w λe w'=>e=.returned (.string (vR n))/\w'=w:=by
 go_enter Tryz.func93,Tryz.ntmps93
 go_wp2_with fail
 go_ret
 exact⟨congrArg (λt=>Ending.returned (.string t)) (digit_eq hn),rfl⟩
theorem O0(n:Int)(h1:-1<=n)(h2:n<10)(w:World):Calls prog 93 #[.int .i64 n] w λe w'=>e=.returned (.string (vR n))/\w'=w:=by
 by_cases h0:n<0
 .have e1:n=-1:=by omega
  subst e1;go_enter Tryz.func93,Tryz.ntmps93
  go_wp2_with (go_at_call 93;refine(D9 1 (by omega) _).mono ?_;rintro e w' ⟨rfl,rfl⟩)
  go_ret
  exact⟨congrArg (λt=>Ending.returned (.string t)) (by decide),rfl⟩
 .obtain⟨k,rfl⟩:∃k:Nat,n=k:=⟨n.toNat,by omega⟩
  exact D9 k (by omega) w
end
