/-
  Memory: slices of one-celled values that read as a list, strings among them; no condition. (6 texts.)
-/
import Derived.Test.YteknjeohbcgpdaaGreatDoorK0
import Derived.Test.YteknjeohbcgpdaaGreatDoorProg
import Derived.WalkKit
import Derived.Lib.Hide
import Derived.BigQuiet
set_option maxRecDepth 100000
namespace Go.Proofs.YteknjeohbcgpdaaGreatDoor
open Tryz
section
open Go.RowKit
variable {k:Nat} {l:List Int}
theorem gE.{u} {α:Type u}:(∀(l:List α) (i:Nat),l.toArray[i]?=l[i]?)/\(∀(a:α) (l:List α) (i:Nat),(a :: l)[i+1]?=l[i]?)/\∀(a:α) (l:List α),(a :: l)[0]?=some a:=⟨λ_ _=>by simp,λ_ _ _=>by simp,λ_ _=>by simp⟩
theorem nE.{u} {α:Type u}:(∀(l:List α) (i:Nat) (a:α),l.toArray.setIfInBounds i a=(l.set i a).toArray)/\(∀(a b:α) (l:List α),(a :: l).set 0 b=b :: l)/\∀(a b:α) (l:List α) (i:Nat),(a :: l).set (i+1) b=a :: l.set i b:=⟨λ_ _ _=>by simp,λ_ _ _=>by simp,λ_ _ _ _=>by simp⟩
theorem nP:(∀(a:Act) (i:Nat) (v:Value),a.put (some i) v={ a with tmps:=a.tmps.setIfInBounds i v })/\(∀(a:Act) (v:Value),a.put none v=a)/\(∀(l:List Value) (i:Nat) (a:Value),l.toArray.setIfInBounds i a=(l.set i a).toArray)/\(∀(a b:Value) (l:List Value),(a :: l).set 0 b=b :: l)/\∀(a b:Value) (l:List Value) (i:Nat),(a :: l).set (i+1) b=a :: l.set i b:=⟨λ_ _ _=>rfl,λ_ _=>rfl,λ_ _ _=>by simp,λ_ _ _=>by simp,λ_ _ _ _=>by simp⟩
theorem aQ{p:Prop}(h:p):Hid p:=h
theorem eQ(w:World)(o:Obj):(w.alloc o).heap.size=w.heap.size+1:=by simp
theorem kH{k:IntKind}{a b:Int}(h:a=b):Ending.returned (.int k a)=.returned (.int k b):=by rw[h]
theorem fE{a b:Bool}(h:a=b):Ending.returned (.bool a)=.returned (.bool b):=by rw[h]
theorem qd{P:Program}{f:FuncId}{args:Array Value}{w:World}{a n:Nat}{v:Value}
 (h:Calls P f args (w.drewN (a+n)) λe w'=>e=.returned v/\∃m,w'=(w.drewN (a+n)).drewN m):
 Calls P f args (w.drewN (a+n)) λe w''=>e=.returned v/\∃m,w''=w.drewN (a+m):=
 h.mono λ_ _ ⟨he,m,hm⟩=>⟨he,n+m,by rw[hm,World.drewN_drewN,Nat.add_assoc]⟩
def RD(w w':World):Prop:=∃n,w'=w.drewN n
theorem xQ(w:World):RD w w:=⟨0,rfl⟩
theorem Db(w:World)(n:Nat):RD w (w.drewN n):=⟨n,rfl⟩
theorem Da(w:World)(n m:Nat):RD w ((w.drewN n).drewN m):=⟨n+m,by simp⟩
theorem C9(w:World)(n m k:Nat):RD w (((w.drewN n).drewN m).drewN k):=⟨n+m+k,by simp⟩
def jo(l:List Int)(k:Nat):Int:=l[k]?.getD 0
theorem o6(h:k<l.length):jo l k=l[k]:=by simp[jo,h]
theorem Gt(h:k<l.length):jo l k∈l:=by rw[o6 h];exact ai h
theorem qp(h:k<l.length):l.take (k+1)=l.take k++[jo l k]:=by
 rw[bg h,o6 h]
def mI(l:List Int)(n:Int):Bool:=decide (n∈l)
def Ints(w:World)(v:Value)(l:List Int):Prop:=
 ∃a cap,v=.slice a l.length cap/\l.length<=cap/\l.length<=1152921504606846976/\
  (0<l.length->∃b off,a=some ⟨b,off,none⟩/\∀i,i<l.length->w.cell? ⟨b,off+i,none⟩=some (.int .i64 (jo l i)))
end
section
open Go.RowKit
variable {l:List Int} {lo hi:Int}
def CB(x a b:Int):Bool:=decide (a<=x) && decide (x<=b)
theorem jC(x a b:Int)(w:World):Calls prog 60 #[.int .i64 x,.int .i64 a,.int .i64 b] w λe w'=>e=.returned (.bool (CB x a b))/\RD w w':=by
 by_cases h1:a<=x
 .go_enter Tryz.func60,Tryz.ntmps60
  go_wp2
  go_ret
  exact⟨fE (by simp[CB,h1]),(by first|exact xQ _|exact Db _ _|exact Da _ _ _|exact C9 _ _ _ _)⟩
 .have hd:decide (a<=x)=false:=by simpa using h1
  go_enter Tryz.func60,Tryz.ntmps60
  go_wp2
  go_ret
  exact⟨fE (by simp[CB,hd]),(by first|exact xQ _|exact Db _ _|exact Da _ _ _|exact C9 _ _ _ _)⟩
theorem qy(a b:Int)(w:World):Calls prog 158 #[.int .i64 a,.int .i64 b] w λe w'=>e=.returned (.int .i64 (max a b))/\RD w w':=by
 go_enter Tryz.func158,Tryz.ntmps158
 go_wp2
 all_goals go_ret
 all_goals exact⟨kH (by omega),(by first|exact xQ _|exact Db _ _|exact Da _ _ _|exact C9 _ _ _ _)⟩
theorem QY(l:List Int)(x n:Int):mI (l++[x]) n=(mI l n || decide (n=x)):=by
 simp[mI]
theorem qh(v:Value)(l:List Int)(n:Int)(w:World)(h:Ints w v l):
 Calls prog 207 #[v,.int .i64 n] w λe w'=>e=.returned (.bool (mI l n))/\RD w w':=by
 obtain⟨a,cap,rfl,hlc,hcap,hc⟩:=h;go_enter Tryz.func207,Tryz.ntmps207
 go_wp2
 go_loop [5] (λi=>∃k:Nat,k<=l.length/\i=.int .i64 k/\Hid (mI (l.take k) n=false)) (λi=>l.length-(intOf i).toNat)
 case atStart=>exact⟨0,aJ _,rfl,by simp[Hid,mI]⟩
 case round=>
  obtain⟨k,hk,rfl,HN⟩:=hrel;by_cases hlt:k<l.length
  .obtain⟨b,off,rfl,hcell⟩:=hc (by omega)
   have hck:=hcell k hlt;clear hcell hc;go_wp2
   .have heq:(jo l k == n)=true:=by assumption
    go_ret
    refine⟨fE ?_,(by first|exact xQ _|exact Db _ _|exact Da _ _ _|exact C9 _ _ _ _)⟩;have e:jo l k=n:=(by simpa using heq);have:=Gt hlt;simp[mI,<-e,this]
   .have hne:(jo l k == n)=false:=by assumption
    go_round
    case rel=>
     refine⟨k+1,by omega,by go_num,?_⟩;have:=HN.out;show mI _ _=_;rw[qp hlt,QY,this];simp at hne ⊢;exact λh=>hne h.symm
    case measure=>simp[intOf];omega
  .go_wp2
   go_ret
   refine⟨fE ?_,(by first|exact xQ _|exact Db _ _|exact Da _ _ _|exact C9 _ _ _ _)⟩;have:=HN.out;rw[bU (by omega)]at this;exact this.symm
def uE(a b:List Int):Bool:=decide (a=b)
theorem qx(v u:Value)(l m:List Int)(w:World)(h:Ints w v l)(g:Ints w u m):
 Calls prog 181 #[v,u] w λe w'=>e=.returned (.bool (uE l m))/\RD w w':=by
 obtain⟨a,cap,rfl,hlc,hcap,hc⟩:=h;obtain⟨a',cap',rfl,YV,O7,hc'⟩:=g;by_cases hll:l.length=m.length
 .have hb:((l.length:Int)== m.length)=true:=by simp[hll]
  have hb':((l.length:Int) != m.length)=false:=by simp[hll]
  have HL:=aQ hll;have hle:m.length<=l.length:=by omega
  have aqp:l.length<=m.length:=by omega
  clear hll;go_enter Tryz.func181,Tryz.ntmps181
  go_wp2
  go_loopw [5] (λi wr=>∃k:Nat,k<=l.length/\i=.int .i64 k/\RD w wr/\Hid (l.take k=m.take k)) (λi _=>l.length-(intOf i).toNat)
  case atStart=>exact⟨0,aJ _,rfl,xQ _,by simp[Hid]⟩
  case round=>
   obtain⟨k,hk,rfl,⟨n,rfl⟩,HN⟩:=hrel;by_cases hlt:k<l.length
   .have afm:k<m.length:=by omega
    obtain⟨b,off,rfl,hcell⟩:=hc (by omega);obtain⟨b',off',rfl,hcell'⟩:=hc' (by omega);have hck:=hcell k hlt;have Vg:=hcell' k afm;clear hcell hc hcell' hc';go_wp2
    go_quiet (fail)
    go_wp2
    .have hne:(jo l k != jo m k)=true:=by assumption
     go_ret
     refine⟨fE ?_,(by first|exact xQ _|exact Db _ _|exact Da _ _ _|exact C9 _ _ _ _)⟩;have:l≠m:=λe=>by rw[e]at hne;simp at hne
     simp[uE,this]
    .have hne:(jo l k != jo m k)=false:=by assumption
     go_roundw
     case rel=>
      refine⟨k+1,by omega,by go_num,(by first|exact xQ _|exact Db _ _|exact Da _ _ _|exact C9 _ _ _ _),?_⟩;show _=_;rw[qp hlt,qp afm,HN.out];simp at hne;rw[hne]
     case measure=>simp[intOf];omega
   .go_wp2
    go_ret
    refine⟨fE ?_,(by first|exact xQ _|exact Db _ _|exact Da _ _ _|exact C9 _ _ _ _)⟩;have:=HN.out;rw[bU (by omega),bU (by omega)]at this;simp[uE,this]
 .have hb:((l.length:Int)== m.length)=false:=by simp;omega
  have hb':((l.length:Int) != m.length)=true:=by simp;omega
  have HL:=aQ hll;clear hll;go_enter Tryz.func181,Tryz.ntmps181
  go_wp2
  go_ret
  refine⟨fE ?_,(by first|exact xQ _|exact Db _ _|exact Da _ _ _|exact C9 _ _ _ _)⟩;have:l≠m:=λe=>HL.out (by rw[e])
  simp[uE,this]
def GH(l:List Int)(lo hi:Int)(k:Nat):Prop:=∀j,j<k->lo<=jo l j/\jo l j<=hi/\(0<j->jo l (j-1)<jo l j)
def rises(l:List Int)(lo hi:Int):Bool:=(List.range l.length).all λj=>decide (lo<=jo l j) && decide (jo l j<=hi) && decide (0<j->jo l (j-1)<jo l j)
theorem Ai:rises l lo hi=true↔GH l lo hi l.length:=by simp[rises,GH,and_assoc,Nat.pos_iff_ne_zero,Classical.or_iff_not_imp_left]
theorem Ju{k:Nat}(hk:k<l.length)(h:¬(lo<=jo l k/\jo l k<=hi/\(0<k->jo l (k-1)<jo l k))):rises l lo hi=false:=by
 rw[l8];intro e;exact h (Ai.1 e k hk)
set_option maxHeartbeats 400000 in
theorem Ha(v:Value)(l:List Int)(lo hi:Int)(w:World)(h:Ints w v l):
 Calls prog 136 #[v,.int .i64 lo,.int .i64 hi] w λe w'=>e=.returned (.bool (rises l lo hi))/\RD w w':=by
 obtain⟨a,cap,rfl,hlc,hcap,hc⟩:=h;go_enter Tryz.func136,Tryz.ntmps136
 go_wp2
 go_loopw [7] (λi wr=>∃k:Nat,k<=l.length/\i=.int .i64 k/\RD w wr/\Hid (GH l lo hi k)) (λi _=>l.length-(intOf i).toNat)
 case atStart=>exact⟨0,aJ _,rfl,xQ _,λj h=>absurd h (by omega)⟩
 case round=>
  obtain⟨k,hk,rfl,⟨n,rfl⟩,HN⟩:=hrel;by_cases hlt:k<l.length
  .obtain⟨b,off,rfl,hcell⟩:=hc (by omega)
   have hck:=hcell k hlt;by_cases hin:CB (jo l k) lo hi=true
   .by_cases h0:0<k
    .have mZ:=hcell (k-1) (by omega)
     obtain⟨j,rfl⟩:∃j,k=j+1:=⟨k-1,by omega⟩;clear hcell hc;simp only[qj]at mZ;by_cases hge:jo l (j+1)<=jo l j
     .go_wp2
      go_quiet ((go_at_call 60;first|exact Calls.quiet_of (jC _ _ _ _)|exact qd (jC _ _ _ _)))
      go_wp2
      go_ret
      exact⟨fE (Ju hlt (λh=>by have:=h.2.2 (by omega);simp at this;omega)).symm,(by first|exact xQ _|exact Db _ _|exact Da _ _ _|exact C9 _ _ _ _)⟩
     .have hd:decide (jo l (j+1)<=jo l j)=false:=by simpa using hge
      go_wp2
      go_quiet ((go_at_call 60;first|exact Calls.quiet_of (jC _ _ _ _)|exact qd (jC _ _ _ _)))
      go_wp2
      go_roundw
      case rel=>
       refine⟨j+1+1,by omega,by go_num,(by first|exact xQ _|exact Db _ _|exact Da _ _ _|exact C9 _ _ _ _),λi hi=>?_⟩;rcases fI i (j+1)with h|h
       .exact HN.out i h
       .obtain rfl:i=j+1:=by omega
        have:=hin;simp[CB]at this;exact⟨this.1,this.2,λ_=>by simp;omega⟩
      case measure=>simp[intOf];omega
    .have hd0:decide ((0:Int)<(k:Int))=false:=by simp;omega
     clear hcell hc;go_wp2
     go_quiet ((go_at_call 60;first|exact Calls.quiet_of (jC _ _ _ _)|exact qd (jC _ _ _ _)))
     go_wp2
     go_roundw
     case rel=>
      refine⟨k+1,by omega,by go_num,(by first|exact xQ _|exact Db _ _|exact Da _ _ _|exact C9 _ _ _ _),λi hi=>?_⟩;obtain rfl:i=k:=(by omega);have:=hin;simp[CB]at this;exact⟨this.1,this.2,λh=>absurd h (by omega)⟩
     case measure=>simp[intOf];omega
   .have hin':CB (jo l k) lo hi=false:=by simpa using hin
    clear hcell hc hin;go_wp2
    go_quiet ((go_at_call 60;first|exact Calls.quiet_of (jC _ _ _ _)|exact qd (jC _ _ _ _)))
    go_wp2
    go_ret
    refine⟨fE (Ju hlt (λh=>?_)).symm,(by first|exact xQ _|exact Db _ _|exact Da _ _ _|exact C9 _ _ _ _)⟩;have:=hin';simp[CB]at this;omega
  .go_wp2
   go_ret
   refine⟨fE ?_,(by first|exact xQ _|exact Db _ _|exact Da _ _ _|exact C9 _ _ _ _)⟩;have:=HN.out;rw[show k=l.length by omega]at this;exact(Ai.2 this).symm
end
section
open Go.RowKit
variable {l m:List Int} {k:Nat}
def I1:List Int->List Int->Int
 |[],[]=>0
 |[],_ :: _=>-1
 |_ :: _,[]=>1
 |a :: l,b :: m=>if a<b then -1 else if b<a then 1 else I1 l m
theorem Ny(p a b:List Int):I1 (p++a) (p++b)=I1 a b:=by
 induction p with
 |nil=>rfl
 |cons x p ih=>simp[I1,ih]
theorem sV(h:k<l.length):l.drop k=jo l k :: l.drop (k+1):=by
 rw[lg h,o6 h]
theorem Ea(h:l.take k=m.take k):I1 l m=I1 (l.drop k) (m.drop k):=by
 have e1:l=l.take k++l.drop k:=(iV k l).symm;have e2:m=l.take k++m.drop k:=by rw[h];exact(iV k m).symm
 have:=Ny (l.take k) (l.drop k) (m.drop k);rw[<-e1,<-e2]at this;exact this
theorem ade(h:l.take k=m.take k)(hl:k<l.length)(hm:k<m.length)(hx:jo l k<jo m k):I1 l m=-1:=by
 rw[Ea h,sV hl,sV hm,I1,if_pos hx]
theorem adf(h:l.take k=m.take k)(hl:k<l.length)(hm:k<m.length)(hx:jo m k<jo l k):I1 l m=1:=by
 rw[Ea h,sV hl,sV hm,I1,if_neg (by omega),if_pos hx]
theorem Wl(h:l.take l.length=m.take l.length)(hm:l.length<m.length):I1 l m=-1:=by
 rw[Ea h,sV hm];simp[I1]
theorem Wj(h:l.take m.length=m.take m.length)(hm:m.length<l.length):I1 l m=1:=by
 rw[Ea h,sV hm];simp[I1]
theorem Wi(h:l.take l.length=m.take l.length)(hm:l.length=m.length):I1 l m=0:=by
 rw[Ea h,hm,List.drop_length,<-hm,List.drop_length];rfl
set_option maxHeartbeats 400000 in
theorem yC(v u:Value)(l m:List Int)(w:World)(h:Ints w v l)(g:Ints w u m):
 Calls prog 209 #[v,u] w λe w'=>e=.returned (.int .i64 (I1 l m))/\RD w w':=by
 obtain⟨a,cap,rfl,hlc,hcap,hc⟩:=h;obtain⟨a',cap',rfl,YV,O7,hc'⟩:=g;go_enter Tryz.func209,Tryz.ntmps209
 go_wp2
 go_loopw [5] (λi wr=>∃k:Nat,k<=l.length/\k<=m.length/\i=.int .i64 k/\RD w wr/\Hid (l.take k=m.take k)) (λi _=>l.length-(intOf i).toNat)
 case atStart=>exact⟨0,aJ _,aJ _,rfl,xQ _,by simp[Hid]⟩
 case round=>
  obtain⟨k,hk,hkm,rfl,⟨n,rfl⟩,HN⟩:=hrel;by_cases hlt:k<l.length
  .by_cases hlm:k<m.length
   .obtain⟨b,off,rfl,hcell⟩:=hc (by omega)
    obtain⟨b',off',rfl,hcell'⟩:=hc' (by omega);have hck:=hcell k hlt;have Vg:=hcell' k hlm;clear hcell hc hcell' hc';by_cases QR:jo l k<jo m k
    .have hne:(jo l k != jo m k)=true:=by simp;omega
     go_wp2
     go_quiet (fail)
     go_wp2
     go_quiet (fail)
     go_wp2
     go_ret
     exact⟨kH (ade HN.out hlt hlm QR).symm,(by first|exact xQ _|exact Db _ _|exact Da _ _ _|exact C9 _ _ _ _)⟩
    .by_cases hgt:jo m k<jo l k
     .have hne:(jo l k != jo m k)=true:=by simp;omega
      have hd:decide (jo l k<jo m k)=false:=(by simpa using QR);go_wp2
      go_quiet (fail)
      go_wp2
      go_quiet (fail)
      go_wp2
      go_ret
      exact⟨kH (adf HN.out hlt hlm hgt).symm,(by first|exact xQ _|exact Db _ _|exact Da _ _ _|exact C9 _ _ _ _)⟩
     .have hne:(jo l k != jo m k)=false:=by simp;omega
      go_wp2
      go_quiet (fail)
      go_wp2
      go_roundw
      case rel=>
       refine⟨k+1,by omega,by omega,by go_num,(by first|exact xQ _|exact Db _ _|exact Da _ _ _|exact C9 _ _ _ _),?_⟩;show _=_;rw[qp hlt,qp hlm,HN.out,show jo l k=jo m k by omega]
      case measure=>simp[intOf];omega
   .have hge:m.length<l.length\/l.length=m.length:=by omega
    have hmk:k=m.length:=(by omega);have HK:=aQ hmk;have hgt:m.length<l.length:=(by omega);clear hmk hge;go_wp2
    go_ret
    exact⟨kH (Wj (by rw[<-HK.out];exact HN.out) hgt).symm,(by first|exact xQ _|exact Db _ _|exact Da _ _ _|exact C9 _ _ _ _)⟩
  .have hlk:k=l.length:=by omega
   have HK:=aQ hlk;clear hlk;go_wp2
   .have h1:l.length<m.length:=by assumption
    go_ret
    exact⟨kH (Wl (by rw[<-HK.out];exact HN.out) h1).symm,(by first|exact xQ _|exact Db _ _|exact Da _ _ _|exact C9 _ _ _ _)⟩
   .have h1:¬l.length<m.length:=by assumption
    go_ret
    have e:=HK.out;exact⟨kH (Wi (by rw[<-e];exact HN.out) (by omega)).symm,(by first|exact xQ _|exact Db _ _|exact Da _ _ _|exact C9 _ _ _ _)⟩
end
section
open Go.RowKit
variable {a w w' W wr w1:World} {b B n size:Nat} {v:Value} {l:List Int} {e:TypeId} {xs:List Value} {o:Option Nat}
abbrev Ext(w w':World):Prop:=Below w.heap.size w w'
theorem ax{b c:World}(h:Ext a b)(k:Ext b c):Ext a c:=h.trans (k.mono h.size)
theorem eU(h:RD w w'):Ext w w':=by obtain⟨n,rfl⟩:=h;exact⟨rfl,rfl,rfl,ay _,λ_ _=>rfl⟩
theorem WH(h:Below B a w)(n:Nat):Below B a (w.drewN n):=⟨h.os,h.tape,h.output,h.size,h.block⟩
theorem Ints.nil(w:World)(a:Option Addr)(cap:Nat):Ints w (.slice a 0 cap) []:=
 ⟨a,cap,rfl,aJ _,aJ _,λh=>absurd h (by simp)⟩
theorem lt_of_cell{a:Addr}(h:w.cell? a=some v):a.block<w.heap.size:=World.block_lt_of_cell? w a h
theorem Ints.keep(h:Ints w v l)(hk:∀b,l≠[]->v.ownBlock=some b->w'.heap[b]?=w.heap[b]?):Ints w' v l:=by
 obtain⟨a,cap,rfl,h1,h2,h3⟩:=h;refine⟨a,cap,rfl,h1,h2,λh0=>?_⟩;obtain⟨b,off,rfl,hc⟩:=h3 h0;refine⟨b,off,rfl,λi hi=>?_⟩;rw[World.cell?_of_block (w:=w) (hk b (by intro e;simp[e]at h0) rfl)];exact hc i hi
theorem Ints.blk(h:Ints w v l)(hl:l≠[])(hb:v.ownBlock=some b):b<w.heap.size:=by
 obtain⟨a,cap,rfl,h1,h2,h3⟩:=h;obtain⟨b',off,rfl,hc⟩:=h3 (kQ.2 hl);simp[Value.ownBlock]at hb;subst hb;exact lt_of_cell (hc 0 (kQ.2 hl))
theorem Ints.ext(h:Ints w v l)(hk:Ext w w'):Ints w' v l:=
 h.keep λb hl hb=>hk.block b (h.blk hl hb)
theorem Ints.eD(h:w.ownsRow B e 1 v n (l.map (Value.int .i64)))(hn:l.length<=1152921504606846976):Ints w v l:=by
 obtain⟨hlen,h⟩:=h;simp at hlen;rcases h with⟨rfl,hn0⟩|⟨g,cap,cur,rfl,_,hg,hnc,hcm,hcs,ht⟩
 .subst hn0
  have:l=[]:=fK (by omega);subst this;exact Ints.nil _ _ _
 .subst hlen
  refine⟨_,cap,rfl,hnc,hn,λh0=>⟨g,0,rfl,λi hi=>?_⟩⟩;rw[cell_of_row w g (0+i) cur e (0,0) hg];have e1:cur.toList[0+i]?=(l.map (Value.int .i64))[i]?:=by
   rw[<-ht,il,if_pos (by omega)];simp
  rw[iW]at e1;rw[e1];simp[hi,jo]
theorem bY(h:w.ownsRow B e size v n xs)(hk:Ext w w'):w'.ownsRow B e size v n xs:=
 h.kept (row:=none) ⟨hk.os,hk.tape,hk.output,hk.size,λk hk' _=>hk.block k hk'⟩ (by cases v.ownBlock <;> simp)
theorem own_drewN(h:w.ownsRow B e size v n xs)(k:Nat):(w.drewN k).ownsRow B e size v n xs:=h
theorem iw:(prog.info? 3).map (λi=>(i.zero,i.size,i.bytes))=some (some (.int .i64 0),1,8):=by kernel_rfl
theorem zS{o:Value}{x:Obj}(jD:Ext W wr)(hown:wr.ownsRow W.heap.size e size o n xs)(hg:(wr.alloc x).grownBy w1 o.ownBlock):Ext W w1:=
 (jD.alloc jD.size x).grown hg (by have:=jD.size;simp;omega) (λk hk=>(hown.lt k hk).1)
theorem fZ(w:World)(B:Nat)(hB:B<=w.heap.size)(e:TypeId):(w.alloc (.cells #[] e)).ownsRow B e 1 (.slice (some ⟨w.heap.size,0,none⟩) 0 0) 0 []:=
 World.ownsRow_made w #[] 0 hB (by decide) (by simp)
theorem lH(w:World)(X:Obj)(B:Nat)(hB:B<=w.heap.size)(e:TypeId):((w.alloc X).alloc (.cells #[] e)).ownsRow B e 1 (.slice (some ⟨w.heap.size+1,0,none⟩) 0 0) 0 []:=by
 have:=fZ (w.alloc X) B (by simp;omega) e
 simpa using this
theorem LU{off:Nat}(hc:∀i,i<l.length->w.cell? ⟨b,off+i,none⟩=some (.int .i64 (jo l i)))(hE:Ext w W)(s m:Nat)(hsm:s+m<=l.length):
 ∀j u,(((l.drop s).take m).map (Value.int .i64))[j]?=some u->W.cell? ((⟨b,off+s,none⟩:Addr).add j)=some u:=by
 intro j u hu;rw[dm,il]at hu;split at hu
 .rename_i hj
  rw[ym]at hu;have hlt:s+j<l.length:=by omega
  rw[aa hlt]at hu;simp at hu;have h0:=hc (s+j) hlt;have e:((⟨b,off+s,none⟩:Addr).add j)=⟨b,off+(s+j),none⟩:=by
   unfold Addr.add;split <;> simp_all [Nat.add_assoc]
  rw[e,hE.cell (lt_of_cell h0),h0,o6 hlt,hu]
 .simp at hu
theorem dJ(h:W.cell? ⟨B,0,none⟩=some v):∀j u,([v]:List Value)[j]?=some u->W.cell? ((⟨B,0,none⟩:Addr).add j)=some u:=by
 intro j u hj;cases j with
 |zero=>simp at hj;subst hj;simpa [Addr.add]using h
 |succ j=>simp at hj
theorem one_cell{k:IntKind}{n:Int}:∀u∈([Value.int k n]:List Value),u.oneCell'=true:=by
 intro u hu;simp at hu;subst hu;rfl
theorem dh(w:World)(v:Value)(e:TypeId):(w.alloc (.cells #[v] e)).cell? ⟨w.heap.size,0,none⟩=some v:=by
 rw[World.cell?_alloc_at _ _ _ _ rfl];rfl
theorem wV(w:World)(v:Value)(e:TypeId)(X:Obj):((w.alloc (.cells #[v] e)).alloc X).cell? ⟨w.heap.size,0,none⟩=some v:=by
 rw[World.cell?_alloc_past _ _ _ (by simp)];exact dh _ _ _
theorem qf(w:World)(v:Value)(e:TypeId)(X:Obj):((w.alloc X).alloc (.cells #[v] e)).cell? ⟨w.heap.size+1,0,none⟩=some v:=by
 have h:=dh (w.alloc X) v e;rw[eQ]at h;exact h
theorem ni(hg:w.grownBy w1 o)(h:w.cell? ⟨B,0,none⟩=some v)(ho:some B≠o):w1.cell? ⟨B,0,none⟩=some v:=
 hg.cell h ho
theorem kJ(l:List Int):∀u∈l.map (Value.int .i64),u.oneCell'=true:=by
 intro u hu;obtain⟨x,_,rfl⟩:=aH.1 hu;rfl
theorem dS(jD:Ext W wr)(hg:wr.grownBy w1 o)(ho:∀k,o=some k->W.heap.size<=k):Ext W w1:=
 jD.grown hg jD.size ho
theorem bS(jD:Ext W wr)(x:Obj):Ext W (wr.alloc x):=jD.alloc jD.size x
theorem fA(jD:Ext W wr)(n:Nat):Ext W (wr.drewN n):=WH jD n
end
section
open Go.RowKit
def R6(at_ l:List Int):List Int:=l.map λx=>jo at_ x.toNat
theorem WJ(at_:List Int){l:List Int}{k:Nat}(h:k<l.length):R6 at_ (l.take (k+1))=R6 at_ (l.take k)++[jo at_ (jo l k).toNat]:=by
 rw[qp h];simp[R6]
theorem Io(at_ l:List Int):(R6 at_ l).length=l.length:=by simp[R6]
set_option maxHeartbeats 400000 in
theorem sD(v u:Value)(t l:List Int)(w:World)(h:Ints w v t)(g:Ints w u l)(hb:∀x,x∈l->0<=x/\x<t.length)(hsz:l.length<=1000000000):
 Calls prog 132 #[v,u] w λe w'=>∃v',e=.returned v'/\Ints w' v' (R6 t l)/\Ext w w':=by
 obtain⟨a,cap,rfl,hlc,hcap,hc⟩:=h;obtain⟨a',cap',rfl,YV,O7,hc'⟩:=g;obtain⟨i0,hi,hz0,hz1,hz2⟩:=info_parts iw;go_enter Tryz.func132,Tryz.ntmps132
 go_wp2
 go_loopw [5,6] (λo i wr=>∃k:Nat,k<=l.length/\i=.int .i64 k/\wr.ownsRow w.heap.size 3 1 o k ((R6 t (l.take k)).map (Value.int .i64))/\Ext w wr) (λ_ i _=>l.length-(intOf i).toNat)
 case atStart=>exact⟨0,aJ _,rfl,fZ w _ (ay _) _,(Below.refl _ _).alloc (ay _) _⟩
 case round=>
  obtain⟨k,hk,rfl,hown,jD⟩:=hrel;by_cases hlt:k<l.length
  .obtain⟨b',off',rfl,hcell'⟩:=hc' (by omega)
   have hx:=hb _ (Gt hlt);obtain⟨b,off,rfl,hcell⟩:=hc (by omega);have Vg:=hcell' k hlt;have hck:=hcell (jo l k).toNat (by omega);have mZ:=(jD.cell (lt_of_cell Vg)).trans Vg;have Kn:=(jD.cell (lt_of_cell hck)).trans hck;clear hcell hc hcell' hc' hck Vg hb;go_wp2_with (at_builtin;refine wpList_append_own _ rfl _ _ 80 rfl w.heap.size 3 i0 (.int .i64 0) 1 8 underlying80 hi hz0 hz1 hz2 rfl (by decide) _ _ _ rfl (hown.alloc _) ⟨wr.heap.size,0,none⟩ 1 1 [.int .i64 (jo t (jo l k).toNat)] rfl rfl ?c1 ?c2 ?c3 ?c4 ?c5 ?_)
   case c1=>
    intro j u hj
    match j,hj with
    | 0,hj=>simp at hj;subst hj;simp[Addr.add]
   case c2=>intro u hu;simp at hu;subst hu;rfl
   case c3=>unfold maxLen;omega
   case c4=>omega
   case c5=>have:=jD.size;simp;omega
   intro v' w1 hown' hgrow _;have hx1:=zS jD hown hgrow;have hs:=WJ t hlt;have ho1:w1.ownsRow w.heap.size 3 1 v' (k+1) ((R6 t (l.take (k+1))).map (Value.int .i64)):=by
    rw[hs];simpa using hown'
   clear hown' hgrow hown jD hs;go_wp2
   go_roundw
   case rel=>exact⟨k+1,by omega,by go_num,ho1,hx1⟩
   case measure=>simp[intOf];omega
  .go_wp2
   go_ret
   have e:k=l.length:=(by omega);subst e;rw[dB]at hown;exact⟨_,rfl,Ints.eD hown (by rw[Io];omega),jD⟩
end
section
open Go.RowKit
variable {w w':World} {v:Value} {xs:List Value}
def lN(w:World)(v:Value)(xs:List Value):Prop:=
 ∃a cap,v=.slice a xs.length cap/\xs.length<=cap/\xs.length<=1152921504606846976/\(0<xs.length->∃b off,a=some ⟨b,off,none⟩/\∀i (h:i<xs.length),w.cell? ⟨b,off+i,none⟩=some xs[i])
theorem lN.nil(w:World)(a:Option Addr)(cap:Nat):lN w (.slice a 0 cap) []:=⟨a,cap,rfl,aJ _,aJ _,λh=>absurd h (by simp)⟩
theorem lN.keep(h:lN w v xs)(hk:∀b,0<xs.length->v.ownBlock=some b->w'.heap[b]?=w.heap[b]?):lN w' v xs:=by
 obtain⟨a,cap,rfl,h1,h2,h3⟩:=h;refine⟨a,cap,rfl,h1,h2,λh0=>?_⟩;obtain⟨b,off,rfl,hc⟩:=h3 h0;refine⟨b,off,rfl,λi hi=>?_⟩;rw[World.cell?_of_block (w:=w) (hk b h0 rfl)];exact hc i hi
theorem lN.blk(h:lN w v xs){b:Nat}(hl:0<xs.length)(hb:v.ownBlock=some b):b<w.heap.size:=by
 obtain⟨a,cap,rfl,h1,h2,h3⟩:=h;obtain⟨b',off,rfl,hc⟩:=h3 hl;simp[Value.ownBlock]at hb;subst hb;exact lt_of_cell (hc 0 hl)
theorem lN.ext(h:lN w v xs)(hk:Ext w w'):lN w' v xs:=h.keep λb hl hb=>hk.block b (h.blk hl hb)
theorem lN.eD{B:Nat}{e:TypeId}{n:Nat}(h:w.ownsRow B e 1 v n xs)(hn:xs.length<=1152921504606846976):lN w v xs:=by
 obtain⟨hlen,h⟩:=h;simp at hlen;rcases h with⟨rfl,hn0⟩|⟨g,cap,cur,rfl,_,hg,hnc,hcm,hcs,ht⟩
 .subst hn0
  have:xs=[]:=fK (by omega);subst this;exact lN.nil _ _ _
 .subst hlen
  refine⟨_,cap,rfl,hnc,hn,λh0=>⟨g,0,rfl,λi hi=>?_⟩⟩;rw[cell_of_row w g (0+i) cur e (0,0) hg];have e1:cur.toList[0+i]?=xs[i]?:=by
   conv=>rhs;rw[<-ht]
   rw[il,if_pos (by omega)];simp
  rw[iW]at e1;rw[e1,aa hi]
theorem lN.sup(h:lN w v xs){S:Nat->Prop}(hv:∀b,0<xs.length->v.ownBlock=some b->S b):∀w',(∀b,S b->w'.heap[b]?=w.heap[b]?)->lN w' v xs:=
 λ_ h2=>h.keep λb h0 hb=>h2 b (hv b h0 hb)
def Strs(w:World)(v:Value)(ss:List ByteArray):Prop:=lN w v (ss.map Value.string)
theorem Strs.ext{w w':World}{v:Value}{ss:List ByteArray}(h:Strs w v ss)(hk:Ext w w'):Strs w' v ss:=lN.ext h hk
theorem Strs.open{ss:List ByteArray}(h:Strs w v ss):∃a cap,v=.slice a ss.length cap/\ss.length<=cap/\ss.length<=1152921504606846976:=by
 obtain⟨a,cap,rfl,h1,h2,_⟩:=h;simp only[bD]at h1 h2;exact⟨a,cap,by rw[bD],h1,h2⟩
theorem Strs.at{w:World}{a:Option Addr}{n cap:Nat}{ss:List ByteArray}(h:Strs w (.slice a n cap) ss){i:Nat}(hi:i<ss.length):∃b off,a=some ⟨b,off,none⟩/\∀j (hj:j<ss.length),w.cell? ⟨b,off+j,none⟩=some (.string ss[j]):=by
 obtain⟨a',cap',e,h1,h2,h3⟩:=h;simp only[Value.slice.injEq]at e;obtain⟨rfl,-,rfl⟩:=e;obtain⟨b,off,rfl,hc⟩:=h3 (by simp;omega);exact⟨b,off,rfl,λj hj=>by rw[hc j (by simpa using hj)];simp⟩
theorem Strs.eD{w:World}{B:Nat}{e:TypeId}{v:Value}{n:Nat}{ss:List ByteArray}(h:w.ownsRow B e 1 v n (ss.map Value.string))(hn:ss.length<=1152921504606846976):Strs w v ss:=lN.eD h (by simpa using hn)
end
end Go.Proofs.YteknjeohbcgpdaaGreatDoor