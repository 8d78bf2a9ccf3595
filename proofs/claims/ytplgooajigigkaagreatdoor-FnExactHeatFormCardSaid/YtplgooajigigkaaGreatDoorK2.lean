/- 2 -/
import Derived.Test.YtplgooajigigkaaGreatDoorK1
set_option maxRecDepth 100000
set_option maxHeartbeats 4000000
namespace Go.Proofs.YtplgooajigigkaaGreatDoor
open Tryz
section
open Go.RowKit
variable {l:List Int} {lo hi:Int}
def Oz(x a b:Int):Bool:=decide (a<=x) && decide (x<=b)
theorem lL(x a b:Int)(w:World):Calls prog 92 #[.int .i64 x,.int .i64 a,.int .i64 b] w λe w'=>e=.returned (.bool (Oz x a b))/\RD w w':=by
 by_cases h1:a<=x
 .go_enter Tryz.func92,Tryz.ntmps92
  go_wp2
  go_ret
  exact⟨gJ (by simp[Oz,h1]),(by first|exact uX _|exact AY _ _|exact Ca _ _ _|exact BZ _ _ _ _)⟩
 .have hd:decide (a<=x)=false:=by simpa using h1
  go_enter Tryz.func92,Tryz.ntmps92
  go_wp2
  go_ret
  exact⟨gJ (by simp[Oz,hd]),(by first|exact uX _|exact AY _ _|exact Ca _ _ _|exact BZ _ _ _ _)⟩
theorem wU(a b:Int)(w:World):Calls prog 162 #[.int .i64 a,.int .i64 b] w λe w'=>e=.returned (.int .i64 (max a b))/\RD w w':=by
 go_enter Tryz.func162,Tryz.ntmps162
 go_wp2
 all_goals go_ret
 all_goals exact⟨iW (by omega),(by first|exact uX _|exact AY _ _|exact Ca _ _ _|exact BZ _ _ _ _)⟩
theorem TA(l:List Int)(x n:Int):oV (l++[x]) n=(oV l n || decide (n=x)):=by
 simp[oV]
theorem sJ(v:Value)(l:List Int)(n:Int)(w:World)(h:Ints w v l):
 Calls prog 164 #[v,.int .i64 n] w λe w'=>e=.returned (.bool (oV l n))/\RD w w':=by
 obtain⟨a,cap,rfl,hlc,hcap,hc⟩:=h;go_enter Tryz.func164,Tryz.ntmps164
 go_wp2
 go_loop [5] (λi=>∃k:Nat,k<=l.length/\i=.int .i64 k/\Hid (oV (l.take k) n=false)) (λi=>l.length-(intOf i).toNat)
 case atStart=>exact⟨0,aU _,rfl,by simp[Hid,oV]⟩
 case round=>
  obtain⟨k,hk,rfl,HN⟩:=hrel;by_cases hlt:k<l.length
  .obtain⟨b,off,rfl,hcell⟩:=hc (by omega)
   have hck:=hcell k hlt;clear hcell hc;go_wp2
   .have heq:(jl l k == n)=true:=by assumption
    go_ret
    refine⟨gJ ?_,(by first|exact uX _|exact AY _ _|exact Ca _ _ _|exact BZ _ _ _ _)⟩;have e:jl l k=n:=(by simpa using heq);have:=Qg hlt;simp[oV,<-e,this]
   .have hne:(jl l k == n)=false:=by assumption
    go_round
    case rel=>
     refine⟨k+1,by omega,by go_num,?_⟩;have:=HN.out;show oV _ _=_;rw[oZ hlt,TA,this];simp at hne ⊢;exact λh=>hne h.symm
    case measure=>simp[intOf];omega
  .go_wp2
   go_ret
   refine⟨gJ ?_,(by first|exact uX _|exact AY _ _|exact Ca _ _ _|exact BZ _ _ _ _)⟩;have:=HN.out;rw[dJ (by omega)]at this;exact this.symm
def qF(a b:List Int):Bool:=decide (a=b)
theorem oo(v u:Value)(l m:List Int)(w:World)(h:Ints w v l)(g:Ints w u m):
 Calls prog 152 #[v,u] w λe w'=>e=.returned (.bool (qF l m))/\RD w w':=by
 obtain⟨a,cap,rfl,hlc,hcap,hc⟩:=h;obtain⟨a',cap',rfl,Xh,Md,hc'⟩:=g;by_cases hll:l.length=m.length
 .have hb:((l.length:Int)== m.length)=true:=by simp[hll]
  have hb':((l.length:Int) != m.length)=false:=by simp[hll]
  have HL:=aW hll;have hle:m.length<=l.length:=by omega
  have alz:l.length<=m.length:=by omega
  clear hll;go_enter Tryz.func152,Tryz.ntmps152
  go_wp2
  go_loopw [5] (λi wr=>∃k:Nat,k<=l.length/\i=.int .i64 k/\RD w wr/\Hid (l.take k=m.take k)) (λi _=>l.length-(intOf i).toNat)
  case atStart=>exact⟨0,aU _,rfl,uX _,by simp[Hid]⟩
  case round=>
   obtain⟨k,hk,rfl,⟨n,rfl⟩,HN⟩:=hrel;by_cases hlt:k<l.length
   .have Xg:k<m.length:=by omega
    obtain⟨b,off,rfl,hcell⟩:=hc (by omega);obtain⟨b',off',rfl,hcell'⟩:=hc' (by omega);have hck:=hcell k hlt;have Xu:=hcell' k Xg;clear hcell hc hcell' hc';go_wp2
    go_quiet (fail)
    go_wp2
    .have hne:(jl l k != jl m k)=true:=by assumption
     go_ret
     refine⟨gJ ?_,(by first|exact uX _|exact AY _ _|exact Ca _ _ _|exact BZ _ _ _ _)⟩;have:l≠m:=λe=>by rw[e]at hne;simp at hne
     simp[qF,this]
    .have hne:(jl l k != jl m k)=false:=by assumption
     go_roundw
     case rel=>
      refine⟨k+1,by omega,by go_num,(by first|exact uX _|exact AY _ _|exact Ca _ _ _|exact BZ _ _ _ _),?_⟩;show _=_;rw[oZ hlt,oZ Xg,HN.out];simp at hne;rw[hne]
     case measure=>simp[intOf];omega
   .go_wp2
    go_ret
    refine⟨gJ ?_,(by first|exact uX _|exact AY _ _|exact Ca _ _ _|exact BZ _ _ _ _)⟩;have:=HN.out;rw[dJ (by omega),dJ (by omega)]at this;simp[qF,this]
 .have hb:((l.length:Int)== m.length)=false:=by simp;omega
  have hb':((l.length:Int) != m.length)=true:=by simp;omega
  have HL:=aW hll;clear hll;go_enter Tryz.func152,Tryz.ntmps152
  go_wp2
  go_ret
  refine⟨gJ ?_,(by first|exact uX _|exact AY _ _|exact Ca _ _ _|exact BZ _ _ _ _)⟩;have:l≠m:=λe=>HL.out (by rw[e])
  simp[qF,this]
def DZ(l:List Int)(lo hi:Int)(k:Nat):Prop:=∀j,j<k->lo<=jl l j/\jl l j<=hi/\(0<j->jl l (j-1)<jl l j)
def rises(l:List Int)(lo hi:Int):Bool:=(List.range l.length).all λj=>decide (lo<=jl l j) && decide (jl l j<=hi) && decide (0<j->jl l (j-1)<jl l j)
theorem yM:rises l lo hi=true↔DZ l lo hi l.length:=by simp[rises,DZ,and_assoc,Nat.pos_iff_ne_zero,Classical.or_iff_not_imp_left]
theorem K3{k:Nat}(hk:k<l.length)(h:¬(lo<=jl l k/\jl l k<=hi/\(0<k->jl l (k-1)<jl l k))):rises l lo hi=false:=by
 rw[iT];intro e;exact h (yM.1 e k hk)
theorem qh(v:Value)(l:List Int)(lo hi:Int)(w:World)(h:Ints w v l):
 Calls prog 110 #[v,.int .i64 lo,.int .i64 hi] w λe w'=>e=.returned (.bool (rises l lo hi))/\RD w w':=by
 obtain⟨a,cap,rfl,hlc,hcap,hc⟩:=h;go_enter Tryz.func110,Tryz.ntmps110
 go_wp2
 go_loopw [7] (λi wr=>∃k:Nat,k<=l.length/\i=.int .i64 k/\RD w wr/\Hid (DZ l lo hi k)) (λi _=>l.length-(intOf i).toNat)
 case atStart=>exact⟨0,aU _,rfl,uX _,λj h=>absurd h (by omega)⟩
 case round=>
  obtain⟨k,hk,rfl,⟨n,rfl⟩,HN⟩:=hrel;by_cases hlt:k<l.length
  .obtain⟨b,off,rfl,hcell⟩:=hc (by omega)
   have hck:=hcell k hlt;by_cases hin:Oz (jl l k) lo hi=true
   .by_cases h0:0<k
    .have ou:=hcell (k-1) (by omega)
     obtain⟨j,rfl⟩:∃j,k=j+1:=⟨k-1,by omega⟩;clear hcell hc;simp only[sW]at ou;by_cases hge:jl l (j+1)<=jl l j
     .go_wp2
      go_quiet ((go_at_call 92;first|exact Calls.quiet_of (lL _ _ _ _)|exact sG (lL _ _ _ _)))
      go_wp2
      go_ret
      exact⟨gJ (K3 hlt (λh=>by have:=h.2.2 (by omega);simp at this;omega)).symm,(by first|exact uX _|exact AY _ _|exact Ca _ _ _|exact BZ _ _ _ _)⟩
     .have hd:decide (jl l (j+1)<=jl l j)=false:=by simpa using hge
      go_wp2
      go_quiet ((go_at_call 92;first|exact Calls.quiet_of (lL _ _ _ _)|exact sG (lL _ _ _ _)))
      go_wp2
      go_roundw
      case rel=>
       refine⟨j+1+1,by omega,by go_num,(by first|exact uX _|exact AY _ _|exact Ca _ _ _|exact BZ _ _ _ _),λi hi=>?_⟩;rcases ib i (j+1)with h|h
       .exact HN.out i h
       .obtain rfl:i=j+1:=by omega
        have:=hin;simp[Oz]at this;exact⟨this.1,this.2,λ_=>by simp;omega⟩
      case measure=>simp[intOf];omega
    .have hd0:decide ((0:Int)<(k:Int))=false:=by simp;omega
     clear hcell hc;go_wp2
     go_quiet ((go_at_call 92;first|exact Calls.quiet_of (lL _ _ _ _)|exact sG (lL _ _ _ _)))
     go_wp2
     go_roundw
     case rel=>
      refine⟨k+1,by omega,by go_num,(by first|exact uX _|exact AY _ _|exact Ca _ _ _|exact BZ _ _ _ _),λi hi=>?_⟩;obtain rfl:i=k:=(by omega);have:=hin;simp[Oz]at this;exact⟨this.1,this.2,λh=>absurd h (by omega)⟩
     case measure=>simp[intOf];omega
   .have hin':Oz (jl l k) lo hi=false:=by simpa using hin
    clear hcell hc hin;go_wp2
    go_quiet ((go_at_call 92;first|exact Calls.quiet_of (lL _ _ _ _)|exact sG (lL _ _ _ _)))
    go_wp2
    go_ret
    refine⟨gJ (K3 hlt (λh=>?_)).symm,(by first|exact uX _|exact AY _ _|exact Ca _ _ _|exact BZ _ _ _ _)⟩;have:=hin';simp[Oz]at this;omega
  .go_wp2
   go_ret
   refine⟨gJ ?_,(by first|exact uX _|exact AY _ _|exact Ca _ _ _|exact BZ _ _ _ _)⟩;have:=HN.out;rw[show k=l.length by omega]at this;exact(yM.2 this).symm
end
section
open Go.RowKit
variable {l m:List Int} {k:Nat}
def Kj:List Int->List Int->Int
 |[],[]=>0
 |[],_ :: _=>-1
 |_ :: _,[]=>1
 |a :: l,b :: m=>if a<b then -1 else if b<a then 1 else Kj l m
theorem PD(p a b:List Int):Kj (p++a) (p++b)=Kj a b:=by
 induction p with
 |nil=>rfl
 |cons x p ih=>simp[Kj,ih]
theorem vW(h:k<l.length):l.drop k=jl l k :: l.drop (k+1):=by
 rw[kR h,rC h]
theorem FT(h:l.take k=m.take k):Kj l m=Kj (l.drop k) (m.drop k):=by
 have e1:l=l.take k++l.drop k:=(kX k l).symm;have e2:m=l.take k++m.drop k:=by rw[h];exact(kX k m).symm
 have:=PD (l.take k) (l.drop k) (m.drop k);rw[<-e1,<-e2]at this;exact this
theorem aee(h:l.take k=m.take k)(hl:k<l.length)(hm:k<m.length)(hx:jl l k<jl m k):Kj l m=-1:=by
 rw[FT h,vW hl,vW hm,Kj,if_pos hx]
theorem aef(h:l.take k=m.take k)(hl:k<l.length)(hm:k<m.length)(hx:jl m k<jl l k):Kj l m=1:=by
 rw[FT h,vW hl,vW hm,Kj,if_neg (by omega),if_pos hx]
theorem Yj(h:l.take l.length=m.take l.length)(hm:l.length<m.length):Kj l m=-1:=by
 rw[FT h,vW hm];simp[Kj]
theorem Yi(h:l.take m.length=m.take m.length)(hm:m.length<l.length):Kj l m=1:=by
 rw[FT h,vW hm];simp[Kj]
theorem Yh(h:l.take l.length=m.take l.length)(hm:l.length=m.length):Kj l m=0:=by
 rw[FT h,hm,List.drop_length,<-hm,List.drop_length];rfl
theorem Ag(v u:Value)(l m:List Int)(w:World)(h:Ints w v l)(g:Ints w u m):
 Calls prog 166 #[v,u] w λe w'=>e=.returned (.int .i64 (Kj l m))/\RD w w':=by
 obtain⟨a,cap,rfl,hlc,hcap,hc⟩:=h;obtain⟨a',cap',rfl,Xh,Md,hc'⟩:=g;go_enter Tryz.func166,Tryz.ntmps166
 go_wp2
 go_loopw [5] (λi wr=>∃k:Nat,k<=l.length/\k<=m.length/\i=.int .i64 k/\RD w wr/\Hid (l.take k=m.take k)) (λi _=>l.length-(intOf i).toNat)
 case atStart=>exact⟨0,aU _,aU _,rfl,uX _,by simp[Hid]⟩
 case round=>
  obtain⟨k,hk,hkm,rfl,⟨n,rfl⟩,HN⟩:=hrel;by_cases hlt:k<l.length
  .by_cases hlm:k<m.length
   .obtain⟨b,off,rfl,hcell⟩:=hc (by omega)
    obtain⟨b',off',rfl,hcell'⟩:=hc' (by omega);have hck:=hcell k hlt;have Xu:=hcell' k hlm;clear hcell hc hcell' hc';by_cases Tt:jl l k<jl m k
    .have hne:(jl l k != jl m k)=true:=by simp;omega
     go_wp2
     go_quiet (fail)
     go_wp2
     go_quiet (fail)
     go_wp2
     go_ret
     exact⟨iW (aee HN.out hlt hlm Tt).symm,(by first|exact uX _|exact AY _ _|exact Ca _ _ _|exact BZ _ _ _ _)⟩
    .by_cases hgt:jl m k<jl l k
     .have hne:(jl l k != jl m k)=true:=by simp;omega
      have hd:decide (jl l k<jl m k)=false:=(by simpa using Tt);go_wp2
      go_quiet (fail)
      go_wp2
      go_quiet (fail)
      go_wp2
      go_ret
      exact⟨iW (aef HN.out hlt hlm hgt).symm,(by first|exact uX _|exact AY _ _|exact Ca _ _ _|exact BZ _ _ _ _)⟩
     .have hne:(jl l k != jl m k)=false:=by simp;omega
      go_wp2
      go_quiet (fail)
      go_wp2
      go_roundw
      case rel=>
       refine⟨k+1,by omega,by omega,by go_num,(by first|exact uX _|exact AY _ _|exact Ca _ _ _|exact BZ _ _ _ _),?_⟩;show _=_;rw[oZ hlt,oZ hlm,HN.out,show jl l k=jl m k by omega]
      case measure=>simp[intOf];omega
   .have hge:m.length<l.length\/l.length=m.length:=by omega
    have hmk:k=m.length:=(by omega);have HK:=aW hmk;have hgt:m.length<l.length:=(by omega);clear hmk hge;go_wp2
    go_ret
    exact⟨iW (Yi (by rw[<-HK.out];exact HN.out) hgt).symm,(by first|exact uX _|exact AY _ _|exact Ca _ _ _|exact BZ _ _ _ _)⟩
  .have hlk:k=l.length:=by omega
   have HK:=aW hlk;clear hlk;go_wp2
   .have h1:l.length<m.length:=by assumption
    go_ret
    exact⟨iW (Yj (by rw[<-HK.out];exact HN.out) h1).symm,(by first|exact uX _|exact AY _ _|exact Ca _ _ _|exact BZ _ _ _ _)⟩
   .have h1:¬l.length<m.length:=by assumption
    go_ret
    have e:=HK.out;exact⟨iW (Yh (by rw[<-e];exact HN.out) (by omega)).symm,(by first|exact uX _|exact AY _ _|exact Ca _ _ _|exact BZ _ _ _ _)⟩
end
section
open Go.RowKit
variable {a w w' W wr w1:World} {b B n size:Nat} {v:Value} {l:List Int} {e:TypeId} {xs:List Value} {o:Option Nat} {A C D E:Prop}
abbrev Ext(w w':World):Prop:=Below w.heap.size w w'
theorem ah{b c:World}(h:Ext a b)(k:Ext b c):Ext a c:=h.trans (k.mono h.size)
theorem dQ(h:RD w w'):Ext w w':=by obtain⟨n,rfl⟩:=h;exact⟨rfl,rfl,rfl,aJ _,λ_ _=>rfl⟩
theorem Yv(h:Below B a w)(n:Nat):Below B a (w.drewN n):=⟨h.os,h.tape,h.output,h.size,h.block⟩
theorem Ints.nil(w:World)(a:Option Addr)(cap:Nat):Ints w (.slice a 0 cap) []:=
 ⟨a,cap,rfl,aU _,aU _,λh=>absurd h (by simp)⟩
theorem lt_of_cell{a:Addr}(h:w.cell? a=some v):a.block<w.heap.size:=World.block_lt_of_cell? w a h
theorem Ints.keep(h:Ints w v l)(hk:∀b,l≠[]->v.ownBlock=some b->w'.heap[b]?=w.heap[b]?):Ints w' v l:=by
 obtain⟨a,cap,rfl,h1,h2,h3⟩:=h;refine⟨a,cap,rfl,h1,h2,λh0=>?_⟩;obtain⟨b,off,rfl,hc⟩:=h3 h0;refine⟨b,off,rfl,λi hi=>?_⟩;rw[World.cell?_of_block (w:=w) (hk b (by intro e;simp[e]at h0) rfl)];exact hc i hi
theorem Ints.blk(h:Ints w v l)(hl:l≠[])(hb:v.ownBlock=some b):b<w.heap.size:=by
 obtain⟨a,cap,rfl,h1,h2,h3⟩:=h;obtain⟨b',off,rfl,hc⟩:=h3 (fV.2 hl);simp[Value.ownBlock]at hb;subst hb;exact lt_of_cell (hc 0 (fV.2 hl))
theorem Ints.ext(h:Ints w v l)(hk:Ext w w'):Ints w' v l:=
 h.keep λb hl hb=>hk.block b (h.blk hl hb)
theorem Ints.gm(h:w.ownsRow B e 1 v n (l.map (Value.int .i64)))(hn:l.length<=1152921504606846976):Ints w v l:=by
 obtain⟨hlen,h⟩:=h;simp at hlen;rcases h with⟨rfl,hn0⟩|⟨g,cap,cur,rfl,_,hg,hnc,hcm,hcs,ht⟩
 .subst hn0
  have:l=[]:=eP (by omega);subst this;exact Ints.nil _ _ _
 .subst hlen
  refine⟨_,cap,rfl,hnc,hn,λh0=>⟨g,0,rfl,λi hi=>?_⟩⟩;rw[cell_of_row w g (0+i) cur e (0,0) hg];have e1:cur.toList[0+i]?=(l.map (Value.int .i64))[i]?:=by
   rw[<-ht,pF,if_pos (by omega)];simp
  rw[kZ]at e1;rw[e1];simp[hi,jl]
theorem dD(h:w.ownsRow B e size v n xs)(hk:Ext w w'):w'.ownsRow B e size v n xs:=
 h.kept (row:=none) ⟨hk.os,hk.tape,hk.output,hk.size,λk hk' _=>hk.block k hk'⟩ (by cases v.ownBlock <;> simp)
theorem own_drewN(h:w.ownsRow B e size v n xs)(k:Nat):(w.drewN k).ownsRow B e size v n xs:=h
theorem iU:(prog.info? 3).map (λi=>(i.zero,i.size,i.bytes))=some (some (.int .i64 0),1,8):=by kernel_rfl
theorem Eg{o:Value}{x:Obj}(kP:Ext W wr)(hown:wr.ownsRow W.heap.size e size o n xs)(hg:(wr.alloc x).grownBy w1 o.ownBlock):Ext W w1:=
 (kP.alloc kP.size x).grown hg (by have:=kP.size;simp;omega) (λk hk=>(hown.lt k hk).1)
theorem iB(w:World)(B:Nat)(hB:B<=w.heap.size)(e:TypeId):(w.alloc (.cells #[] e)).ownsRow B e 1 (.slice (some ⟨w.heap.size,0,none⟩) 0 0) 0 []:=
 World.ownsRow_made w #[] 0 hB (by decide) (by simp)
theorem og(w:World)(X:Obj)(B:Nat)(hB:B<=w.heap.size)(e:TypeId):((w.alloc X).alloc (.cells #[] e)).ownsRow B e 1 (.slice (some ⟨w.heap.size+1,0,none⟩) 0 0) 0 []:=by
 have:=iB (w.alloc X) B (by simp;omega) e
 simpa using this
theorem Nz{off:Nat}(hc:∀i,i<l.length->w.cell? ⟨b,off+i,none⟩=some (.int .i64 (jl l i)))(hE:Ext w W)(s m:Nat)(hsm:s+m<=l.length):
 ∀j u,(((l.drop s).take m).map (Value.int .i64))[j]?=some u->W.cell? ((⟨b,off+s,none⟩:Addr).add j)=some u:=by
 intro j u hu;rw[ek,pF]at hu;split at hu
 .rename_i hj
  rw[List.getElem?_drop]at hu;have hlt:s+j<l.length:=by omega
  rw[af hlt]at hu;simp at hu;have h0:=hc (s+j) hlt;have e:((⟨b,off+s,none⟩:Addr).add j)=⟨b,off+(s+j),none⟩:=by
   unfold Addr.add;split <;> simp_all [Nat.add_assoc]
  rw[e,hE.cell (lt_of_cell h0),h0,rC hlt,hu]
 .simp at hu
theorem fD(h:W.cell? ⟨B,0,none⟩=some v):∀j u,([v]:List Value)[j]?=some u->W.cell? ((⟨B,0,none⟩:Addr).add j)=some u:=by
 intro j u hj;cases j with
 |zero=>simp at hj;subst hj;simpa [Addr.add]using h
 |succ j=>simp at hj
theorem one_cell{k:IntKind}{n:Int}:∀u∈([Value.int k n]:List Value),u.oneCell'=true:=by
 intro u hu;simp at hu;subst hu;rfl
theorem dW(w:World)(v:Value)(e:TypeId):(w.alloc (.cells #[v] e)).cell? ⟨w.heap.size,0,none⟩=some v:=by
 rw[World.cell?_alloc_at _ _ _ _ rfl];rfl
theorem yX(w:World)(v:Value)(e:TypeId)(X:Obj):((w.alloc (.cells #[v] e)).alloc X).cell? ⟨w.heap.size,0,none⟩=some v:=by
 rw[World.cell?_alloc_past _ _ _ (by simp)];exact dW _ _ _
theorem yV(w:World)(v:Value)(e:TypeId)(X:Obj):((w.alloc X).alloc (.cells #[v] e)).cell? ⟨w.heap.size+1,0,none⟩=some v:=by
 have h:=dW (w.alloc X) v e;rw[fU]at h;exact h
theorem xh(hg:w.grownBy w1 o)(h:w.cell? ⟨B,0,none⟩=some v)(ho:some B≠o):w1.cell? ⟨B,0,none⟩=some v:=
 hg.cell h ho
theorem lZ(l:List Int):∀u∈l.map (Value.int .i64),u.oneCell'=true:=by
 intro u hu;obtain⟨x,_,rfl⟩:=az.1 hu;rfl
theorem eU(kP:Ext W wr)(hg:wr.grownBy w1 o)(ho:∀k,o=some k->W.heap.size<=k):Ext W w1:=
 kP.grown hg kP.size ho
theorem bY(kP:Ext W wr)(x:Obj):Ext W (wr.alloc x):=kP.alloc kP.size x
theorem eH(kP:Ext W wr)(n:Nat):Ext W (wr.drewN n):=Yv kP n
theorem ik{o:Obj}(hx:Ext w w')(h:w.heap[b]?=some o):w'.heap[b]?=some o:=(hx.block b (iV.1 h).1).trans h
theorem fw{p:Addr}(hx:Ext w w')(h:w.cell? p=some v):w'.cell? p=some v:=(hx.cell (World.block_lt_of_cell? w p h)).trans h
theorem ll(hx:Ext w w')(b i:Nat)(v:Value)(h:w.heap.size<=b:=by omega):Ext w (w'.setCell ⟨b,i,none⟩ v):=hx.setCell (p:=⟨b,i,none⟩) h v
theorem fu{α:Sort _}(a:α):∃x,x=a:=⟨a,rfl⟩
theorem jm{B:Prop}(a:A)(b:B):Hid (A/\B):=aW ⟨a,b⟩
theorem nY{B:Prop}(a:A)(b:B)(c:C):Hid (A/\B/\C):=aW ⟨a,b,c⟩
theorem Ap{B:Prop}(a:A)(b:B)(c:C)(d:D):Hid (A/\B/\C/\D):=aW ⟨a,b,c,d⟩
theorem Aw{B:Prop}(a:A)(b:B)(c:C)(d:D)(e:E):Hid (A/\B/\C/\D/\E):=aW ⟨a,b,c,d,e⟩
theorem Hi6{B F:Prop}(a:A)(b:B)(c:C)(d:D)(e:E)(f:F):Hid (A/\B/\C/\D/\E/\F):=aW ⟨a,b,c,d,e,f⟩
theorem bQ:type_of% @cell_of_row:=@cell_of_row
theorem eu:type_of% @heap_alloc_new:=@heap_alloc_new
theorem gK:type_of% @heap_setCell_same:=@heap_setCell_same
theorem tQ:type_of% @heap_setCell_other:=@heap_setCell_other
theorem gQ:type_of% @frozen_of_row:=@frozen_of_row
theorem jo:type_of% @Below.heap_alloc:=@Below.heap_alloc
theorem gz:type_of% @Below.refl:=@Below.refl
theorem mP:type_of% @World.cell?_of_block:=@World.cell?_of_block
theorem il:type_of% @Value.slice.injEq:=@Value.slice.injEq
end
section
open Go.RowKit
def UL(at_ l:List Int):List Int:=l.map λx=>jl at_ x.toNat
theorem Yx(at_:List Int){l:List Int}{k:Nat}(h:k<l.length):UL at_ (l.take (k+1))=UL at_ (l.take k)++[jl at_ (jl l k).toNat]:=by
 rw[oZ h];simp[UL]
theorem JW(at_ l:List Int):(UL at_ l).length=l.length:=by simp[UL]
theorem vw(v u:Value)(t l:List Int)(w:World)(h:Ints w v t)(g:Ints w u l)(hb:∀x,x∈l->0<=x/\x<t.length)(hsz:l.length<=1000000000):
 Calls prog 69 #[v,u] w λe w'=>∃v',e=.returned v'/\Ints w' v' (UL t l)/\Ext w w':=by
 obtain⟨a,cap,rfl,hlc,hcap,hc⟩:=h;obtain⟨a',cap',rfl,Xh,Md,hc'⟩:=g;obtain⟨i0,hi,hz0,hz1,hz2⟩:=info_parts iU;go_enter Tryz.func69,Tryz.ntmps69
 go_wp2
 go_loopw [5,6] (λo i wr=>∃k:Nat,k<=l.length/\i=.int .i64 k/\wr.ownsRow w.heap.size 3 1 o k ((UL t (l.take k)).map (Value.int .i64))/\Ext w wr) (λ_ i _=>l.length-(intOf i).toNat)
 case atStart=>exact⟨0,aU _,rfl,iB w _ (aJ _) _,(gz _ _).alloc (aJ _) _⟩
 case round=>
  obtain⟨k,hk,rfl,hown,kP⟩:=hrel;by_cases hlt:k<l.length
  .obtain⟨b',off',rfl,hcell'⟩:=hc' (by omega)
   have hx:=hb _ (Qg hlt);obtain⟨b,off,rfl,hcell⟩:=hc (by omega);have Xu:=hcell' k hlt;have hck:=hcell (jl l k).toNat (by omega);have ou:=fw kP Xu;have Mc:=fw kP hck;clear hcell hc hcell' hc' hck Xu hb;go_wp2_with (at_builtin;refine wpList_append_own _ rfl _ _ 41 rfl w.heap.size 3 i0 (.int .i64 0) 1 8 underlying41 hi hz0 hz1 hz2 rfl (by decide) _ _ _ rfl (hown.alloc _) ⟨wr.heap.size,0,none⟩ 1 1 [.int .i64 (jl t (jl l k).toNat)] rfl rfl ?c1 ?c2 ?c3 ?c4 ?c5 ?_)
   case c1=>
    intro j u hj
    match j,hj with
    | 0,hj=>simp at hj;subst hj;simp[Addr.add]
   case c2=>intro u hu;simp at hu;subst hu;rfl
   case c3=>unfold maxLen;omega
   case c4=>omega
   case c5=>have:=kP.size;simp;omega
   intro v' w1 hown' hgrow _;have hx1:=Eg kP hown hgrow;have hs:=Yx t hlt;have ho1:w1.ownsRow w.heap.size 3 1 v' (k+1) ((UL t (l.take (k+1))).map (Value.int .i64)):=by
    rw[hs];simpa using hown'
   clear hown' hgrow hown kP hs;go_wp2
   go_roundw
   case rel=>exact⟨k+1,by omega,by go_num,ho1,hx1⟩
   case measure=>simp[intOf];omega
  .go_wp2
   go_ret
   have e:k=l.length:=(by omega);subst e;rw[dZ]at hown;exact⟨_,rfl,Ints.gm hown (by rw[JW];omega),kP⟩
end
section
open Go.RowKit
theorem FK(v u:Value)(l m:List Int)(w:World)(h:Ints w v l)(g:Ints w u m):
 Calls prog 131 #[v,u] w λe w'=>e=.returned (.bool (qF l m))/\RD w w':=by
 obtain⟨a,cap,rfl,hlc,hcap,hc⟩:=h;obtain⟨a',cap',rfl,Xh,Md,hc'⟩:=g;by_cases hll:l.length=m.length
 .have hb:((l.length:Int)== m.length)=true:=by simp[hll]
  have hb':((l.length:Int) != m.length)=false:=by simp[hll]
  have HL:=aW hll;have hle:m.length<=l.length:=by omega
  have alz:l.length<=m.length:=by omega
  clear hll;go_enter Tryz.func131,Tryz.ntmps131
  go_wp2
  go_loopw [5] (λi wr=>∃k:Nat,k<=l.length/\i=.int .i64 k/\RD w wr/\Hid (l.take k=m.take k)) (λi _=>l.length-(intOf i).toNat)
  case atStart=>exact⟨0,aU _,rfl,uX _,by simp[Hid]⟩
  case round=>
   obtain⟨k,hk,rfl,⟨n,rfl⟩,HN⟩:=hrel;by_cases hlt:k<l.length
   .have Xg:k<m.length:=by omega
    obtain⟨b,off,rfl,hcell⟩:=hc (by omega);obtain⟨b',off',rfl,hcell'⟩:=hc' (by omega);have hck:=hcell k hlt;have Xu:=hcell' k Xg;clear hcell hc hcell' hc';go_wp2
    go_quiet (fail)
    go_wp2
    .have hne:(jl l k != jl m k)=true:=by assumption
     go_ret
     refine⟨gJ ?_,(by first|exact uX _|exact AY _ _|exact Ca _ _ _|exact BZ _ _ _ _)⟩;have:l≠m:=λe=>by rw[e]at hne;simp at hne
     simp[qF,this]
    .have hne:(jl l k != jl m k)=false:=by assumption
     go_roundw
     case rel=>
      refine⟨k+1,by omega,by go_num,(by first|exact uX _|exact AY _ _|exact Ca _ _ _|exact BZ _ _ _ _),?_⟩;show _=_;rw[oZ hlt,oZ Xg,HN.out];simp at hne;rw[hne]
     case measure=>simp[intOf];omega
   .go_wp2
    go_ret
    refine⟨gJ ?_,(by first|exact uX _|exact AY _ _|exact Ca _ _ _|exact BZ _ _ _ _)⟩;have:=HN.out;rw[dJ (by omega),dJ (by omega)]at this;simp[qF,this]
 .have hb:((l.length:Int)== m.length)=false:=by simp;omega
  have hb':((l.length:Int) != m.length)=true:=by simp;omega
  have HL:=aW hll;clear hll;go_enter Tryz.func131,Tryz.ntmps131
  go_wp2
  go_ret
  refine⟨gJ ?_,uX _⟩;have:l≠m:=λe=>HL.out (by rw[e])
  simp[qF,this]
theorem EA(l:List Int):qF l l=true:=by simp[qF]
end
section
open Go.RowKit
def jK(k:Int):Nat->List Int
 | 0=>[]
 |n+1=>k :: jK (k+1) n
theorem kN(k:Int)(n:Nat):(jK k n).length=n:=by
 induction n generalizing k with
 |zero=>rfl
 |succ n ih=>simp[jK,ih]
theorem Ja(k:Int)(n:Nat):jK k (n+1)=jK k n++[k+n]:=by
 induction n generalizing k with
 |zero=>simp[jK]
 |succ n ih=>
  rw[jK,ih (k+1),jK];simp;omega
theorem KR(k:Int)(n i:Nat)(h:i<n):jl (jK k n) i=k+i:=by
 induction n generalizing k i with
 |zero=>omega
 |succ n ih=>
  cases i with
  |zero=>simp[jK,jl]
  |succ i=>
   have:=ih (k+1) i (by omega);simp[jK,jl]at this ⊢;rw[this];omega
theorem BD(v:Value)(n:Nat)(k:Int)(w:World)(h:Ints w v (jK k n))(h0:0<=k)(h1:k+n<=4611686018427387904):
 Calls prog 82 #[v,.int .i64 k] w λe w'=>e=.returned (.int .i64 (k+n))/\RD w w':=by
 obtain⟨a,cap,rfl,hlc,hcap,hc⟩:=h;rw[kN]at hlc hc ⊢;go_enter Tryz.func82,Tryz.ntmps82
 go_wp2
 go_loop [1,5] (λkk i=>∃j:Nat,j<=n/\i=.int .i64 j/\kk=.int .i64 (k+j)) (λ_ i=>n-(intOf i).toNat)
 case atStart=>exact⟨0,aU _,rfl,by simp⟩
 case round=>
  obtain⟨j,hj,rfl,rfl⟩:=hrel;by_cases hlt:j<n
  .obtain⟨b,off,rfl,hcell⟩:=hc (by omega)
   have hck:=hcell j hlt;rw[KR k n j hlt]at hck;clear hcell hc;go_wp2
   go_round
   case rel=>exact⟨j+1,by omega,by go_num,by congr 1;omega⟩
   case measure=>simp[intOf];omega
  .go_wp2
   go_ret
   exact⟨iW (by omega),uX _⟩
end
