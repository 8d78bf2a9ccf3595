/-
  Contracts of functions of the reference that make lists. (5 texts.)
-/
import Derived.Test.YteknjeohbcgpdaaGreatDoorZ1
set_option maxRecDepth 100000
namespace Go.Proofs.YteknjeohbcgpdaaGreatDoor
open Tryz
section
open Go.RowKit
def inB (x a b:Int):Bool:=decide (a≤x) && decide (x≤b)
theorem fC (x a b:Int) (w:World):Calls prog 60 #[.int .i64 x,.int .i64 a,.int .i64 b] w fun e w'=>e=.returned (.bool (inB x a b))∧RD w w':=by
 by_cases h1:a≤x
 · go_enter Tryz.func60,Tryz.ntmps60
   go_wp2
   go_ret
   exact⟨bQ (by simp[inB,h1]),(by first | exact rd0 _ | exact rd1 _ _ | exact rd2 _ _ _ | exact rd3 _ _ _ _)⟩
 · have hd:decide (a≤x)=false:=by simpa using h1
   go_enter Tryz.func60,Tryz.ntmps60
   go_wp2
   go_ret
   exact⟨bQ (by simp[inB,hd]),(by first | exact rd0 _ | exact rd1 _ _ | exact rd2 _ _ _ | exact rd3 _ _ _ _)⟩
theorem l9 (a b:Int) (w:World):Calls prog 158 #[.int .i64 a,.int .i64 b] w fun e w'=>e=.returned (.int .i64 (max a b))∧RD w w':=by
 go_enter Tryz.func158,Tryz.ntmps158
 go_wp2
 all_goals go_ret
 all_goals exact⟨fw (by omega),(by first | exact rd0 _ | exact rd1 _ _ | exact rd2 _ _ _ | exact rd3 _ _ _ _)⟩
theorem JF (l:List Int) (x n:Int):fJ (l++[x]) n=(fJ l n || decide (n=x)):=by
 simp[fJ]
theorem lV (v:Value) (l:List Int) (n:Int) (w:World) (h:Ints w v l) :
 Calls prog 207 #[v,.int .i64 n] w fun e w'=>e=.returned (.bool (fJ l n))∧RD w w':=by
 obtain⟨a,cap,rfl,hlc,hcap,hc⟩:=h
 go_enter Tryz.func207,Tryz.ntmps207
 go_wp2
 go_loop [5] (fun i=>∃ k:Nat,k≤l.length∧i=.int .i64 k∧Hid (fJ (l.take k) n=false)) (fun i=>l.length-(intOf i).toNat)
 case atStart=>exact⟨0,Nat.zero_le _,rfl,by simp[Hid,fJ]⟩
 case round =>
  obtain⟨k,hk,rfl,HN⟩:=hrel
  by_cases hlt:k<l.length
  · obtain⟨b,off,rfl,hcell⟩:=hc (by omega)
    have hck:=hcell k hlt
    clear hcell hc
    go_wp2
    · have heq:(zat l k == n)=true:=by assumption
      go_ret
      refine⟨bQ ?_,(by first | exact rd0 _ | exact rd1 _ _ | exact rd2 _ _ _ | exact rd3 _ _ _ _)⟩
      have e:zat l k=n:=by simpa using heq
      have:=Es hlt
      simp[fJ,← e,this]
    · have hne:(zat l k == n)=false:=by assumption
      go_round
      case rel =>
       refine⟨k+1,by omega,by go_num,?_⟩
       have:=HN.out
       show fJ _ _=_
       rw[jB hlt,JF,this]
       simp at hne ⊢
       exact fun h=>hne h.symm
      case measure=>simp[intOf];omega
  · go_wp2
    go_ret
    refine⟨bQ ?_,(by first | exact rd0 _ | exact rd1 _ _ | exact rd2 _ _ _ | exact rd3 _ _ _ _)⟩
    have:=HN.out
    rw[List.take_of_length_le (by omega)] at this
    exact this.symm
def iT (a b:List Int):Bool:=decide (a=b)
theorem l8 (v u:Value) (l m:List Int) (w:World) (h:Ints w v l) (g:Ints w u m) :
 Calls prog 181 #[v,u] w fun e w'=>e=.returned (.bool (iT l m))∧RD w w':=by
 obtain⟨a,cap,rfl,hlc,hcap,hc⟩:=h
 obtain⟨a',cap',rfl,CO,yJ,hc'⟩:=g
 by_cases hll:l.length=m.length
 · have hb:((l.length:Int) == m.length)=true:=by simp[hll]
   have hb':((l.length:Int) != m.length)=false:=by simp[hll]
   have HL:=Hd_ hll
   have hle:m.length≤l.length:=by omega
   have SN:l.length≤m.length:=by omega
   clear hll
   go_enter Tryz.func181,Tryz.ntmps181
   go_wp2
   go_loopw [5] (fun i wr=>∃ k:Nat,k≤l.length∧i=.int .i64 k∧RD w wr∧Hid (l.take k=m.take k)) (fun i _=>l.length-(intOf i).toNat)
   case atStart=>exact⟨0,Nat.zero_le _,rfl,rd0 _,by simp[Hid]⟩
   case round =>
    obtain⟨k,hk,rfl,⟨n,rfl⟩,HN⟩:=hrel
    by_cases hlt:k<l.length
    · have CL:k<m.length:=by omega
      obtain⟨b,off,rfl,hcell⟩:=hc (by omega)
      obtain⟨b',off',rfl,hcell'⟩:=hc' (by omega)
      have hck:=hcell k hlt
      have zF:=hcell' k CL
      clear hcell hc hcell' hc'
      go_wp2
      go_quiet (fail)
      go_wp2
      · have hne:(zat l k != zat m k)=true:=by assumption
        go_ret
        refine⟨bQ ?_,(by first | exact rd0 _ | exact rd1 _ _ | exact rd2 _ _ _ | exact rd3 _ _ _ _)⟩
        have:l≠m:=fun e=>by rw[e] at hne;simp at hne
        simp[iT,this]
      · have hne:(zat l k != zat m k)=false:=by assumption
        go_roundw
        case rel =>
         refine⟨k+1,by omega,by go_num,(by first | exact rd0 _ | exact rd1 _ _ | exact rd2 _ _ _ | exact rd3 _ _ _ _),?_⟩
         show _=_
         rw[jB hlt,jB CL,HN.out]
         simp at hne
         rw[hne]
        case measure=>simp[intOf];omega
    · go_wp2
      go_ret
      refine⟨bQ ?_,(by first | exact rd0 _ | exact rd1 _ _ | exact rd2 _ _ _ | exact rd3 _ _ _ _)⟩
      have:=HN.out
      rw[List.take_of_length_le (by omega),List.take_of_length_le (by omega)] at this
      simp[iT,this]
 · have hb:((l.length:Int) == m.length)=false:=by simp;omega
   have hb':((l.length:Int) != m.length)=true:=by simp;omega
   have HL:=Hd_ hll
   clear hll
   go_enter Tryz.func181,Tryz.ntmps181
   go_wp2
   go_ret
   refine⟨bQ ?_,(by first | exact rd0 _ | exact rd1 _ _ | exact rd2 _ _ _ | exact rd3 _ _ _ _)⟩
   have:l≠m:=fun e=>HL.out (by rw[e])
   simp[iT,this]
def zl (l:List Int) (lo hi:Int) (k:Nat):Prop:=∀ j,j<k→lo≤zat l j∧zat l j≤hi∧(0<j→zat l (j-1)<zat l j)
def rises (l:List Int) (lo hi:Int):Bool:=(List.range l.length).all fun j=>decide (lo≤zat l j) && decide (zat l j≤hi) && decide (0<j→zat l (j-1)<zat l j)
theorem ui {l:List Int} {lo hi:Int}:rises l lo hi=true↔zl l lo hi l.length:=by simp[rises,zl,and_assoc,Nat.pos_iff_ne_zero,Classical.or_iff_not_imp_left]
theorem BN {l:List Int} {lo hi:Int} {k:Nat} (hk:k<l.length) (h:¬ (lo≤zat l k∧zat l k≤hi∧(0<k→zat l (k-1)<zat l k))):rises l lo hi=false:=by
 rw[Bool.eq_false_iff];intro e;exact h (ui.1 e k hk)
set_option maxHeartbeats 400000 in
theorem Cn (v:Value) (l:List Int) (lo hi:Int) (w:World) (h:Ints w v l) :
 Calls prog 136 #[v,.int .i64 lo,.int .i64 hi] w fun e w'=>e=.returned (.bool (rises l lo hi))∧RD w w':=by
 obtain⟨a,cap,rfl,hlc,hcap,hc⟩:=h
 go_enter Tryz.func136,Tryz.ntmps136
 go_wp2
 go_loopw [7] (fun i wr=>∃ k:Nat,k≤l.length∧i=.int .i64 k∧RD w wr∧Hid (zl l lo hi k)) (fun i _=>l.length-(intOf i).toNat)
 case atStart=>exact⟨0,Nat.zero_le _,rfl,rd0 _,fun j h=>absurd h (by omega)⟩
 case round =>
  obtain⟨k,hk,rfl,⟨n,rfl⟩,HN⟩:=hrel
  by_cases hlt:k<l.length
  · obtain⟨b,off,rfl,hcell⟩:=hc (by omega)
    have hck:=hcell k hlt
    by_cases hin:inB (zat l k) lo hi=true
    · by_cases h0:0<k
      · have jF:=hcell (k-1) (by omega)
        obtain⟨j,rfl⟩:∃ j,k=j+1:=⟨k-1,by omega⟩
        clear hcell hc
        simp only[Nat.add_sub_cancel] at jF
        by_cases hge:zat l (j+1)≤zat l j
        · go_wp2
          go_quiet ((go_at_call 60;first | exact Calls.quiet_of (fC _ _ _ _) | exact lN (fC _ _ _ _)))
          go_wp2
          go_ret
          exact⟨bQ (BN hlt (fun h=>by have:=h.2.2 (by omega);simp at this;omega)).symm,(by first | exact rd0 _ | exact rd1 _ _ | exact rd2 _ _ _ | exact rd3 _ _ _ _)⟩
        · have hd:decide (zat l (j+1)≤zat l j)=false:=by simpa using hge
          go_wp2
          go_quiet ((go_at_call 60;first | exact Calls.quiet_of (fC _ _ _ _) | exact lN (fC _ _ _ _)))
          go_wp2
          go_roundw
          case rel =>
           refine⟨j+1+1,by omega,by go_num,(by first | exact rd0 _ | exact rd1 _ _ | exact rd2 _ _ _ | exact rd3 _ _ _ _),fun i hi=>?_⟩
           rcases Nat.lt_or_ge i (j+1) with h | h
           · exact HN.out i h
           · obtain rfl:i=j+1:=by omega
             have:=hin
             simp[inB] at this
             exact⟨this.1,this.2,fun _=>by simp;omega⟩
          case measure=>simp[intOf];omega
      · have hd0:decide ((0:Int)<(k:Int))=false:=by simp;omega
        clear hcell hc
        go_wp2
        go_quiet ((go_at_call 60;first | exact Calls.quiet_of (fC _ _ _ _) | exact lN (fC _ _ _ _)))
        go_wp2
        go_roundw
        case rel =>
         refine⟨k+1,by omega,by go_num,(by first | exact rd0 _ | exact rd1 _ _ | exact rd2 _ _ _ | exact rd3 _ _ _ _),fun i hi=>?_⟩
         obtain rfl:i=k:=by omega
         have:=hin
         simp[inB] at this
         exact⟨this.1,this.2,fun h=>absurd h (by omega)⟩
        case measure=>simp[intOf];omega
    · have hin':inB (zat l k) lo hi=false:=by simpa using hin
      clear hcell hc hin
      go_wp2
      go_quiet ((go_at_call 60;first | exact Calls.quiet_of (fC _ _ _ _) | exact lN (fC _ _ _ _)))
      go_wp2
      go_ret
      refine⟨bQ (BN hlt (fun h=>?_)).symm,(by first | exact rd0 _ | exact rd1 _ _ | exact rd2 _ _ _ | exact rd3 _ _ _ _)⟩
      have:=hin'
      simp[inB] at this
      omega
  · go_wp2
    go_ret
    refine⟨bQ ?_,(by first | exact rd0 _ | exact rd1 _ _ | exact rd2 _ _ _ | exact rd3 _ _ _ _)⟩
    have:=HN.out
    rw[show k=l.length by omega] at this
    exact(ui.2 this).symm
end
section
open Go.RowKit
def clZ:List Int→List Int→Int
 | [],[]=>0
 | [],_ :: _=>-1
 | _ :: _,[]=>1
 | a :: l,b :: m=>if a<b then -1 else if b<a then 1 else clZ l m
theorem Ha (p a b:List Int):clZ (p++a) (p++b)=clZ a b:=by
 induction p with
 | nil=>rfl
 | cons x p ih=>simp[clZ,ih]
theorem ng {l:List Int} {k:Nat} (h:k<l.length):l.drop k=zat l k :: l.drop (k+1):=by
 rw[List.drop_eq_getElem_cons h,jP h]
theorem uU {l m:List Int} {k:Nat} (h:l.take k=m.take k):clZ l m=clZ (l.drop k) (m.drop k):=by
 have e1:l=l.take k++l.drop k:=(List.take_append_drop k l).symm
 have e2:m=l.take k++m.drop k:=by rw[h];exact(List.take_append_drop k m).symm
 have:=Ha (l.take k) (l.drop k) (m.drop k)
 rw[← e1,← e2] at this
 exact this
theorem QN {l m:List Int} {k:Nat} (h:l.take k=m.take k) (hl:k<l.length) (hm:k<m.length) (hx:zat l k<zat m k):clZ l m=-1:=by
 rw[uU h,ng hl,ng hm,clZ,if_pos hx]
theorem QO {l m:List Int} {k:Nat} (h:l.take k=m.take k) (hl:k<l.length) (hm:k<m.length) (hx:zat m k<zat l k):clZ l m=1:=by
 rw[uU h,ng hl,ng hm,clZ,if_neg (by omega),if_pos hx]
theorem MN {l m:List Int} (h:l.take l.length=m.take l.length) (hm:l.length<m.length):clZ l m=-1:=by
 rw[uU h,ng hm];simp[clZ]
theorem MM {l m:List Int} (h:l.take m.length=m.take m.length) (hm:m.length<l.length):clZ l m=1:=by
 rw[uU h,ng hm];simp[clZ]
theorem ML {l m:List Int} (h:l.take l.length=m.take l.length) (hm:l.length=m.length):clZ l m=0:=by
 rw[uU h,hm,List.drop_length,← hm,List.drop_length];rfl
set_option maxHeartbeats 400000 in
theorem sJ (v u:Value) (l m:List Int) (w:World) (h:Ints w v l) (g:Ints w u m) :
 Calls prog 209 #[v,u] w fun e w'=>e=.returned (.int .i64 (clZ l m))∧RD w w':=by
 obtain⟨a,cap,rfl,hlc,hcap,hc⟩:=h
 obtain⟨a',cap',rfl,CO,yJ,hc'⟩:=g
 go_enter Tryz.func209,Tryz.ntmps209
 go_wp2
 go_loopw [5] (fun i wr=>∃ k:Nat,k≤l.length∧k≤m.length∧i=.int .i64 k∧RD w wr∧Hid (l.take k=m.take k)) (fun i _=>l.length-(intOf i).toNat)
 case atStart=>exact⟨0,Nat.zero_le _,Nat.zero_le _,rfl,rd0 _,by simp[Hid]⟩
 case round =>
  obtain⟨k,hk,hkm,rfl,⟨n,rfl⟩,HN⟩:=hrel
  by_cases hlt:k<l.length
  · by_cases hlm:k<m.length
    · obtain⟨b,off,rfl,hcell⟩:=hc (by omega)
      obtain⟨b',off',rfl,hcell'⟩:=hc' (by omega)
      have hck:=hcell k hlt
      have zF:=hcell' k hlm
      clear hcell hc hcell' hc'
      by_cases zC:zat l k<zat m k
      · have hne:(zat l k != zat m k)=true:=by simp;omega
        go_wp2
        go_quiet (fail)
        go_wp2
        go_quiet (fail)
        go_wp2
        go_ret
        exact⟨fw (QN HN.out hlt hlm zC).symm,(by first | exact rd0 _ | exact rd1 _ _ | exact rd2 _ _ _ | exact rd3 _ _ _ _)⟩
      · by_cases hgt:zat m k<zat l k
        · have hne:(zat l k != zat m k)=true:=by simp;omega
          have hd:decide (zat l k<zat m k)=false:=by simpa using zC
          go_wp2
          go_quiet (fail)
          go_wp2
          go_quiet (fail)
          go_wp2
          go_ret
          exact⟨fw (QO HN.out hlt hlm hgt).symm,(by first | exact rd0 _ | exact rd1 _ _ | exact rd2 _ _ _ | exact rd3 _ _ _ _)⟩
        · have hne:(zat l k != zat m k)=false:=by simp;omega
          go_wp2
          go_quiet (fail)
          go_wp2
          go_roundw
          case rel =>
           refine⟨k+1,by omega,by omega,by go_num,(by first | exact rd0 _ | exact rd1 _ _ | exact rd2 _ _ _ | exact rd3 _ _ _ _),?_⟩
           show _=_
           rw[jB hlt,jB hlm,HN.out,show zat l k=zat m k by omega]
          case measure=>simp[intOf];omega
    · have hge:m.length<l.length∨l.length=m.length:=by omega
      have hmk:k=m.length:=by omega
      have HK:=Hd_ hmk
      have hgt:m.length<l.length:=by omega
      clear hmk hge
      go_wp2
      go_ret
      exact⟨fw (MM (by rw[← HK.out];exact HN.out) hgt).symm,(by first | exact rd0 _ | exact rd1 _ _ | exact rd2 _ _ _ | exact rd3 _ _ _ _)⟩
  · have hlk:k=l.length:=by omega
    have HK:=Hd_ hlk
    clear hlk
    go_wp2
    · have h1:l.length<m.length:=by assumption
      go_ret
      exact⟨fw (MN (by rw[← HK.out];exact HN.out) h1).symm,(by first | exact rd0 _ | exact rd1 _ _ | exact rd2 _ _ _ | exact rd3 _ _ _ _)⟩
    · have h1:¬ l.length<m.length:=by assumption
      go_ret
      have e:=HK.out
      exact⟨fw (ML (by rw[← e];exact HN.out) (by omega)).symm,(by first | exact rd0 _ | exact rd1 _ _ | exact rd2 _ _ _ | exact rd3 _ _ _ _)⟩
def Um (a1 a2 b1 b2:List Int):Bool:=if clZ a1 b1≠0 then decide (clZ a1 b1<0) else decide (clZ a2 b2<0)
end
section
open Go.RowKit
abbrev Ext (w w':World):Prop:=Below w.heap.size w w'
theorem aa {a b c:World} (h:Ext a b) (k:Ext b c):Ext a c:=h.trans (k.mono h.size)
theorem dw {w w':World} (h:RD w w'):Ext w w':=by obtain⟨n,rfl⟩:=h;exact⟨rfl,rfl,rfl,Nat.le_refl _,fun _ _=>rfl⟩
theorem MS {B:Nat} {a w:World} (h:Below B a w) (n:Nat):Below B a (w.drewN n):=⟨h.os,h.tape,h.output,h.size,h.block⟩
theorem Ints.nil (w:World) (a:Option Addr) (cap:Nat):Ints w (.slice a 0 cap) [] :=
 ⟨a,cap,rfl,Nat.zero_le _,Nat.zero_le _,fun h=>absurd h (by simp)⟩
theorem lt_of_cell {w:World} {a:Addr} {v:Value} (h:w.cell? a=some v):a.block<w.heap.size:=World.block_lt_of_cell? w a h
theorem Ints.keep {w w':World} {v:Value} {l:List Int} (h:Ints w v l) (hk:∀ b,l≠[]→v.ownBlock=some b→w'.heap[b]?=w.heap[b]?):Ints w' v l:=by
 obtain⟨a,cap,rfl,h1,h2,h3⟩:=h
 refine⟨a,cap,rfl,h1,h2,fun h0=>?_⟩
 obtain⟨b,off,rfl,hc⟩:=h3 h0
 refine⟨b,off,rfl,fun i hi=>?_⟩
 rw[World.cell?_of_block (w:=w) (hk b (by intro e;simp[e] at h0) rfl)]
 exact hc i hi
theorem Ints.blk {w:World} {v:Value} {l:List Int} (h:Ints w v l) {b:Nat} (hl:l≠[]) (hb:v.ownBlock=some b):b<w.heap.size:=by
 obtain⟨a,cap,rfl,h1,h2,h3⟩:=h
 obtain⟨b',off,rfl,hc⟩:=h3 (List.length_pos_iff.2 hl)
 simp[Value.ownBlock] at hb
 subst hb
 exact lt_of_cell (hc 0 (List.length_pos_iff.2 hl))
theorem Ints.ext {w w':World} {v:Value} {l:List Int} (h:Ints w v l) (hk:Ext w w'):Ints w' v l :=
 h.keep fun b hl hb=>hk.block b (h.blk hl hb)
theorem Ints.bG {w:World} {B:Nat} {e:TypeId} {v:Value} {n:Nat} {l:List Int} (h:w.ownsRow B e 1 v n (l.map (Value.int .i64))) (hn:l.length≤1152921504606846976):Ints w v l:=by
 obtain⟨hlen,h⟩:=h
 simp at hlen
 rcases h with ⟨rfl,hn0⟩ | ⟨g,cap,cur,rfl,_,hg,hnc,hcm,hcs,ht⟩
 · subst hn0
   have:l=[]:=List.eq_nil_of_length_eq_zero (by omega)
   subst this
   exact Ints.nil _ _ _
 · subst hlen
   refine⟨_,cap,rfl,hnc,hn,fun h0=>⟨g,0,rfl,fun i hi=>?_⟩⟩
   rw[cell_of_row w g (0+i) cur e (0,0) hg]
   have e1:cur.toList[0+i]?=(l.map (Value.int .i64))[i]?:=by
    rw[← ht,List.getElem?_take,if_pos (by omega)];simp
   rw[Array.getElem?_toList] at e1
   rw[e1]
   simp[hi,zat]
theorem aJ {w w':World} {B:Nat} {e:TypeId} {size:Nat} {v:Value} {n:Nat} {xs:List Value} (h:w.ownsRow B e size v n xs) (hk:Ext w w'):w'.ownsRow B e size v n xs :=
 h.kept (row:=none) ⟨hk.os,hk.tape,hk.output,hk.size,fun k hk' _=>hk.block k hk'⟩ (by cases v.ownBlock <;> simp)
theorem own_drewN {w:World} {B:Nat} {e:TypeId} {size:Nat} {v:Value} {n:Nat} {xs:List Value} (h:w.ownsRow B e size v n xs) (k:Nat):(w.drewN k).ownsRow B e size v n xs:=h
theorem eO:(prog.info? 3).map (fun i=>(i.zero,i.size,i.bytes))=some (some (.int .i64 0),1,8):=by kernel_rfl
theorem rF {W wr w1:World} {e:TypeId} {size n:Nat} {o:Value} {xs:List Value} {x:Obj} (dB:Ext W wr) (hown:wr.ownsRow W.heap.size e size o n xs) (hg:(wr.alloc x).grownBy w1 o.ownBlock):Ext W w1 :=
 (dB.alloc dB.size x).grown hg (by have:=dB.size;simp;omega) (fun k hk=>(hown.lt k hk).1)
theorem dD (w:World) (B:Nat) (hB:B≤w.heap.size) (e:TypeId):(w.alloc (.cells #[] e)).ownsRow B e 1 (.slice (some ⟨w.heap.size,0,none⟩) 0 0) 0 [] :=
 World.ownsRow_made w #[] 0 hB (by decide) (by simp)
theorem ig (w:World) (X:Obj) (B:Nat) (hB:B≤w.heap.size) (e:TypeId):((w.alloc X).alloc (.cells #[] e)).ownsRow B e 1 (.slice (some ⟨w.heap.size+1,0,none⟩) 0 0) 0 []:=by
 have:=dD (w.alloc X) B (by simp;omega) e
 simpa using this
theorem BD {w W:World} {b off:Nat} {l:List Int} (hc:∀ i,i<l.length→w.cell? ⟨b,off+i,none⟩=some (.int .i64 (zat l i))) (hE:Ext w W) (s m:Nat) (hsm:s+m≤l.length) :
 ∀ j u,(((l.drop s).take m).map (Value.int .i64))[j]?=some u→W.cell? ((⟨b,off+s,none⟩:Addr).add j)=some u:=by
 intro j u hu
 rw[List.getElem?_map,List.getElem?_take] at hu
 split at hu
 · rename_i hj
   rw[List.getElem?_drop] at hu
   have hlt:s+j<l.length:=by omega
   rw[List.getElem?_eq_getElem hlt] at hu
   simp at hu
   have h0:=hc (s+j) hlt
   have e:((⟨b,off+s,none⟩:Addr).add j)=⟨b,off+(s+j),none⟩:=by
    unfold Addr.add;split <;> simp_all [Nat.add_assoc]
   rw[e,hE.cell (lt_of_cell h0),h0,jP hlt,hu]
 · simp at hu
theorem bq {W:World} {B:Nat} {v:Value} (h:W.cell? ⟨B,0,none⟩=some v):∀ j u,([v]:List Value)[j]?=some u→W.cell? ((⟨B,0,none⟩:Addr).add j)=some u:=by
 intro j u hj
 cases j with
 | zero=>simp at hj;subst hj;simpa [Addr.add] using h
 | succ j=>simp at hj
theorem one_cell {k:IntKind} {n:Int}:∀ u∈([Value.int k n]:List Value),u.oneCell'=true:=by
 intro u hu;simp at hu;subst hu;rfl
theorem aO (w:World) (v:Value) (e:TypeId):(w.alloc (.cells #[v] e)).cell? ⟨w.heap.size,0,none⟩=some v:=by
 rw[World.cell?_alloc_at _ _ _ _ rfl];rfl
theorem qi (w:World) (v:Value) (e:TypeId) (X:Obj):((w.alloc (.cells #[v] e)).alloc X).cell? ⟨w.heap.size,0,none⟩=some v:=by
 rw[World.cell?_alloc_past _ _ _ (by simp)];exact aO _ _ _
theorem nS (w:World) (v:Value) (e:TypeId) (X:Obj):((w.alloc X).alloc (.cells #[v] e)).cell? ⟨w.heap.size+1,0,none⟩=some v:=by
 have h:=aO (w.alloc X) v e
 rw[sA_] at h;exact h
theorem kH {w w1:World} {o:Option Nat} (hg:w.grownBy w1 o) {B:Nat} {v:Value} (h:w.cell? ⟨B,0,none⟩=some v) (ho:some B≠o):w1.cell? ⟨B,0,none⟩=some v :=
 hg.cell h ho
theorem eQ (l:List Int):∀ u∈l.map (Value.int .i64),u.oneCell'=true:=by
 intro u hu;obtain⟨x,_,rfl⟩:=List.mem_map.1 hu;rfl
theorem aV {W wr w1:World} {o:Option Nat} (dB:Ext W wr) (hg:wr.grownBy w1 o) (ho:∀ k,o=some k→W.heap.size≤k):Ext W w1 :=
 dB.grown hg dB.size ho
theorem aM {W wr:World} (dB:Ext W wr) (x:Obj):Ext W (wr.alloc x):=dB.alloc dB.size x
theorem bN {W wr:World} (dB:Ext W wr) (n:Nat):Ext W (wr.drewN n):=MS dB n
end
section
open Go.RowKit
def gH (w:World) (v:Value) (xs:List Value):Prop :=
 ∃ a cap,v=.slice a xs.length cap∧xs.length≤cap∧xs.length≤1152921504606846976∧(0<xs.length→∃ b off,a=some ⟨b,off,none⟩∧∀ i (h:i<xs.length),w.cell? ⟨b,off+i,none⟩=some xs[i])
theorem gH.nil (w:World) (a:Option Addr) (cap:Nat):gH w (.slice a 0 cap) []:=⟨a,cap,rfl,Nat.zero_le _,Nat.zero_le _,fun h=>absurd h (by simp)⟩
theorem gH.keep {w w':World} {v:Value} {xs:List Value} (h:gH w v xs) (hk:∀ b,0<xs.length→v.ownBlock=some b→w'.heap[b]?=w.heap[b]?):gH w' v xs:=by
 obtain⟨a,cap,rfl,h1,h2,h3⟩:=h
 refine⟨a,cap,rfl,h1,h2,fun h0=>?_⟩
 obtain⟨b,off,rfl,hc⟩:=h3 h0
 refine⟨b,off,rfl,fun i hi=>?_⟩
 rw[World.cell?_of_block (w:=w) (hk b h0 rfl)]
 exact hc i hi
theorem gH.blk {w:World} {v:Value} {xs:List Value} (h:gH w v xs) {b:Nat} (hl:0<xs.length) (hb:v.ownBlock=some b):b<w.heap.size:=by
 obtain⟨a,cap,rfl,h1,h2,h3⟩:=h
 obtain⟨b',off,rfl,hc⟩:=h3 hl
 simp[Value.ownBlock] at hb
 subst hb
 exact lt_of_cell (hc 0 hl)
theorem gH.ext {w w':World} {v:Value} {xs:List Value} (h:gH w v xs) (hk:Ext w w'):gH w' v xs:=h.keep fun b hl hb=>hk.block b (h.blk hl hb)
theorem gH.bG {w:World} {B:Nat} {e:TypeId} {v:Value} {n:Nat} {xs:List Value} (h:w.ownsRow B e 1 v n xs) (hn:xs.length≤1152921504606846976):gH w v xs:=by
 obtain⟨hlen,h⟩:=h
 simp at hlen
 rcases h with ⟨rfl,hn0⟩ | ⟨g,cap,cur,rfl,_,hg,hnc,hcm,hcs,ht⟩
 · subst hn0
   have:xs=[]:=List.eq_nil_of_length_eq_zero (by omega)
   subst this
   exact gH.nil _ _ _
 · subst hlen
   refine⟨_,cap,rfl,hnc,hn,fun h0=>⟨g,0,rfl,fun i hi=>?_⟩⟩
   rw[cell_of_row w g (0+i) cur e (0,0) hg]
   have e1:cur.toList[0+i]?=xs[i]?:=by
    conv=>rhs;rw[← ht]
    rw[List.getElem?_take,if_pos (by omega)];simp
   rw[Array.getElem?_toList] at e1
   rw[e1,List.getElem?_eq_getElem hi]
theorem gH.sup {w:World} {v:Value} {xs:List Value} (h:gH w v xs) {S:Nat→Prop} (hv:∀ b,0<xs.length→v.ownBlock=some b→S b):∀ w',(∀ b,S b→w'.heap[b]?=w.heap[b]?)→gH w' v xs :=
 fun _ h2=>h.keep fun b h0 hb=>h2 b (hv b h0 hb)
def Strs (w:World) (v:Value) (ss:List ByteArray):Prop:=gH w v (ss.map Value.string)
theorem Strs.ext {w w':World} {v:Value} {ss:List ByteArray} (h:Strs w v ss) (hk:Ext w w'):Strs w' v ss:=gH.ext h hk
theorem Strs.open {w:World} {v:Value} {ss:List ByteArray} (h:Strs w v ss):∃ a cap,v=.slice a ss.length cap∧ss.length≤cap∧ss.length≤1152921504606846976:=by
 obtain⟨a,cap,rfl,h1,h2,_⟩:=h
 simp only[List.length_map] at h1 h2
 exact⟨a,cap,by rw[List.length_map],h1,h2⟩
theorem Strs.at {w:World} {a:Option Addr} {n cap:Nat} {ss:List ByteArray} (h:Strs w (.slice a n cap) ss) {i:Nat} (hi:i<ss.length):∃ b off,a=some ⟨b,off,none⟩∧∀ j (hj:j<ss.length),w.cell? ⟨b,off+j,none⟩=some (.string ss[j]):=by
 obtain⟨a',cap',e,h1,h2,h3⟩:=h
 simp only[Value.slice.injEq] at e
 obtain⟨rfl,-,rfl⟩:=e
 obtain⟨b,off,rfl,hc⟩:=h3 (by simp;omega)
 exact⟨b,off,rfl,fun j hj=>by rw[hc j (by simpa using hj)];simp⟩
theorem Strs.bG {w:World} {B:Nat} {e:TypeId} {v:Value} {n:Nat} {ss:List ByteArray} (h:w.ownsRow B e 1 v n (ss.map Value.string)) (hn:ss.length≤1152921504606846976):Strs w v ss:=gH.bG h (by simpa using hn)
end
section
open Go.RowKit
def atZ (at_ l:List Int):List Int:=l.map fun x=>zat at_ x.toNat
theorem MU (at_:List Int) {l:List Int} {k:Nat} (h:k<l.length):atZ at_ (l.take (k+1))=atZ at_ (l.take k)++[zat at_ (zat l k).toNat]:=by
 rw[jB h];simp[atZ]
theorem kK (at_ l:List Int):(atZ at_ l).length=l.length:=by simp[atZ]
set_option maxHeartbeats 400000 in
theorem je (v u:Value) (t l:List Int) (w:World) (h:Ints w v t) (g:Ints w u l) (hb:∀ x,x∈l→0≤x∧x<t.length) (hsz:l.length≤1000000000) :
 Calls prog 132 #[v,u] w fun e w'=>∃ v',e=.returned v'∧Ints w' v' (atZ t l)∧Ext w w':=by
 obtain⟨a,cap,rfl,hlc,hcap,hc⟩:=h
 obtain⟨a',cap',rfl,CO,yJ,hc'⟩:=g
 obtain⟨i0,hi,hz0,hz1,hz2⟩:=info_parts eO
 go_enter Tryz.func132,Tryz.ntmps132
 go_wp2
 go_loopw [5,6] (fun o i wr=>∃ k:Nat,k≤l.length∧i=.int .i64 k∧wr.ownsRow w.heap.size 3 1 o k ((atZ t (l.take k)).map (Value.int .i64))∧Ext w wr) (fun _ i _=>l.length-(intOf i).toNat)
 case atStart=>exact⟨0,Nat.zero_le _,rfl,dD w _ (Nat.le_refl _) _,(Below.refl _ _).alloc (Nat.le_refl _) _⟩
 case round =>
  obtain⟨k,hk,rfl,hown,dB⟩:=hrel
  by_cases hlt:k<l.length
  · obtain⟨b',off',rfl,hcell'⟩:=hc' (by omega)
    have hx:=hb _ (Es hlt)
    obtain⟨b,off,rfl,hcell⟩:=hc (by omega)
    have zF:=hcell' k hlt
    have hck:=hcell (zat l k).toNat (by omega)
    have jF:=(dB.cell (lt_of_cell zF)).trans zF
    have uN:=(dB.cell (lt_of_cell hck)).trans hck
    clear hcell hc hcell' hc' hck zF hb
    go_wp2_with (at_builtin;refine wpList_append_own _ rfl _ _ 80 rfl w.heap.size 3 i0 (.int .i64 0) 1 8 underlying80 hi hz0 hz1 hz2 rfl (by decide) _ _ _ rfl (hown.alloc _) ⟨wr.heap.size,0,none⟩ 1 1 [.int .i64 (zat t (zat l k).toNat)] rfl rfl ?c1 ?c2 ?c3 ?c4 ?c5 ?_)
    case c1 =>
     intro j u hj
     match j,hj with
     | 0,hj=>simp at hj;subst hj;simp[Addr.add]
    case c2=>intro u hu;simp at hu;subst hu;rfl
    case c3=>unfold maxLen;omega
    case c4=>omega
    case c5=>have:=dB.size;simp;omega
    intro v' w1 hown' hgrow _
    have hx1:=rF dB hown hgrow
    have hs:=MU t hlt
    have ho1:w1.ownsRow w.heap.size 3 1 v' (k+1) ((atZ t (l.take (k+1))).map (Value.int .i64)):=by
     rw[hs];simpa using hown'
    clear hown' hgrow hown dB hs
    go_wp2
    go_roundw
    case rel=>exact⟨k+1,by omega,by go_num,ho1,hx1⟩
    case measure=>simp[intOf];omega
  · go_wp2
    go_ret
    have e:k=l.length:=by omega
    subst e
    rw[List.take_length] at hown
    exact⟨_,rfl,Ints.bG hown (by rw[kK];omega),dB⟩
end
end Go.Proofs.YteknjeohbcgpdaaGreatDoor