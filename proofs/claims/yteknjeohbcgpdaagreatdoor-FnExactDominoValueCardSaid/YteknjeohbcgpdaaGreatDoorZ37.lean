/-
  Contracts of the comparisons: slices.Compare and cmp.Or at int, and the two function literals of order. (2 texts.)
-/
import Derived.Test.YteknjeohbcgpdaaGreatDoorZ33
import Derived.Test.YteknjeohbcgpdaaGreatDoorZ35
import Derived.Test.YteknjeohbcgpdaaGreatDoorZ36
set_option maxRecDepth 100000
namespace Go.Proofs.YteknjeohbcgpdaaGreatDoor
open Tryz
section
open Go.RowKit
theorem EG {w:World} {B e g n cap k:Nat} {l:List Int} (h:w.ownsRow B e 1 (.slice (some ⟨g,0,none⟩) n cap) n (l.map (Value.int .i64))) (hk:k<n) (x:Int) :
 (w.setCell ⟨g,k,none⟩ (.int .i64 x)).ownsRow B e 1 (.slice (some ⟨g,0,none⟩) n cap) n ((l.set k x).map (Value.int .i64)):=by
 obtain⟨hl,h2⟩:=h
 refine⟨by simpa using hl,?_⟩
 rcases h2 with ⟨e1,_⟩ | ⟨g',cap',cur,e1,hb,hg,hnc,hcm,hcs,ht⟩
 · simp at e1
 · simp only[Value.slice.injEq,Option.some.injEq,Addr.mk.injEq,and_true,true_and] at e1
   obtain⟨rfl,rfl⟩:=e1
   refine .inr ⟨g,cap,cur.setIfInBounds k (.int .i64 x),rfl,hb,heap_setCell_same _ _ _ _ _ _ hg,hnc,hcm,by simp[hcs],?_⟩
   rw[Array.toList_setIfInBounds,List.map_set,← ht,List.take_set]
theorem uf (l:List Nat) (h:l.Nodup):((toZ l).mergeSort fun x y=>decide (x≤y))=toZ (ai l):=by
 generalize hms:((toZ l).mergeSort fun x y=>decide (x≤y))=ms
 have hs:ms.Pairwise (·≤·):=by
  rw[← hms]
  have:=List.pairwise_mergeSort (le:=fun x y:Int=>decide (x≤y)) (fun a b c h1 h2=>by simp at *;omega) (fun a b=>by simp;omega) (toZ l)
  exact this.imp (fun h=>by simpa using h)
 have hp:ms.Perm (toZ l):=by rw[← hms];exact List.mergeSort_perm _ _
 have hnd:ms.Nodup:=hp.symm.nodup (by rw[toZ,List.Nodup,List.pairwise_map];exact h.imp (fun h e=>h (by omega)))
 have ha:ms.Pairwise (· < ·):=(hs.and hnd).imp (fun h=>by omega)
 have hnn:∀ x,x∈ms→∃ n:Nat,x=(n:Int):=fun x hx=>by obtain⟨n,_,e⟩:=iZ (hp.mem_iff.1 hx);exact⟨n,e⟩
 have e1:ms=toZ (ms.map Int.toNat):=by
  unfold toZ
  rw[List.map_map]
  conv=>lhs;rw[← List.map_id ms]
  refine List.map_congr_left fun x hx=>?_
  obtain⟨n,rfl⟩:=hnn x hx
  rfl
 rw[e1]
 congr 1
 refine Cgt.nu ?_ (fB l) (fun x=>?_)
 · unfold Cgt.Asc
   rw[List.pairwise_map]
   refine List.Pairwise.imp_of_mem (fun {a b} ha hb h=>?_) ha
   obtain⟨n,rfl⟩:=hnn a ha
   obtain⟨m,rfl⟩:=hnn b hb
   simp;omega
 · rw[aK]
   have hm:(x:Int)∈ms↔x∈l:=by
    rw[hp.mem_iff]
    exact⟨fun h=>by obtain⟨n,hn,e⟩:=iZ h;rw[show x=n by omega];exact hn,fun h=>List.mem_map.2 ⟨x,h,rfl⟩⟩
   rw[← hm]
   constructor
   · intro h
     obtain⟨y,hy,rfl⟩:=List.mem_map.1 h
     obtain⟨n,rfl⟩:=hnn y hy
     exact hy
   · intro h
     exact List.mem_map.2 ⟨(x:Int),h,rfl⟩
theorem Ik (w:World) (n:Nat) (hn:n≤1000000):(w.alloc (.cells (madeCells #[Value.int .i64 0] n) 3)).ownsRow w.heap.size 3 1 (.slice (some ⟨w.heap.size,0,none⟩) n n) n ((List.replicate n (0:Int)).map (Value.int .i64)):=by
 have h:=World.ownsRow_lit w (base:=w.heap.size) (madeCells #[Value.int .i64 0] n) n (e:=3) (size:=1) (Nat.le_refl _) (by unfold maxLen;omega) (by rw[size_madeCells];simp)
 rw[yw] at h
 exact h
def xS (l:List Nat) (w:World) (e:Ending) (w':World):Prop:=∃ v',e=.returned v'∧w'.ownsRow w.heap.size 3 1 v' (ai l).length ((toZ (ai l)).map (Value.int .i64))∧Ext w w'
theorem IX {l:List Nat} {rk:Nat→Nat} {k:Nat} (hk:k<l.length):(toZ ((l.take k).map rk)++List.replicate (l.length-k) 0).set k (rk l[k]:Int)=toZ ((l.take (k+1)).map rk)++List.replicate (l.length-(k+1)) 0:=by
 have h1:(toZ ((l.take k).map rk)).length=k:=by rw[aj,List.length_map,List.length_take];omega
 rw[List.set_append_right _ _ (by omega),h1,Nat.sub_self,List.take_succ_eq_append_getElem hk,List.map_append,jm,List.append_assoc]
 congr 1
 rw[show l.length-k=(l.length-(k+1))+1 by omega,List.replicate_succ]
 rfl
set_option maxHeartbeats 4000000 in
theorem yl (v:Value) (O:List Nat) (rb n:Nat) (fm:Value→Option Value) (rk:Nat→Nat) (w:World) (hv:Ints w v (toZ O)) (hO:O.length≤1000000) (hOl:∀ x,x∈O→x<900000000) (hM:bW prog 3 w rb n fm) (hf:∀ x,x∈O→fm (.int .i64 (x:Int))=some (.int .i64 (rk x:Int))) (hnd:(O.map rk).Nodup) :
 Calls prog 165 #[v,.map (some rb)] w (xS (O.map rk) w):=by
 obtain⟨i0,hi0,hz0,hz1,hz2⟩:=info_parts eO
 obtain⟨a,cap,rfl,hlc,hcap,hc⟩:=hv
 rw[aj] at hlc hcap hc ⊢
 have hmk:=fun w:World=>run_make (P:=prog) w 80 3 i0 (.int .i64 0) underlying80 hi0 hz0 .i64 .i64 (O.length:Int) (O.length:Int) (by omega) (by omega) (by rw[hz2];omega) (by omega)
 simp only[hz1,Nat.mul_one,Int.toNat_natCast] at hmk
 have hown0:=Ik w O.length hO
 have hx0:Ext w (w.alloc (.cells (madeCells #[Value.int .i64 0] O.length) 3)):=by go_grown
 go_enter Tryz.func165,Tryz.ntmps165
 go_upto_region 2 with fail
 generalize w.alloc (.cells (madeCells #[Value.int .i64 0] O.length) 3)=W0 at *
 clear hmk
 go_wp2
 go_loopw [6,7,13] (fun _ _ ii wr=>∃ k:Nat,k≤O.length∧ii=.int .i64 ((k:Nat):Int)∧wr.ownsRow w.heap.size 3 1 (.slice (some ⟨w.heap.size,0,none⟩) O.length O.length) O.length ((toZ ((O.take k).map rk)++List.replicate (O.length-k) 0).map (Value.int .i64))∧Ext w wr) (fun _ _ ii _=>O.length-(intOf ii).toNat)
 case atStart=>exact⟨0,Nat.zero_le _,rfl,by simpa [toZ] using hown0,hx0⟩
 case round =>
  clear hown0 hx0
  obtain⟨k,hk,rfl,hown,hx⟩:=hrel
  by_cases hlt:k<O.length
  · have h1:((k:Nat):Int)<((O.length:Nat):Int):=by omega
    obtain⟨b,off,rfl,hcell⟩:=hc (by omega)
    have hck:=hcell k hlt
    rw[dN hlt] at hck
    have jF:=(hx.cell (lt_of_cell hck)).trans hck
    have hfx:=hf _ (List.getElem_mem hlt)
    have hxl:=hOl _ (List.getElem_mem hlt)
    have HS:=Hd_ (IX (rk:=rk) hlt)
    obtain⟨x,hxe⟩:∃ x,x=O[k]:=⟨_,rfl⟩
    rw[← hxe] at hck jF hfx hxl HS
    obtain⟨kl,hkl⟩:=j5 x (by omega)
    have hlk:=(hM.keep (hx.block rb hM.lt)).look jq underlying135 (vv wr) hkl false
    rw[hfx] at hlk
    simp only[Option.getD_some,Bool.false_eq_true,if_false] at hlk
    have hcz:=hown.cellAt k (by omega)
    obtain⟨u,hu⟩:∃ u,wr.cell? ⟨w.heap.size,k,none⟩=some u:=by
     have:=hown.1
     rw[hcz]
     exact⟨_,List.getElem?_eq_getElem (by rw[this];omega)⟩
    have hfr:wr.frozen? ⟨w.heap.size,k,none⟩=false:=hown.frozenAt k
    clear hcell hxe hcz
    go_wp2
    go_roundw
    case rel=>exact⟨k+1,by omega,by go_num,by rw[← HS.out];exact EG hown hlt _,hx.setCell (p:=⟨w.heap.size,k,none⟩) (Nat.le_refl _) _⟩
    case measure=>simp[intOf];omega
  · have h1:¬ (((k:Nat):Int)<((O.length:Nat):Int)):=by omega
    have hke:k=O.length:=by omega
    subst hke
    rw[List.take_length,Nat.sub_self,List.replicate_zero,List.append_nil] at hown
    have hsl:(ai (O.map rk)).length=O.length:=by
     have:=congrArg List.length (uf (O.map rk) hnd)
     rw[List.length_mergeSort,aj,aj,List.length_map] at this;exact this.symm
    rcases Nat.eq_zero_or_pos O.length with hz | hz
    · have hOn:O=[]:=List.eq_nil_of_length_eq_zero hz
      subst hOn
      go_wp2_with (go_at_call 201;refine(Tryz.slices_Sort_int_none _ _ _).mono ?_;rintro e w2 ⟨rfl,hw2⟩;subst hw2)
      go_ret
      exact⟨_,rfl,by simpa [ai,dO,toZ] using hown,hx⟩
    · have hll:(toZ (O.map rk)).length=O.length:=by rw[aj,List.length_map]
      have GA:=Tryz.slices_Sort_int w.heap.size 0 O.length (toZ (O.map rk)) wr (uk hown) (hown.lt _ rfl).2 (by omega)
      rw[hll] at GA
      have HS:=Hd_ GA
      have hms:((toZ (O.map rk)).mergeSort fun x y=>decide (x≤y)).length=(toZ (O.map rk)).length:=List.length_mergeSort _
      have HMS:=Hd_ hms
      clear GA hll hms
      go_wp2_with (go_at_call 201;refine HS.out.mono ?_;rintro e w2 ⟨rfl,m2,os2,hw2⟩)
      go_ret
      obtain⟨ho2,hk2⟩:=zm hown HMS.out m2 os2
      rw[← hw2] at ho2 hk2 ⊢
      rw[uf _ hnd] at ho2
      refine⟨_,rfl,by rw[hsl];exact ho2,⟨hk2.os.trans hx.os,hk2.tape.trans hx.tape,hk2.output.trans hx.output,Nat.le_trans hx.size hk2.size,fun k hk=>?_⟩⟩
      rw[hk2.block k (by have:=hx.size;omega) (by omega)];exact hx.block k hk
end
section
open Go.RowKit
open Cgt (Dag Nd vl)
open Go.Sort (grow grow_grow alloc_eq_grow grow_empty)
def nG (w w':World):Prop:=∃ q os,w'=grow (w.drewN q) os
theorem nG.refl (w:World):nG w w:=⟨0,#[],by rw[grow_empty];rfl⟩
theorem nG.drewN {w w1:World} (h:nG w w1) (n:Nat):nG w (w1.drewN n):=by
 obtain⟨q,os,rfl⟩:=h
 exact⟨q+n,os,by rw[← World.drewN_drewN];rfl⟩
theorem nG.alloc {w w1:World} (h:nG w w1) (X:Obj):nG w (w1.alloc X):=by
 obtain⟨q,os,rfl⟩:=h
 exact⟨q,os++#[X],by rw[alloc_eq_grow,grow_grow]⟩
theorem nG.ext {w w1:World} (h:nG w w1):Ext w w1:=by
 obtain⟨q,os,rfl⟩:=h
 refine⟨rfl,rfl,rfl,?_,fun k hk=>?_⟩
 · show w.heap.size≤(w.heap++os).size;rw[Array.size_append];omega
 · show (w.heap++os)[k]?=w.heap[k]?;rw[Array.getElem?_append_left hk]
theorem JU (p a b:List Nat):Cgt.cl (p++a) (p++b)=Cgt.cl a b:=by
 induction p with
 | nil=>rfl
 | cons x p ih=>simp[Cgt.cl,ih]
theorem Bw {a b:List Nat} {k:Nat} (h:a.take k=b.take k):Cgt.cl a b=Cgt.cl (a.drop k) (b.drop k):=by
 have e1:a=a.take k++a.drop k:=(List.take_append_drop k a).symm
 have e2:b=a.take k++b.drop k:=by rw[h];exact(List.take_append_drop k b).symm
 conv=>lhs;rw[e1,e2]
 exact JU _ _ _
set_option maxHeartbeats 2000000 in
theorem oz (v u:Value) (a b:List Nat) (w:World) (hv:Ints w v (toZ a)) (hu:Ints w u (toZ b)) (ha:∀ x,x∈a→x<900000000) (hb:∀ x,x∈b→x<900000000) :
 Calls prog 114 #[v,u] w fun e w'=>e=.returned (.int .i64 (Cgt.cl a b))∧RD w w':=by
 obtain⟨av,cv,rfl,hv1,hv2,hv3⟩:=hv
 obtain⟨au,cu,rfl,hu1,hu2,hu3⟩:=hu
 rw[aj] at hv1 hv2 hv3 hu1 hu2 hu3 ⊢
 rw[aj]
 go_enter Tryz.func114,Tryz.ntmps114
 go_wp2
 go_loopw [5,6,7,8,11] (fun _ _ _ _ ii wr=>∃ k:Nat,k≤a.length∧ii=.int .i64 ((k:Nat):Int)∧RD w wr∧Hid (a.take k=b.take k)) (fun _ _ _ _ ii _=>a.length-(intOf ii).toNat)
 case atStart=>exact⟨0,Nat.zero_le _,rfl,rd0 _,by simp[Hid]⟩
 case round =>
  obtain⟨k,hk,rfl,⟨n,rfl⟩,HE⟩:=hrel
  by_cases hlt:k<a.length
  · have h1:((k:Nat):Int)<((a.length:Nat):Int):=by omega
    obtain⟨b1,o1,rfl,hc1⟩:=hv3 (by omega)
    have hck:=hc1 k hlt
    rw[dN hlt] at hck
    have hax:=ha _ (List.getElem_mem hlt)
    by_cases hkb:k<b.length
    · have h2:¬ (((b.length:Nat):Int)≤((k:Nat):Int)):=by omega
      obtain⟨b2,o2,rfl,hc2⟩:=hu3 (by omega)
      have uN:=hc2 k hkb
      rw[dN hkb] at uN
      have hbx:=hb _ (List.getElem_mem hkb)
      have HD:=Hd_ (Bw HE.out)
      have e1:a.drop k=a[k] :: a.drop (k+1):=List.drop_eq_getElem_cons hlt
      have e2:b.drop k=b[k] :: b.drop (k+1):=List.drop_eq_getElem_cons hkb
      have ht1:a.take (k+1)=a.take k++[a[k]]:=List.take_succ_eq_append_getElem hlt
      have ht2:b.take (k+1)=b.take k++[b[k]]:=List.take_succ_eq_append_getElem hkb
      obtain⟨x,hx⟩:∃ x,x=a[k]:=⟨_,rfl⟩
      obtain⟨y,hy⟩:∃ y,y=b[k]:=⟨_,rfl⟩
      rw[← hx] at e1 ht1 hck hax
      rw[← hy] at e2 ht2 uN hbx
      have HEQ:=Hd_ (And.intro e1 (And.intro e2 (And.intro ht1 ht2)))
      clear hc1 hc2 e1 e2 ht1 ht2 hx hy
      by_cases hxy:x=y
      · subst hxy
        have e0:Lib.compareInt (x:Int) (x:Int)=0:=by simp[Lib.compareInt]
        go_wp2_with (go_at_call 113;refine(Tryz.cmp_Compare_int _ _ _).mono ?_;rw[e0];rintro e w2 ⟨rfl,hw2⟩;subst hw2)
        go_roundw
        case rel=>exact⟨k+1,by omega,by go_num,⟨_,rfl⟩,Hd_ (by rw[HEQ.out.2.2.1,HEQ.out.2.2.2,HE.out])⟩
        case measure=>simp[intOf];omega
      · obtain⟨c,hc⟩:∃ c,c=Lib.compareInt (x:Int) (y:Int):=⟨_,rfl⟩
        have hc0:(c == 0)=false:=by rw[hc];unfold Lib.compareInt;simp;split <;> (try split) <;> omega
        have HC:=Hd_ (show Cgt.cl a b=c by
         rw[HD.out,HEQ.out.1,HEQ.out.2.1,hc]
         simp only[Cgt.cl,Lib.compareInt]
         by_cases l1:x<y
         · rw[if_pos l1,if_pos (by omega)]
         · rw[if_neg l1,if_pos (show y<x by omega),if_neg (show ¬ ((x:Int)<(y:Int)) by omega),if_pos (show (x:Int) > (y:Int) by omega)])
        have HCE:=Hd_ hc
        clear hc
        go_wp2_with (go_at_call 113;refine(Tryz.cmp_Compare_int _ _ _).mono ?_;rw[← HCE.out];rintro e w2 ⟨rfl,hw2⟩;subst hw2)
        go_ret
        exact⟨fw HC.out.symm,⟨_,rfl⟩⟩
    · have h2:((b.length:Nat):Int)≤((k:Nat):Int):=by omega
      have HD:=Hd_ (show Cgt.cl a b=1 by
       rw[Bw HE.out,List.drop_eq_nil_of_le (show b.length≤k by omega),List.drop_eq_getElem_cons hlt];rfl)
      clear hc1
      go_wp2
      go_ret
      exact⟨fw HD.out.symm,⟨_,rfl⟩⟩
  · have h1:¬ (((k:Nat):Int)<((a.length:Nat):Int)):=by omega
    have hke:k=a.length:=by omega
    subst hke
    by_cases hlb:a.length<b.length
    · have h2:((a.length:Nat):Int)<((b.length:Nat):Int):=by omega
      have HD:=Hd_ (show Cgt.cl a b=-1 by
       rw[Bw HE.out,List.drop_eq_nil_of_le (Nat.le_refl _),List.drop_eq_getElem_cons hlb];rfl)
      go_wp2
      go_ret
      exact⟨fw HD.out.symm,⟨_,rfl⟩⟩
    · have h2:¬ (((a.length:Nat):Int)<((b.length:Nat):Int)):=by omega
      have HD:=Hd_ (show Cgt.cl a b=0 by
       rw[Bw HE.out,List.drop_eq_nil_of_le (Nat.le_refl _),List.drop_eq_nil_of_le (show b.length≤a.length by omega)];rfl)
      go_wp2
      go_ret
      exact⟨fw HD.out.symm,⟨_,rfl⟩⟩
def orZ (x y:Int):Int:=if x≠0 then x else y
theorem JS (b:Nat) (x y:Int) (w:World) (h0:w.cell? ⟨b,0,none⟩=some (.int .i64 x)) (h1:w.cell? ⟨b,1,none⟩=some (.int .i64 y)) :
 Calls prog 112 #[.slice (some ⟨b,0,none⟩) 2 2] w fun e w'=>e=.returned (.int .i64 (orZ x y))∧RD w w':=by
 go_enter Tryz.func112,Tryz.ntmps112
 go_wp2
 go_loopw [5,8] (fun _ ii wr=>∃ k:Nat,k≤2∧ii=.int .i64 ((k:Nat):Int)∧RD w wr∧Hid ((1≤k→x=0)∧(2≤k→y=0))) (fun _ ii _=>2-(intOf ii).toNat)
 case atStart=>exact⟨0,Nat.zero_le _,rfl,rd0 _,by simp[Hid]⟩
 case round =>
  obtain⟨k,hk,rfl,⟨n,rfl⟩,HE⟩:=hrel
  rcases zW hk with rfl | rfl | rfl
  · by_cases hx:x=0
    · subst hx
      go_wp2
      go_roundw
      case rel=>exact⟨1,by omega,by go_num,⟨_,rfl⟩,Hd_ ⟨by simp,fun h=>by omega⟩⟩
      case measure=>simp[intOf]
    · have hx0:(x == 0)=false:=by simpa using hx
      have HX:=Hd_ hx
      clear hx
      go_wp2
      go_ret
      exact⟨fw (by unfold orZ;rw[if_pos HX.out]),⟨_,rfl⟩⟩
  · have HX:=Hd_ (HE.out.1 (by omega))
    by_cases hy:y=0
    · subst hy
      go_wp2
      go_roundw
      case rel=>exact⟨2,by omega,by go_num,⟨_,rfl⟩,Hd_ ⟨fun _=>HX.out,by simp⟩⟩
      case measure=>simp[intOf]
    · have hy0:(y == 0)=false:=by simpa using hy
      clear hy
      go_wp2
      go_ret
      exact⟨fw (by unfold orZ;rw[if_neg (by simp[HX.out])]),⟨_,rfl⟩⟩
  · have HX:=Hd_ (And.intro (HE.out.1 (by omega)) (HE.out.2 (by omega)))
    go_wp2
    go_ret
    exact⟨fw (by unfold orZ;rw[if_neg (by simp[HX.out.1]),HX.out.2]),⟨_,rfl⟩⟩
def Boxed (w:World) (pb pp:Nat):Prop:=w.cell? ⟨pb,0,none⟩=some (.pointer (some ⟨pp,0,none⟩))
def KE:List Row:=[⟨0,[],7,[2]⟩,⟨1,[0],8,[6]⟩,⟨2,[1],9,[7]⟩,⟨3,[2],10,[8]⟩,⟨4,[],11,[0]⟩,⟨5,[3,4],12,[9,10]⟩,⟨6,[5],13,[11]⟩,⟨7,[],14,[2]⟩,⟨8,[7],15,[13]⟩,⟨9,[8],16,[14]⟩,⟨10,[9],17,[15]⟩,⟨11,[],18,[1]⟩,⟨12,[10,11],19,[16,17]⟩,⟨13,[12],20,[18]⟩,⟨14,[6,13],21,[12,19]⟩,⟨15,[14,14,0,1,2,3,4,5,6,7,8,9,10,11,12,13,14],6,[20]⟩]
set_option maxHeartbeats 2000000 in
theorem FX (pb gb cb n x y:Nat) (bx by_:Nat) (pp:Nat) (w:World) (h0:w.cell? ⟨pb,0,none⟩=some (.pointer (some ⟨pp,0,none⟩))) (h2:w.cell? ⟨pp,2,none⟩=some (.slice (some ⟨gb,0,none⟩) n cb)) (hn:n≤900000) (hx:x<n) (hy:y<n) (hbx:w.cell? ⟨gb,x,none⟩=some (.int .i64 (bx:Int))) (hby:w.cell? ⟨gb,y,none⟩=some (.int .i64 (by_:Int))) :
 Calls prog 164 #[.int .i64 (x:Int),.int .i64 (y:Int),.pointer (some ⟨pb,0,none⟩)] w fun e w'=>e=.returned (.int .i64 (Lib.compareInt (bx:Int) (by_:Int)))∧RD w w':=by
 go_enter Tryz.func164,Tryz.ntmps164
 go_upto_region 1 with fail
 refine bz (fun W=>W.cell? ⟨pb,0,none⟩=some (.pointer (some ⟨pp,0,none⟩))∧W.cell? ⟨pp,2,none⟩=some (.slice (some ⟨gb,0,none⟩) n cb)∧W.cell? ⟨gb,x,none⟩=some (.int .i64 (bx:Int))∧W.cell? ⟨gb,y,none⟩=some (.int .i64 (by_:Int))) [14,15] KE (by kernel_rfl) ⟨by kernel_rfl,by kernel_rfl,by kernel_rfl⟩ ⟨h0,h2,hbx,hby⟩ (fun ae hHeld=>?_)
 ((refine tkB ae (i:=0) hHeld ?_);(try simp only[nP]);(refine tkB ae (i:=1) hHeld ?_);(try simp only[nP]);(refine tkB ae (i:=2) hHeld ?_);(try simp only[nP]);(refine tkB ae (i:=3) hHeld ?_);(try simp only[nP]);(refine tkB ae (i:=4) hHeld ?_);(try simp only[nP]);(refine tkB ae (i:=5) hHeld ?_);(try simp only[nP]);(refine tkB ae (i:=6) hHeld ?_);(try simp only[nP]);(refine tkB ae (i:=7) hHeld ?_);(try simp only[nP]);(refine tkB ae (i:=8) hHeld ?_);(try simp only[nP]);(refine tkB ae (i:=9) hHeld ?_);(try simp only[nP]);(refine tkB ae (i:=10) hHeld ?_);(try simp only[nP]);(refine tkB ae (i:=11) hHeld ?_);(try simp only[nP]);(refine tkB ae (i:=12) hHeld ?_);(try simp only[nP]);(refine tkB ae (i:=13) hHeld ?_);(try simp only[nP]))
 refine tlB ae [14,15] [_,_] ?_
 clear ae hHeld
 go_wp2_with (go_at_call 113;refine(Tryz.cmp_Compare_int _ _ _).mono ?_;rintro e w2 ⟨rfl,hw2⟩;subst hw2)
 go_ret
 exact⟨rfl,⟨1,rfl⟩⟩
theorem new2_0 (w:World) (x y:Value) (e:TypeId):(w.alloc (.cells #[x,y] e)).cell? ⟨w.heap.size,0,none⟩=some x:=(World.cell?_alloc_at (w:=w) #[x,y] e _ 0 rfl)
theorem new2_1 (w:World) (x y:Value) (e:TypeId):(w.alloc (.cells #[x,y] e)).cell? ⟨w.heap.size,1,none⟩=some y:=(World.cell?_alloc_at (w:=w) #[x,y] e _ 1 rfl)
def Kz:List Row:=[⟨0,[],6,[2]⟩,⟨1,[0],7,[5]⟩,⟨2,[1],8,[6]⟩,⟨3,[],9,[3]⟩,⟨4,[3],10,[8]⟩,⟨5,[4],11,[9]⟩,⟨6,[2,5],12,[7,10]⟩,⟨7,[],13,[2]⟩,⟨8,[7],14,[12]⟩,⟨9,[8],15,[13]⟩,⟨10,[],16,[3]⟩,⟨11,[10],17,[15]⟩,⟨12,[11],18,[16]⟩,⟨13,[9,12,6],19,[14,17]⟩,⟨14,[6,13],20,[11,18]⟩,⟨15,[14,13],21,[19]⟩,⟨16,[15,15,0,1,2,3,4,5,6,7,8,9,10,11,12,13,14,15],5,[20]⟩]
set_option maxHeartbeats 2000000 in
theorem FW (x y:Nat) (l1 r1 l2 r2:Value) (L1 R1 L2 R2:List Nat) (w:World) (hl1:Ints w l1 (toZ L1)) (hr1:Ints w r1 (toZ R1)) (hl2:Ints w l2 (toZ L2)) (hr2:Ints w r2 (toZ R2)) (b1:∀ x,x∈L1→x<900000000) (b2:∀ x,x∈R1→x<900000000) (b3:∀ x,x∈L2→x<900000000) (b4:∀ x,x∈R2→x<900000000) :
 Calls prog 167 #[.agg #[.int .i64 (x:Int),l1,r1],.agg #[.int .i64 (y:Int),l2,r2]] w fun e w'=>e=.returned (.int .i64 (Cgt.nc (L1,R1) (L2,R2)))∧nG w w':=by
 obtain⟨a1,c1,rfl,-⟩:=id hl1
 obtain⟨a2,c2,rfl,-⟩:=id hr1
 obtain⟨a3,c3,rfl,-⟩:=id hl2
 obtain⟨a4,c4,rfl,-⟩:=id hr2
 rw[aj] at hl1 hr1 hl2 hr2
 simp only[aj]
 go_enter Tryz.func167,Tryz.ntmps167
 go_upto_region 1 with fail
 have hG0:nG w ((w.alloc (.cells #[.int .i64 (x:Int),.slice a1 L1.length c1,.slice a2 R1.length c2] 192)).alloc (.cells #[.int .i64 (y:Int),.slice a3 L2.length c3,.slice a4 R2.length c4] 192)):=((nG.refl w).alloc _).alloc _
 have hb1:((w.alloc (.cells #[.int .i64 (x:Int),.slice a1 L1.length c1,.slice a2 R1.length c2] 192)).alloc (.cells #[.int .i64 (y:Int),.slice a3 L2.length c3,.slice a4 R2.length c4] 192)).heap[w.heap.size]?=some (.cells #[.int .i64 (x:Int),.slice a1 L1.length c1,.slice a2 R1.length c2] 192 (0,0)):=by
  rw[Below.heap_alloc _ _ _ (by rw[sA_];omega)];exact heap_alloc_new w _
 have hb2:((w.alloc (.cells #[.int .i64 (x:Int),.slice a1 L1.length c1,.slice a2 R1.length c2] 192)).alloc (.cells #[.int .i64 (y:Int),.slice a3 L2.length c3,.slice a4 R2.length c4] 192)).heap[w.heap.size+1]?=some (.cells #[.int .i64 (y:Int),.slice a3 L2.length c3,.slice a4 R2.length c4] 192 (0,0)) :=
  alloc_at (by rw[sA_])
 generalize (w.alloc (.cells #[.int .i64 (x:Int),.slice a1 L1.length c1,.slice a2 R1.length c2] 192)).alloc (.cells #[.int .i64 (y:Int),.slice a3 L2.length c3,.slice a4 R2.length c4] 192)=W0 at *
 have hx0:=hG0.ext
 have d1:=cell_of_row W0 w.heap.size 1 _ _ _ hb1
 have d2:=cell_of_row W0 w.heap.size 2 _ _ _ hb1
 have d3:=cell_of_row W0 (w.heap.size+1) 1 _ _ _ hb2
 have d4:=cell_of_row W0 (w.heap.size+1) 2 _ _ _ hb2
 have i1:=hl1.ext hx0
 have i2:=hr1.ext hx0
 have i3:=hl2.ext hx0
 have i4:=hr2.ext hx0
 refine bz (fun W=>W.cell? ⟨w.heap.size,1,none⟩=some (.slice a1 L1.length c1)∧W.cell? ⟨w.heap.size,2,none⟩=some (.slice a2 R1.length c2)∧W.cell? ⟨w.heap.size+1,1,none⟩=some (.slice a3 L2.length c3)∧W.cell? ⟨w.heap.size+1,2,none⟩=some (.slice a4 R2.length c4)) [14,15,16] Kz (by kernel_rfl) ⟨by kernel_rfl,by kernel_rfl,by kernel_rfl⟩ ⟨d1,d2,d3,d4⟩ (fun ae hHeld=>?_)
 ((refine tkB ae (i:=0) hHeld ?_);(try simp only[nP]);(refine tkB ae (i:=1) hHeld ?_);(try simp only[nP]);(refine tkB ae (i:=2) hHeld ?_);(try simp only[nP]);(refine tkB ae (i:=3) hHeld ?_);(try simp only[nP]);(refine tkB ae (i:=4) hHeld ?_);(try simp only[nP]);(refine tkB ae (i:=5) hHeld ?_);(try simp only[nP]);(refine tkB ae (i:=7) hHeld ?_);(try simp only[nP]);(refine tkB ae (i:=8) hHeld ?_);(try simp only[nP]);(refine tkB ae (i:=9) hHeld ?_);(try simp only[nP]);(refine tkB ae (i:=10) hHeld ?_);(try simp only[nP]);(refine tkB ae (i:=11) hHeld ?_);(try simp only[nP]);(refine tkB ae (i:=12) hHeld ?_);(try simp only[nP]))
 (refine stB ae (i:=6) fun K hK=>?_;go_simp)
 refine(oz _ _ L1 L2 _ (i1.ext (dw ⟨1,rfl⟩)) (i3.ext (dw ⟨1,rfl⟩)) b1 b3).mono ?_
 rintro e w2 ⟨rfl,n2,rfl⟩
 (refine hK.out _ _ (fun _=>?_) ?_)
 · exact hHeld
 clear hK K
 (try simp only[nP])
 (refine stB ae (i:=13) fun K hK=>?_;go_simp)
 refine(oz _ _ R1 R2 _ (i2.ext (dw ⟨1+n2,by rw[← World.drewN_drewN]⟩)) (i4.ext (dw ⟨1+n2,by rw[← World.drewN_drewN]⟩)) b2 b4).mono ?_
 rintro e w3 ⟨rfl,n3,rfl⟩
 (refine hK.out _ _ (fun _=>?_) ?_)
 · exact hHeld
 clear hK K
 (try simp only[nP])
 refine tlB ae [14,15,16] [_,_,_] ?_
 clear ae hHeld d1 d2 d3 d4 hb1 hb2
 go_wp2_with (go_at_call 112;refine(JS _ (Cgt.cl L1 L2) (Cgt.cl R1 R2) _ (new2_0 _ _ _ _) (new2_1 _ _ _ _)).mono ?_;rintro e w5 ⟨rfl,n5,rfl⟩)
 go_ret
 exact⟨rfl,((hG0.drewN (1+n2+n3)).alloc _).drewN n5⟩
end
end Go.Proofs.YteknjeohbcgpdaaGreatDoor