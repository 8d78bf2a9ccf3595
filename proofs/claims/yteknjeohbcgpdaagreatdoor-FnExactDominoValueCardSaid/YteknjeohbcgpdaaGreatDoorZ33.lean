/-
  Memory of the program's reduced; what it yields; the law of canon. (3 texts.)
-/
import Derived.Test.YteknjeohbcgpdaaGreatDoorZ6
import Derived.Test.YteknjeohbcgpdaaGreatDoorZ11
import Derived.Test.YteknjeohbcgpdaaGreatDoorZ13
import Derived.Test.YteknjeohbcgpdaaGreatDoorZ18
import Derived.Test.YteknjeohbcgpdaaGreatDoorZ28
import Derived.Test.YteknjeohbcgpdaaGreatDoorZ29
import Derived.Test.YteknjeohbcgpdaaGreatDoorZ32
set_option maxRecDepth 100000
namespace Go.Proofs.YteknjeohbcgpdaaGreatDoor
open Tryz
section
open Go.RowKit
theorem Im {z:List Int} (ha:z.Pairwise (· < ·)) {d k:Nat} (h1:∀ y,y∈z.take d→y<(k:Int)) (h2:∀ y,y∈z.drop d→(k:Int)≤y):fJ z (k:Int)=true↔∃ zs,z.drop d=(k:Int) :: zs:=by
 unfold fJ
 rw[decide_eq_true_iff]
 constructor
 · intro h
   rw[← List.take_append_drop d z] at h
   rcases List.mem_append.1 h with h | h
   · have:=h1 _ h;omega
   · cases hd:z.drop d with
     | nil=>rw[hd] at h;cases h
     | cons y zs =>
       rw[hd] at h
       rcases List.mem_cons.1 h with h | h
       · exact⟨zs,by rw[h]⟩
       · have hp:=ha.sublist (List.drop_sublist d z)
         rw[hd] at hp
         have q1:=(List.pairwise_cons.1 hp).1 _ h
         have q2:=h2 y (by rw[hd];simp)
         omega
 · rintro⟨zs,e⟩
   exact List.mem_of_mem_drop (i:=d) (by rw[e];simp)
theorem Kk {z:List Int} (ha:z.Pairwise (· < ·)) {d k:Nat} {zs:List Int} (h1:∀ y,y∈z.take d→y<(k:Int)) (e:z.drop d=(k:Int) :: zs):z.drop (d+1)=zs∧(∀ y,y∈z.take (d+1)→y<((k+1:Nat):Int))∧∀ y,y∈z.drop (d+1)→((k+1:Nat):Int)≤y:=by
 have e1:z.drop (d+1)=zs:=by rw[← List.drop_drop,e];rfl
 refine⟨e1,fun y hy=>?_,fun y hy=>?_⟩
 · have hlt:d<z.length:=by
    rcases Nat.lt_or_ge d z.length with c | c
    · exact c
    · rw[List.drop_eq_nil_of_le c] at e;cases e
   rw[List.take_succ_eq_append_getElem hlt] at hy
   rcases List.mem_append.1 hy with hy | hy
   · have:=h1 y hy;omega
   · simp at hy
     have:z[d]=(k:Int):=by
      have q:=List.drop_eq_getElem_cons hlt
      rw[e] at q;injection q with q;exact q.symm
     omega
 · rw[e1] at hy
   have hp:=ha.sublist (List.drop_sublist d z)
   rw[e] at hp
   have:=(List.pairwise_cons.1 hp).1 y hy
   omega
theorem Kl {z:List Int} {d k:Nat} (h1:∀ y,y∈z.take d→y<(k:Int)) (h2:∀ y,y∈z.drop d→(k:Int)≤y) (hn:fJ z (k:Int)=false):(∀ y,y∈z.take d→y<((k+1:Nat):Int))∧∀ y,y∈z.drop d→((k+1:Nat):Int)≤y:=by
 refine⟨fun y hy=>by have:=h1 y hy;omega,fun y hy=>?_⟩
 have:=h2 y hy
 have hne:y≠(k:Int):=fun e=>by
  subst e
  have:fJ z (k:Int)=true:=by unfold fJ;rw[decide_eq_true_iff];exact List.mem_of_mem_drop hy
  rw[this] at hn;cases hn
 omega
def QX (l z:List Int) (w:World) (e:Ending) (w':World):Prop:=∃ v',e=.returned v'∧w'.ownsRow w.heap.size 3 1 v' (lh l z).length ((lh l z).map (Value.int .i64))∧Ext w w'
theorem Jq {w:World} {b off q cap:Nat} {y:Int} {zs:List Int} (h:Ints w (.slice (some ⟨b,off,none⟩) (q+1) cap) (y :: zs)):Ints w (.slice (some ⟨b,off+1,none⟩) q (cap-1)) zs:=by
 obtain⟨a,c,e,h1,h2,h3⟩:=h
 simp only[Value.slice.injEq,List.length_cons,Nat.add_right_cancel_iff] at e
 obtain⟨rfl,rfl,rfl⟩:=e
 simp only[List.length_cons] at h1 h2 h3
 obtain⟨b',off',e,hc⟩:=h3 (by omega)
 simp only[Option.some.injEq,Addr.mk.injEq,and_true] at e
 obtain⟨rfl,rfl⟩:=e
 refine⟨_,_,rfl,by omega,by omega,fun _=>⟨_,_,rfl,fun i hi=>?_⟩⟩
 have:=hc (i+1) (by omega)
 rw[show off+1+i=off+(i+1) by omega,this]
 simp[zat]
set_option maxHeartbeats 2000000 in
theorem wI (v u:Value) (l z:List Int) (w:World) (h:Ints w v l) (g:Ints w u z) (hz:z.Pairwise (· < ·)) (hz0':∀ y,y∈z→0≤y) (hsz:l.length≤1000000000) :
 Calls prog 197 #[v,u] w (QX l z w):=by
 obtain⟨a,cap,rfl,hlc,hcap,hc⟩:=h
 obtain⟨i0,hi,hz0,hz1,hz2⟩:=info_parts eO
 go_enter Tryz.func197,Tryz.ntmps197
 go_wp2
 go_loopw [1,5,6,7,11] (fun pv o _ _ i wr=>∃ k d:Nat,k≤l.length∧i=.int .i64 k∧wr.ownsRow w.heap.size 3 1 o (woK l z k).length ((woK l z k).map (Value.int .i64))∧Ext w wr∧Ints w pv (z.drop d)∧(∀ y,y∈z.take d→y<(k:Int))∧∀ y,y∈z.drop d→(k:Int)≤y) (fun _ _ _ _ i _=>l.length-(intOf i).toNat)
 case atStart=>exact⟨0,0,Nat.zero_le _,rfl,dD w _ (Nat.le_refl _) _,(Below.refl _ _).alloc (Nat.le_refl _) _,g,by simp,fun y hy=>hz0' y (by simpa using hy)⟩
 case round =>
  obtain⟨k,d,hk,rfl,hown,dB,hI,hT,hD⟩:=hrel
  by_cases hlt:k<l.length
  · obtain⟨b,off,rfl,hcell⟩:=hc (by omega)
    have hck:=hcell k hlt
    have jF:=(dB.cell (lt_of_cell hck)).trans hck
    have hwl:=rf l z k
    obtain⟨ao,co,rfl,_,_⟩:=az hown
    clear hcell hc hck
    by_cases hin:fJ z (k:Int)=true
    · obtain⟨zs,e⟩:=(Im hz hT hD).1 hin
      have HW:=Hd_ (Io l z k hin)
      have HN:=Hd_ (Kk hz hT e)
      rw[e] at hI
      have HI:=Hd_ hI
      obtain⟨pa,pc,rfl,hpc,hpl,mg⟩:=hI
      obtain⟨q,hq⟩:∃ q,q=zs.length:=⟨_,rfl⟩
      have hq1:((k:Int) :: zs).length=q+1:=by rw[hq];rfl
      rw[hq1] at hpc hpl mg HI ⊢
      obtain⟨bp,op,rfl,hcp⟩:=mg (by omega)
      have hc0:=(dB.cell (lt_of_cell (hcp 0 (by omega)))).trans (hcp 0 (by omega))
      have e0:zat ((k:Int) :: zs) 0=(k:Int):=by simp[zat]
      rw[e0,Nat.add_zero] at hc0
      have HZ:=Hd_ hz
      have HQ:=Hd_ hq
      clear hcp mg e e0 hin hT hD hz hq1 hq
      by_cases hq0:q=0
      · subst hq0
        go_wp2
        go_roundw
        case rel=>exact⟨k+1,d+1,by omega,by go_num,by rw[HW.out];exact hown,dB,by rw[HN.out.1,List.eq_nil_of_length_eq_zero HQ.out.symm];exact Ints.nil _ _ _,HN.out.2.1,HN.out.2.2⟩
        case measure=>simp[intOf];omega
      · have hq1:¬ (q+1=1):=by omega
        go_wp2
        go_roundw
        case rel=>exact⟨k+1,d+1,by omega,by go_num,by rw[HW.out];exact hown,dB,by rw[HN.out.1];exact Jq HI.out,HN.out.2.1,HN.out.2.2⟩
        case measure=>simp[intOf];omega
    · have hin':fJ z (k:Int)=false:=by simpa using hin
      have HW:=Hd_ (Eu l z k hin')
      have HN:=Hd_ (Kl hT hD hin')
      have HI:=Hd_ hI
      have HZ:=Hd_ hz
      obtain⟨pa,pc,rfl,hpc,hpl,mg⟩:=hI
      cases hd:z.drop d with
      | nil =>
        rw[hd] at HI
        clear mg hT hD hin hz
        go_wp2_with (at_builtin;refine aW rfl (.tmp 28) (.tmp 30) 80 rfl w.heap.size 3 i0 (.int .i64 0) 1 8 underlying80 hi hz0 hz1 hz2 rfl (by decide) (.slice ao (woK l z k).length co) _ _ rfl (hown.alloc _) _ 1 _ [Value.int .i64 (zat l k)] rfl rfl (.inr ⟨_,rfl,bq (aO _ _ _)⟩) one_cell (by unfold maxLen;omega) (by omega) (by have:=dB.size;simp;omega) ?_;intro v1 w1 ho1 hg1 _)
        go_roundw
        case rel =>
         refine⟨k+1,d,by omega,by go_num,?_,rF dB hown hg1,by rw[hd];exact HI.out,HN.out.1,HN.out.2⟩
         rw[HW.out];simpa using ho1
        case measure=>simp[intOf];omega
      | cons y zs =>
        rw[hd] at HI hpc hpl mg
        have hyk:¬ (y=(k:Int)):=fun e=>by
         have:=(Im HZ.out hT hD).2 ⟨zs,by rw[hd,e]⟩
         rw[hin'] at this;cases this
        have UL:(y == (k:Int))=false:=by simpa using hyk
        obtain⟨q,hq⟩:∃ q,q=zs.length:=⟨_,rfl⟩
        have hq1:(y :: zs).length=q+1:=by rw[hq];rfl
        rw[hq1] at hpc hpl mg HI ⊢
        obtain⟨bp,op,rfl,hcp⟩:=mg (by omega)
        have hc0:=(dB.cell (lt_of_cell (hcp 0 (by omega)))).trans (hcp 0 (by omega))
        have e0:zat (y :: zs) 0=y:=by simp[zat]
        rw[e0,Nat.add_zero] at hc0
        have HQ:=Hd_ hd
        clear mg hcp e0 hT hD hin hz hq1 hq hyk hd
        go_wp2_with (at_builtin;refine aW rfl (.tmp 28) (.tmp 30) 80 rfl w.heap.size 3 i0 (.int .i64 0) 1 8 underlying80 hi hz0 hz1 hz2 rfl (by decide) (.slice ao (woK l z k).length co) _ _ rfl (hown.alloc _) _ 1 _ [Value.int .i64 (zat l k)] rfl rfl (.inr ⟨_,rfl,bq (aO _ _ _)⟩) one_cell (by unfold maxLen;omega) (by omega) (by have:=dB.size;simp;omega) ?_;intro v1 w1 ho1 hg1 _)
        go_roundw
        case rel =>
         refine⟨k+1,d,by omega,by go_num,?_,rF dB hown hg1,by rw[HQ.out];exact HI.out,HN.out.1,HN.out.2⟩
         rw[HW.out];simpa using ho1
        case measure=>simp[intOf];omega
  · go_wp2
    go_ret
    have e:k=l.length:=by omega
    subst e
    exact⟨_,rfl,hown,dB⟩
end
section
open Go.RowKit
theorem tO (w:World) (g:Nat) (f:Array Value→Array Value) {cur:Array Value} {e:TypeId} {fr:Nat × Nat} (h:w.heap[g]?=some (.cells cur e fr)):(Go.Sort.mapBlock w g f).heap[g]?=some (.cells (f cur) e fr):=by
 simp[Go.Sort.mapBlock,Array.getElem?_modify,h,Go.Sort.onCells]
theorem rA (w:World) (g k:Nat) (f:Array Value→Array Value) (h:k≠g):(Go.Sort.mapBlock w g f).heap[k]?=w.heap[k]?:=by
 simp[Go.Sort.mapBlock,Array.getElem?_modify,Ne.symm h]
theorem qC (w:World) (os:Array Obj) {k:Nat} (h:k<w.heap.size):(Go.Sort.grow w os).heap[k]?=w.heap[k]?:=by
 simp[Go.Sort.grow,Array.getElem?_append_left h]
theorem zm {w:World} {base e g n cap:Nat} {l l':List Int} (h:w.ownsRow base e 1 (.slice (some ⟨g,0,none⟩) n cap) n (l.map (Value.int .i64))) (hl:l'.length=l.length) (m:Nat) (os:Array Obj) :
 (Go.Sort.grow (Go.Sort.putRow (Value.int .i64) (Go.Sort.ahead w m) g 0 l'.toArray) os).ownsRow base e 1 (.slice (some ⟨g,0,none⟩) n cap) n (l'.map (Value.int .i64))∧bg (fun b=>b=g) w (Go.Sort.grow (Go.Sort.putRow (Value.int .i64) (Go.Sort.ahead w m) g 0 l'.toArray) os):=by
 obtain⟨hlen,h⟩:=h
 rw[List.length_map] at hlen
 have hgl:g<w.heap.size:=by
  rcases h with ⟨h,_⟩ | ⟨g',cap',cur,h1,h2,h3,_⟩
  · simp at h
  · simp only[Value.slice.injEq,Option.some.injEq,Addr.mk.injEq,and_true,true_and] at h1
    obtain⟨rfl,rfl⟩:=h1;exact ah h3
 have hsz:(Go.Sort.putRow (Value.int .i64) (Go.Sort.ahead w m) g 0 l'.toArray).heap.size=w.heap.size:=by rw[Go.Sort.size_putRow];rfl
 refine⟨⟨by rw[List.length_map];omega,?_⟩,rfl,rfl,rfl,by simp[Go.Sort.grow,hsz],fun k hk hn=>?_⟩
 · rcases h with ⟨h,_⟩ | ⟨g',cap',cur,h1,h2,h3,h4,h5,h6,h7⟩
   · simp at h
   · simp only[Value.slice.injEq,Option.some.injEq,Addr.mk.injEq,and_true,true_and] at h1
     obtain⟨rfl,rfl⟩:=h1
     refine .inr ⟨g,cap,Go.Sort.putCells (Value.int .i64) 0 l'.toArray cur,rfl,h2,?_,h4,h5,by simp[Go.Sort.putCells,h6],?_⟩
     · rw[qC _ _ (by rw[hsz];exact hgl)]
       exact tO _ _ _ h3
     · apply List.ext_getElem?
       intro i
       rw[List.getElem?_take]
       by_cases c:i<n*1
       · rw[if_pos c,Array.getElem?_toList]
         have hc:i<cur.size:=by rw[h6];have:=Nat.mul_le_mul_right 1 h4;omega
         have hi:i<l'.length:=by omega
         rw[List.getElem?_map,List.getElem?_eq_getElem hi]
         simp only[Go.Sort.putCells,Array.getElem?_mapIdx,Array.getElem?_eq_getElem hc,Option.map_some]
         rw[if_pos (by simp;omega)]
         simp[hi]
       · rw[if_neg c,List.getElem?_eq_none (by rw[List.length_map];omega)]
 · rw[qC _ _ (by rw[hsz];exact hk)]
   exact rA (Go.Sort.ahead w m) g k _ hn
theorem uk {w:World} {base e g n cap:Nat} {l:List Int} (h:w.ownsRow base e 1 (.slice (some ⟨g,0,none⟩) n cap) n (l.map (Value.int .i64))):Go.Sort.Holds (Value.int .i64) w g 0 l.toArray:=by
 intro j hj
 have hl:=h.1
 rw[List.length_map] at hl
 have hj':j<l.length:=by simpa using hj
 rw[Nat.zero_add]
 refine⟨?_,h.frozenAt j⟩
 rw[Ct h (by omega),jP hj']
 simp[hj']
theorem yn {w:World} {base e g n cap k:Nat} {l:List Int} (h:w.ownsRow base e 1 (.slice (some ⟨g,0,none⟩) n cap) n (l.map (Value.int .i64))) (hk:k≤n):w.ownsRow base e 1 (.slice (some ⟨g,0,none⟩) k cap) k ((l.take k).map (Value.int .i64)):=by
 obtain⟨hlen,h⟩:=h
 rw[List.length_map] at hlen
 refine⟨by rw[List.length_map,List.length_take];omega,?_⟩
 rcases h with ⟨h,_⟩ | ⟨g',cap',cur,h1,h2,h3,h4,h5,h6,h7⟩
 · simp at h
 · simp only[Value.slice.injEq,Option.some.injEq,Addr.mk.injEq,and_true,true_and] at h1
   obtain⟨rfl,rfl⟩:=h1
   refine .inr ⟨g,cap,cur,rfl,h2,h3,by omega,h5,h6,?_⟩
   rw[List.map_take,← h7,List.take_take];congr 1;omega
def mZ (l:List Int):List Int:=Lib.compact (l.mergeSort fun x y=>decide (x≤y))
def Nl (l:List Int) (w:World) (e:Ending) (w':World):Prop:=∃ v',e=.returned v'∧w'.ownsRow w.heap.size 3 1 v' (mZ l).length ((mZ l).map (Value.int .i64))∧Ext w w'
theorem Df (v:Value) (l:List Int) (w:World) (h:Ints w v l) (hl:l.length≤1000000000):Calls prog 168 #[v] w (Nl l w):=by
 obtain⟨a,cap,rfl,hlc,hcap,hc⟩:=id h
 rcases Nat.eq_zero_or_pos l.length with hz | hz
 · have hln:l=[]:=List.eq_nil_of_length_eq_zero hz
   subst hln
   have hd:mZ []=[]:=by simp[mZ,Lib.compact,Lib.compactUpTo]
   cases a with
   | none =>
     go_enter Tryz.func168,Tryz.ntmps168
     go_wp2_with (first
      | (go_at_call 203;refine(Tryz.slices_Clone_int_nil _ _ _).mono ?_;rintro e w1 ⟨rfl,rfl⟩)
      | (go_at_call 201;refine(Tryz.slices_Sort_int_none _ _ _).mono ?_;rintro e w1 ⟨rfl,hw1⟩)
      | (go_at_call 204;refine(Tryz.slices_Compact_int_empty _ _ _).mono ?_;rintro e w1 ⟨rfl,rfl⟩))
     go_ret
     exact⟨_,rfl,by rw[hd];exact⟨by simp,.inl ⟨rfl,rfl⟩⟩,Below.refl _ _⟩
   | some ad =>
     go_enter Tryz.func168,Tryz.ntmps168
     go_wp2_with (first
      | (go_at_call 203;refine(Tryz.slices_Clone_int_zero _ _ _).mono ?_;rintro e w1 ⟨v1,rfl,ho1,-,hx1⟩;obtain⟨a1,c1,rfl,-⟩:=az ho1)
      | (go_at_call 201;refine(Tryz.slices_Sort_int_none _ _ _).mono ?_;rintro e w2 ⟨rfl,hw2⟩;subst hw2)
      | (go_at_call 204;refine(Tryz.slices_Compact_int_empty _ _ _).mono ?_;rintro e w3 ⟨rfl,hw3⟩;subst hw3))
     go_ret
     exact⟨_,rfl,by rw[hd];exact ho1,hx1⟩
 · obtain⟨b,off,rfl,hcell⟩:=hc hz
   have hg:∀ j,j<l.length→w.cell? ⟨b,off+j,none⟩=some (.int .i64 (l.getD j 0)):=fun j hj=>by rw[hcell j hj];simp[zat]
   go_enter Tryz.func168,Tryz.ntmps168
   go_upto_region 2 with (go_at_call 203;refine(Tryz.slices_Clone_int b off l.length _ l _ (Nat.le_refl _) (by omega) hg).mono ?_;rintro e w1 ⟨v1,rfl,ho1,-,hx1⟩)
   rw[List.take_of_length_le (Nat.le_refl _)] at ho1
   obtain⟨g,c1,rfl,hc1,Vh,-⟩:=dC ho1 hz
   have hgl:=ho1.lt g rfl
   have hms:(l.mergeSort fun x y=>decide (x≤y)).length=l.length:=List.length_mergeSort _
   go_upto_region 3 with (go_at_call 201;refine(Tryz.slices_Sort_int g 0 _ l _ (uk ho1) hgl.2 (by omega)).mono ?_;rintro e w2 ⟨rfl,m2,os2,hw2⟩)
   obtain⟨ho2,hk2⟩:=zm ho1 hms m2 os2
   rw[← hw2] at ho2 hk2 ⊢
   clear hw2
   generalize PV:(l.mergeSort fun x y=>decide (x≤y))=ms at *
   have hcl:(Lib.compact ms).length≤l.length:=by
    rw[← hms];unfold Lib.compact Lib.compactUpTo
    rw[List.length_map];exact Nat.le_trans (List.length_filter_le _ _) (by simp)
   have hC:=Tryz.slices_Compact_int g 0 c1 ms w2 (uk ho2) (by rw[hms];omega) (by rw[hms];exact hc1)
   rw[hms] at hC
   have HMS:=Hd_ hms
   have HD:=Hd_ PV
   clear hms PV
   go_wp2_with (go_at_call 204;refine hC.mono ?_;rintro e w3 ⟨rfl,q3,hw3⟩)
   go_ret
   rw[← hw3]
   have hl3:(Lib.compact ms++List.replicate (l.length-(Lib.compact ms).length) 0).length=l.length:=by
    rw[List.length_append,List.length_replicate];omega
   obtain⟨ho3,hk3⟩:=zm ho2 (hl3.trans HMS.out.symm) q3 #[]
   have e3:Go.Sort.grow (Go.Sort.putRow (Value.int .i64) (Go.Sort.ahead w2 q3) g 0 (Lib.compact ms++List.replicate (l.length-(Lib.compact ms).length) 0).toArray) #[]=w3:=by rw[Go.Sort.grow_empty,hw3]
   rw[e3] at ho3 hk3
   have hdz:mZ l=Lib.compact ms:=by unfold mZ;rw[HD.out]
   refine⟨_,rfl,?_,⟨hk3.os.trans (hk2.os.trans hx1.os),hk3.tape.trans (hk2.tape.trans hx1.tape),hk3.output.trans (hk2.output.trans hx1.output),Nat.le_trans hx1.size (Nat.le_trans hk2.size hk3.size),fun k hk=>?_⟩⟩
   · have:=yn ho3 (k:=(Lib.compact ms).length) hcl
     rw[List.take_left] at this;rw[hdz];exact this
   · have z1:=hx1.size
     rw[hk3.block k (by have:=hk2.size;omega) (by omega),hk2.block k (by omega) (by omega)];exact hx1.block k hk
theorem Eh {z:List Int} (h:z.Pairwise (·≤·)):(Lib.compact z).Pairwise (· < ·):=by
 unfold Lib.compact Lib.compactUpTo
 rw[List.pairwise_map]
 have hr:((List.range z.length).filter (Lib.keeps z.toArray)).Pairwise (· < ·):=List.pairwise_lt_range.filter _
 refine List.Pairwise.imp_of_mem (fun {i j} hi hj hij=>?_) hr
 simp only[List.mem_filter,List.mem_range,Lib.keeps,decide_eq_true_eq] at hi hj
 rcases hj.2 with h0 | h0
 · omega
 · have e1:z.toArray[j]! =z[j]:=by simp[hj.1]
   have e2:z.toArray[j-1]! =z[j-1]'(by omega):=by simp[show j-1<z.length by omega]
   have e3:z.toArray[i]! =z[i]:=by simp[hi.1]
   rw[e1,e2] at h0
   rw[e1,e3]
   have a:z[i]≤z[j-1]'(by omega):=by
    by_cases c:i=j-1
    · subst c;exact Int.le_refl _
    · exact List.pairwise_iff_getElem.1 h i (j-1) hi.1 (by omega) (by omega)
   have b:=List.pairwise_iff_getElem.1 h (j-1) j (by omega) hj.1 (by omega)
   omega
theorem Eg {z:List Int} {x:Int}:x∈Lib.compact z↔x∈z:=by
 have key:∀ i (h:i<z.length),z[i]∈Lib.compact z:=by
  intro i
  induction i with
  | zero =>
    intro h
    refine List.mem_map.2 ⟨0,List.mem_filter.2 ⟨List.mem_range.2 h,by simp[Lib.keeps]⟩,by simp[h]⟩
  | succ i ih =>
    intro h
    by_cases c:z[i+1]=z[i]
    · rw[c];exact ih (by omega)
    · refine List.mem_map.2 ⟨i+1,List.mem_filter.2 ⟨List.mem_range.2 h,?_⟩,by simp[h]⟩
      simp only[Lib.keeps,decide_eq_true_eq,Nat.add_sub_cancel]
      right
      have e1:z.toArray[i+1]! =z[i+1]:=by simp[h]
      have e2:z.toArray[i]! =z[i]:=by simp[show i<z.length by omega]
      rw[e1,e2];exact c
 constructor
 · intro h
   obtain⟨i,hi,rfl⟩:=List.mem_map.1 h
   simp only[List.mem_filter,List.mem_range] at hi
   have:z.toArray[i]! =z[i]:=by simp[hi.1]
   rw[this];exact List.getElem_mem _
 · intro h
   obtain⟨i,hi,rfl⟩:=List.mem_iff_getElem.1 h
   exact key i hi
theorem MG (l:List Nat):mZ (toZ l)=toZ (ai l):=by
 have hs:((toZ l).mergeSort fun x y=>decide (x≤y)).Pairwise (·≤·):=by
  have:=List.pairwise_mergeSort (le:=fun x y:Int=>decide (x≤y)) (fun a b c h1 h2=>by simp at *;omega) (fun a b=>by simp;omega) (toZ l)
  exact this.imp (fun h=>by simpa using h)
 have ha:=Eh hs
 have hm:∀ x,x∈mZ (toZ l)↔x∈toZ l:=fun x=>by unfold mZ;rw[Eg,List.mem_mergeSort]
 have hnn:∀ x,x∈mZ (toZ l)→∃ n:Nat,x=(n:Int):=fun x hx=>by obtain⟨n,_,e⟩:=iZ ((hm x).1 hx);exact⟨n,e⟩
 have e1:mZ (toZ l)=toZ ((mZ (toZ l)).map Int.toNat):=by
  unfold toZ
  rw[List.map_map]
  conv=>lhs;rw[← List.map_id (mZ _)]
  refine List.map_congr_left fun x hx=>?_
  obtain⟨n,rfl⟩:=hnn x hx
  rfl
 rw[e1]
 congr 1
 refine Cgt.nu ?_ (fB l) (fun x=>?_)
 · unfold Cgt.Asc
   rw[List.pairwise_map]
   refine List.Pairwise.imp_of_mem (fun {a b} ha hb h=>?_) ha
   obtain⟨n,rfl⟩:=hnn a ha
   obtain⟨m,rfl⟩:=hnn b hb
   simp;omega
 · rw[aK]
   constructor
   · intro h
     obtain⟨y,hy,rfl⟩:=List.mem_map.1 h
     obtain⟨n,hn,rfl⟩:=iZ ((hm y).1 hy)
     simpa using hn
   · intro h
     exact List.mem_map.2 ⟨(x:Int),(hm _).2 (mO.2 h),by simp⟩
end
section
open Go.RowKit
open Cgt (Dag Nd vl Same Ge)
theorem RH {w:World} {b:Nat} {o X:Obj} (h:w.heap[b]?=some o):(w.alloc X).heap[b]?=some o:=by rw[Below.heap_alloc _ _ _ (ah h)];exact h
theorem I8 {w:World} {B e n:Nat} {v:Value} {l:List Nat} {m:Nat} {ys:List Value} (h:w.ownsRow B e 1 v n ys) (hn:n=m) (hy:ys=(toZ l).map (Value.int .i64)):w.ownsRow B e 1 v m ((toZ l).map (Value.int .i64)):=by subst hn;rw[← hy];exact h
theorem jm (a b:List Nat):toZ (a++b)=toZ a++toZ b:=by simp[toZ]
structure bY (pp h:Nat) (s:PSt) (w wr:World) (mb:Nat) (qv kv:Value) (q B line:List Nat):Prop where
 q:wr.ownsRow w.heap.size 3 1 qv q.length ((toZ q).map (Value.int .i64))
 k:wr.ownsRow w.heap.size 3 1 kv B.length ((toZ B).map (Value.int .i64))
 seen:∃ f,bW prog 3 wr mb line.length f∧∀ x:Nat,f (.int .i64 (x:Int))=if x∈line then some (.bool true) else none
 mb0:w.heap.size≤mb
 a1:qv.ownBlock≠some mb
 a2:kv.ownBlock≠some mb
 a3:∀ b,qv.ownBlock=some b→kv.ownBlock≠some b
 clr:Clr pp h s wr (fun b=>b=mb∨qv.ownBlock=some b∨kv.ownBlock=some b)
theorem bY.keep {pp h:Nat} {s s':PSt} {w wr w2:World} {mb:Nat} {qv kv:Value} {q B line:List Nat} {G:Nat→Prop} (m:bY pp h s w wr mb qv kv q B line) (hk:bg G wr w2) (hG:∀ b,b=mb∨qv.ownBlock=some b∨kv.ownBlock=some b→¬ G b)
 (hc:Clr pp h s' w2 (fun b=>b=mb∨qv.ownBlock=some b∨kv.ownBlock=some b)):bY pp h s' w w2 mb qv kv q B line:=by
 obtain⟨f,f1,f2⟩:=m.seen
 exact⟨aI m.q hk (fun b hb=>hG b (.inr (.inl hb))),aI m.k hk (fun b hb=>hG b (.inr (.inr hb))),⟨f,f1.keep (hk.block _ f1.lt (hG mb (.inl rfl))),f2⟩,m.mb0,m.a1,m.a2,m.a3,hc⟩
theorem bY.go {pp h:Nat} {s s':PSt} {w wr w2:World} {mb:Nat} {qv kv:Value} {q B line:List Nat} (m:bY pp h s w wr mb qv kv q B line) (g:PGo pp h s wr s' w2):bY pp h s' w w2 mb qv kv q B line :=
 m.keep g.keep (fun b hb=>(m.clr b hb).2.1) (m.clr.go g)
theorem Clr.ext {pp h:Nat} {s:PSt} {w w':World} {T:Nat→Prop} (c:Clr pp h s w T) (hx:Ext w w'):Clr pp h s w' T:=fun b hb=>⟨Nat.lt_of_lt_of_le (c b hb).1 hx.size,(c b hb).2⟩
theorem bY.ext {pp h:Nat} {s:PSt} {w wr w2:World} {mb:Nat} {qv kv:Value} {q B line:List Nat} (m:bY pp h s w wr mb qv kv q B line) (hx:Ext wr w2):bY pp h s w w2 mb qv kv q B line :=
 m.keep (bZ (F:=fun _=>False) hx) (fun _ _=>id) (m.clr.ext hx)
theorem bY.push {pp h:Nat} {s:PSt} {w wr wa w2:World} {mb:Nat} {qv qv' kv:Value} {q news B line:List Nat} {n:Nat} {ys:List Value} (m:bY pp h s w wr mb qv kv q B line) (hP:aQ wr pp h s) (hx:Ext wr wa) (hg:wa.grownBy w2 qv.ownBlock)
 (ho:w2.ownsRow w.heap.size 3 1 qv' n ys) (hn:n=(q++news).length) (hy:ys=(toZ (q++news)).map (Value.int .i64)) (hl:eU wa qv qv'):bY pp h s w w2 mb qv' kv (q++news) B line:=by
 have hz:=hx.size
 have hz2:=hg.size
 have hL:∀ b,qv'.ownBlock=some b→qv.ownBlock=some b∨wr.heap.size≤b:=fun b hb=>by
  rcases hl with e | ⟨g,e,k⟩
  · exact .inl (e ▸ hb)
  · rw[e] at hb;injection hb with hb;exact .inr (by omega)
 have m1:=m.ext hx
 obtain⟨f,f1,f2⟩:=m1.seen
 have hkg:=fE hg
 have hcm:=m.clr
 refine⟨I8 ho hn hy,aI m1.k hkg (fun b hb hq=>m.a3 b hq hb),⟨f,f1.keep (hkg.block _ f1.lt (fun e=>m.a1 e)),f2⟩,m.mb0,fun e=>?_,m.a2,fun b hb hc=>?_,fun b hb=>?_⟩
 · rcases hL mb e with h1 | h1
   · exact m.a1 h1
   · have:=(hcm mb (.inl rfl)).1;omega
 · rcases hL b hb with h1 | h1
   · exact m.a3 b h1 hc
   · have:=(hcm b (.inr (.inr hc))).1;omega
 · have hlt:=ho.lt
   rcases hb with rfl | hb | hb
   · have:=hcm _ (.inl rfl);exact⟨by omega,this.2⟩
   · refine⟨(hlt b hb).2,?_⟩
     rcases hL b hb with h1 | h1
     · exact(hcm b (.inr (.inl h1))).2
     · exact hP.new h1
   · have:=hcm b (.inr (.inr hb));exact⟨by omega,this.2⟩
theorem bY.add {pp h:Nat} {s:PSt} {w wr wa w2:World} {mb:Nat} {qv kv kv':Value} {q B line:List Nat} {i n:Nat} {ys:List Value} (m:bY pp h s w wr mb qv kv q B line) (hP:aQ wr pp h s) (hx:Ext wr wa) (hg:wa.grownBy w2 kv.ownBlock)
 (ho:w2.ownsRow w.heap.size 3 1 kv' n ys) (hn:n=(B++[i]).length) (hy:ys=(toZ (B++[i])).map (Value.int .i64)) (hl:eU wa kv kv'):bY pp h s w w2 mb qv kv' q (B++[i]) line:=by
 have hz:=hx.size
 have hz2:=hg.size
 have hL:∀ b,kv'.ownBlock=some b→kv.ownBlock=some b∨wr.heap.size≤b:=fun b hb=>by
  rcases hl with e | ⟨g,e,k⟩
  · exact .inl (e ▸ hb)
  · rw[e] at hb;injection hb with hb;exact .inr (by omega)
 have m1:=m.ext hx
 obtain⟨f,f1,f2⟩:=m1.seen
 have hkg:=fE hg
 have hcm:=m.clr
 refine⟨aI m1.q hkg (fun b hb hq=>m.a3 b hb hq),I8 ho hn hy,⟨f,f1.keep (hkg.block _ f1.lt (fun e=>m.a2 e)),f2⟩,m.mb0,m.a1,fun e=>?_,fun b hb hc=>?_,fun b hb=>?_⟩
 · rcases hL mb e with h1 | h1
   · exact m.a2 h1
   · have:=(hcm mb (.inl rfl)).1;omega
 · rcases hL b hc with h1 | h1
   · exact m.a3 b hb h1
   · have:=(hcm b (.inr (.inl hb))).1;omega
 · have hlt:=ho.lt
   rcases hb with rfl | hb | hb
   · have:=hcm _ (.inl rfl);exact⟨by omega,this.2⟩
   · have:=hcm b (.inr (.inl hb));exact⟨by omega,this.2⟩
   · refine⟨(hlt b hb).2,?_⟩
     rcases hL b hb with h1 | h1
     · exact(hcm b (.inr (.inr h1))).2
     · exact hP.new h1
theorem bY.mark {pp h:Nat} {s:PSt} {w wr w2:World} {mb:Nat} {qv kv:Value} {q B line:List Nat} {i:Nat} {f:Value→Option Value} (m:bY pp h s w wr mb qv kv q B line) (hf:∀ x:Nat,f (.int .i64 (x:Int))=if x∈line then some (.bool true) else none)
 (hM:bW prog 3 w2 mb (line.length+1) (upd (fun _ _=>Classical.propDecidable _) f (.int .i64 (i:Int)) (.bool true))) (hg:wr.grownBy w2 (some mb)):bY pp h s w w2 mb qv kv q B (line++[i]):=by
 have hk:=dM hg
 have hz:=hg.size
 refine⟨aI m.q hk (fun b hb e=>m.a1 (e ▸ hb)),aI m.k hk (fun b hb e=>m.a2 (e ▸ hb)),⟨_,by rw[List.length_append];exact hM,fun x=>?_⟩,m.mb0,m.a1,m.a2,m.a3,fun b hb=>⟨by have:=(m.clr b hb).1;omega,(m.clr b hb).2⟩⟩
 by_cases e:x=i
 · subst e;rw[upd_same];simp
 · rw[upd_ne (by simp;omega),hf x];simp[e]
theorem bY.pop {pp h:Nat} {s:PSt} {w wr:World} {mb g c:Nat} {kv:Value} {q B line:List Nat} {i:Nat} (m:bY pp h s w wr mb (.slice (some ⟨g,0,none⟩) (q++[i]).length c) kv (q++[i]) B line):bY pp h s w wr mb (.slice (some ⟨g,0,none⟩) q.length c) kv q B line:=by
 refine⟨?_,m.k,m.seen,m.mb0,m.a1,m.a2,m.a3,m.clr⟩
 have:=yn (k:=q.length) m.q (by simp)
 rw[jm,List.take_append_of_le_length (by rw[aj];omega),List.take_of_length_le (by rw[aj];omega)] at this
 exact this
theorem bY.look {pp h:Nat} {s:PSt} {w wr:World} {mb:Nat} {qv kv:Value} {q B line:List Nat} (m:bY pp h s w wr mb qv kv q B line) {x:Nat} (hx:x<1000000000) (W:World) (hW:W.heap[mb]?=wr.heap[mb]?) :
 (Instr.lookup 187 (.map (some mb)) (.int .i64 (x:Int)) false).run prog W=.ok (.bool (decide (x∈line))) W:=by
 obtain⟨f,f1,f2⟩:=m.seen
 obtain⟨kl,hkl⟩:=j5 x hx
 have:=(f1.keep hW).look jq underlying187 (Nn W) hkl false
 rw[this,f2]
 by_cases e:x∈line <;> simp[e]
def Grow (s:PSt) (f:Nat) (s':PSt):Prop:=(∀ N,f<N→N≤s.D.length→s'.D.length+miss N s'.cn≤s.D.length+miss N s.cn)∧(∀ x,x<s.D.length→s.cn x=none→(s'.cn x).isSome→Cgt.born (vl s.D x)≤Cgt.born (vl s.D f))∧∀ x,s.D.length≤x→x<s'.D.length→(s'.cn x).isSome
def jN (s:PSt) (f:Nat) (s':PSt):Prop:=(∀ N,f<N→N≤s.D.length→s'.D.length+miss N s'.cn≤s.D.length+miss N s.cn)∧(∀ x,x<s.D.length→s.cn x=none→(s'.cn x).isSome→Cgt.born (vl s.D x)<Cgt.born (vl s.D f))∧∀ x,s.D.length≤x→x<s'.D.length→(s'.cn x).isSome
theorem jN.refl (s:PSt) (f:Nat):jN s f s:=⟨fun _ _ _=>Nat.le_refl _,fun x _ h k=>(by rw[h] at k;cases k),fun x a b=>absurd b (by omega)⟩
theorem jN.same {s s1 s2:PSt} {f:Nat} (g:jN s f s1) (hD:s2.D=s1.D) (hc:s2.cn=s1.cn):jN s f s2:=⟨fun N a b=>by rw[hD,hc];exact g.1 N a b,fun x a b c=>g.2.1 x a b (by rw[← hc];exact c),fun x a b=>by rw[hc];exact g.2.2 x a (by rw[← hD];exact b)⟩
def jX (D:Dag) (cn:Nat→Option Nat) (left:Bool) (f:Nat):List Nat:=(opt D left f).map fun x=>(cn x).getD 0
def iH (D:Dag) (cn:Nat→Option Nat) (f:Nat) (left:Bool) (F:List Nat):Prop:=(∀ x,x∈opt D left f→(cn x).isSome)∧∃ line B,dA D f left (jX D cn left f) line B line.length∧ku D left B F
end
end Go.Proofs.YteknjeohbcgpdaaGreatDoor