/-
  Memory: the bytes of a string, laid anew, stored into and read back as a string. (4 texts.)
-/
import Derived.Test.YteknjeohbcgpdaaGreatDoorZ2
import Derived.Test.YteknjeohbcgpdaaGreatDoorZ5
import Derived.Test.YteknjeohbcgpdaaGreatDoorZ6
import Derived.Test.YteknjeohbcgpdaaGreatDoorZ13
import Derived.Test.YteknjeohbcgpdaaGreatDoorZ14
import Derived.Laws.Concat
import Derived.Laws.ResultCell
import Derived.Lib.ConvBytes
import Derived.Laws.IdiomStrings
set_option maxRecDepth 100000
namespace Go.Proofs.YteknjeohbcgpdaaGreatDoor
open Tryz
section
open Go.RowKit
open Cgt (Cs yN)
theorem KQ {w:World} {B e g n cap k:Nat} {xs:List Value} (h:w.ownsRow B e 1 (.slice (some ⟨g,0,none⟩) n cap) n xs) (_hk:k<n) (x:Value) :
 (w.setCell ⟨g,k,none⟩ x).ownsRow B e 1 (.slice (some ⟨g,0,none⟩) n cap) n (xs.set k x):=by
 obtain⟨hl,h2⟩:=h
 refine⟨by simpa using hl,?_⟩
 rcases h2 with ⟨e1,_⟩ | ⟨g',cap',cur,e1,hb,hg,hnc,hcm,hcs,ht⟩
 · simp at e1
 · simp only[Value.slice.injEq,Option.some.injEq,Addr.mk.injEq,and_true,true_and] at e1
   obtain⟨rfl,rfl⟩:=e1
   refine .inr ⟨g,cap,cur.setIfInBounds k x,rfl,hb,heap_setCell_same _ _ _ _ _ _ hg,hnc,hcm,by simp[hcs],?_⟩
   rw[Array.toList_setIfInBounds,← ht,List.take_set]
theorem ic {w:World} {B C e size n:Nat} {v:Value} {xs:List Value} (h:w.ownsRow B e size v n xs) (hC:C≤B):w.ownsRow C e size v n xs:=by
 obtain⟨hl,h2⟩:=h
 refine⟨hl,?_⟩
 rcases h2 with h2 | ⟨g,cap,cur,e1,hb,rest⟩
 · exact .inl h2
 · exact .inr ⟨g,cap,cur,e1,Nat.le_trans hC hb,rest⟩
theorem RP {w w':World} {B e sz n:Nat} {v:Value} {xs:List Value} (h:w.ownsRow B e sz v n xs) (hb:∀ b,v.ownBlock=some b→w'.heap[b]?=w.heap[b]?):w'.ownsRow B e sz v n xs:=by
 obtain⟨hl,h2⟩:=h
 refine⟨hl,?_⟩
 rcases h2 with h2 | ⟨g,cap,cur,e1,hB,hg,rest⟩
 · exact .inl h2
 · exact .inr ⟨g,cap,cur,e1,hB,(hb g (by rw[e1];rfl)).trans hg,rest⟩
abbrev Cl:=List (List Bool)
def gat (cl:Cl) (r c:Nat):Bool:=(cl.getD r []).getD c false
def iM (cl:Cl) (r c:Nat) (x:Bool):Cl:=cl.set r ((cl.getD r []).set c x)
structure Sz (cl:Cl) (h w:Nat):Prop where
 hgt:cl.length=h
 row:∀ r,r∈cl→r.length=w
theorem Sz.at {cl:Cl} {h w:Nat} (s:Sz cl h w) {i:Nat} (hi:i<cl.length):cl[i].length=w:=s.row _ (List.getElem_mem hi)
theorem Da {cl:Cl} {r c:Nat} (hr:r<cl.length) (hc:c<cl[r].length):gat cl r c=cl[r][c]:=by
 unfold gat
 rw[List.getD_eq_getElem?_getD (l:=cl),List.getElem?_eq_getElem hr,Option.getD_some,List.getD_eq_getElem?_getD,List.getElem?_eq_getElem hc,Option.getD_some]
theorem mE {cl:Cl} {h w r c:Nat} (s:Sz cl h w) (k:gat cl r c=true):r<h∧c<w:=by
 unfold gat at k
 by_cases hr:r<cl.length
 · rw[List.getD_eq_getElem?_getD (l:=cl),List.getElem?_eq_getElem hr,Option.getD_some] at k
   have:=s.at hr
   by_cases hc:c<cl[r].length
   · exact⟨by have:=s.hgt;omega,by omega⟩
   · rw[List.getD_eq_getElem?_getD,List.getElem?_eq_none (by omega)] at k;cases k
 · rw[List.getD_eq_getElem?_getD (l:=cl),List.getElem?_eq_none (Nat.le_of_not_lt hr)] at k
   simp at k
theorem Sz.set {cl:Cl} {h w:Nat} (s:Sz cl h w) (r c:Nat) (x:Bool):Sz (iM cl r c x) h w:=by
 refine⟨by simp[iM,s.hgt],fun q hq=>?_⟩
 unfold iM at hq
 rcases List.mem_or_eq_of_mem_set hq with e | e
 · exact s.row q e
 · by_cases hr:r<cl.length
   · subst e
     rw[List.length_set,List.getD_eq_getElem?_getD,List.getElem?_eq_getElem hr,Option.getD_some]
     exact s.at hr
   · rw[List.set_eq_of_length_le (by omega)] at hq;exact s.row q hq
theorem EU {cl:Cl} {h w r c:Nat} (s:Sz cl h w) (hr:r<h) (hc:c<w) (x:Bool) (i k:Nat):gat (iM cl r c x) i k=if i=r∧k=c then x else gat cl i k:=by
 have hr':r<cl.length:=by have:=s.hgt;omega
 have hw:=s.at hr'
 unfold gat iM
 rw[List.getD_eq_getElem?_getD (l:=cl.set _ _),List.getElem?_set]
 by_cases e:r=i
 · subst e
   rw[if_pos rfl,if_pos hr',Option.getD_some,List.getD_eq_getElem?_getD,List.getD_eq_getElem?_getD (l:=cl),List.getElem?_eq_getElem hr',Option.getD_some,List.getElem?_set]
   by_cases e2:c=k
   · subst e2;simp[hw,hc]
   · have:¬ k=c:=fun q=>e2 q.symm
     simp[e2,this]
 · rw[if_neg e]
   have:¬ (i=r∧k=c):=fun q=>e q.1.symm
   rw[if_neg this,List.getD_eq_getElem?_getD (l:=cl)]
structure Gr (w:World) (B:Nat) (v:Value) (sl:Nat→Value) (cl:Cl):Prop where
 row:w.ownsRow B 106 1 v cl.length ((List.range cl.length).map sl)
 own:∀ j (h:j<cl.length),w.ownsRow B 4 1 (sl j) cl[j].length (cl[j].map Value.bool)
 ap:∀ i j,i<cl.length→j<cl.length→i≠j→∀ b,(sl i).ownBlock=some b→(sl j).ownBlock≠some b
 ap0:∀ j,j<cl.length→∀ b,(sl j).ownBlock=some b→v.ownBlock≠some b
def GrB (sl:Nat→Value) (n:Nat) (b:Nat):Prop:=∃ j,j<n∧(sl j).ownBlock=some b
def GrA (v:Value) (sl:Nat→Value) (n:Nat) (b:Nat):Prop:=v.ownBlock=some b∨GrB sl n b
theorem Gr.keep {w w':World} {B:Nat} {v:Value} {sl:Nat→Value} {cl:Cl} {G:Nat→Prop} (h:Gr w B v sl cl) (hk:bg G w w') (hG:∀ b,GrA v sl cl.length b→¬ G b):Gr w' B v sl cl :=
 ⟨aI h.row hk fun b hb=>hG b (.inl hb),fun j hj=>aI (h.own j hj) hk fun b hb=>hG b (.inr ⟨j,hj,hb⟩),h.ap,h.ap0⟩
theorem Gr.ext {w w':World} {B:Nat} {v:Value} {sl:Nat→Value} {cl:Cl} (h:Gr w B v sl cl) (hx:Ext w w'):Gr w' B v sl cl:=h.keep (bZ (F:=fun _=>False) hx) fun _ _=>id
theorem Gr.lower {w:World} {B C:Nat} {v:Value} {sl:Nat→Value} {cl:Cl} (h:Gr w B v sl cl) (hC:C≤B):Gr w C v sl cl:=⟨ic h.row hC,fun j hj=>ic (h.own j hj) hC,h.ap,h.ap0⟩
theorem Gr.lt {w:World} {B:Nat} {v:Value} {sl:Nat→Value} {cl:Cl} (h:Gr w B v sl cl) {b:Nat} (hb:GrA v sl cl.length b):B≤b∧b<w.heap.size:=by
 rcases hb with hb | ⟨j,hj,hb⟩
 · exact h.row.lt b hb
 · exact(h.own j hj).lt b hb
theorem Gr.nil {w:World} {B:Nat} {v:Value} (h:w.ownsRow B 106 1 v 0 []):Gr w B v (fun _=>.slice none 0 0) [] :=
 ⟨h,fun j hj=>absurd hj (by simp),fun i j hi=>absurd hi (by simp),fun j hj=>absurd hj (by simp)⟩
theorem Gr.top {w:World} {B:Nat} {v:Value} {sl:Nat→Value} {cl:Cl} (h:Gr w B v sl cl) {i:Nat} (hi:i<cl.length):∃ g cap,v=.slice (some ⟨g,0,none⟩) cl.length cap∧w.cell? ⟨g,i,none⟩=some (sl i):=by
 obtain⟨g,cap,e,_,_,hc⟩:=dC h.row (by omega)
 exact⟨g,cap,e,by rw[hc i (by omega)];simp[hi]⟩
theorem Gr.len {w:World} {B:Nat} {v:Value} {sl:Nat→Value} {cl:Cl} (h:Gr w B v sl cl):∃ a cap,v=.slice a cl.length cap∧cl.length≤cap∧cap≤maxLen:=az h.row
theorem Gr.FJ {w:World} {B:Nat} {v:Value} {sl:Nat→Value} {cl:Cl} (h:Gr w B v sl cl) {i:Nat} (hi:i<cl.length):∃ a cap,sl i=.slice a cl[i].length cap∧cl[i].length≤cap:=by
 obtain⟨a,cap,e,h1,_⟩:=az (h.own i hi);exact⟨a,cap,e,h1⟩
theorem Gr.cell {w:World} {B:Nat} {v:Value} {sl:Nat→Value} {cl:Cl} (h:Gr w B v sl cl) {i k:Nat} (hi:i<cl.length) (hk:k<cl[i].length) :
 ∃ g cap,sl i=.slice (some ⟨g,0,none⟩) cl[i].length cap∧w.cell? ⟨g,k,none⟩=some (.bool cl[i][k])∧w.frozen? ⟨g,k,none⟩=false:=by
 obtain⟨g,cap,e,_,_,hc⟩:=dC (h.own i hi) (by omega)
 have ho:=h.own i hi
 rw[e] at ho
 exact⟨g,cap,e,by rw[hc k (by omega)];simp[hk],ho.frozenAt k⟩
theorem Gr.set {w:World} {B:Nat} {v:Value} {sl:Nat→Value} {cl:Cl} (h:Gr w B v sl cl) {i k g cap:Nat} (hi:i<cl.length) (hk:k<cl[i].length) (e:sl i=.slice (some ⟨g,0,none⟩) cl[i].length cap) (x:Bool) :
 Gr (w.setCell ⟨g,k,none⟩ (.bool x)) B v sl (iM cl i k x):=by
 have hg:(sl i).ownBlock=some g:=by rw[e];rfl
 have hlen:(iM cl i k x).length=cl.length:=by simp[iM]
 have hks:=bJ (w:=w) (p:=⟨g,k,none⟩) (v:=.bool x)
 refine⟨?_,fun j hj=>?_,?_,?_⟩
 · rw[hlen];exact aI h.row hks fun b hb q=>h.ap0 i hi g hg (by rw[hb];exact congrArg some q)
 · have hj':j<cl.length:=by omega
   by_cases c:i=j
   · subst c
     have ho:=h.own i hi
     rw[e] at ho
     have:=KQ ho hk (.bool x)
     have e1:(iM cl i k x)[i]=cl[i].set k x:=by
      simp only[iM,List.getElem_set_self,List.getD_eq_getElem?_getD,List.getElem?_eq_getElem hi,Option.getD_some]
     rw[e1,List.length_set,List.map_set,e];exact this
   · have e1:(iM cl i k x)[j]=cl[j]:=by simp only[iM];rw[List.getElem_set_ne c]
     rw[e1]
     exact aI (h.own j hj') hks fun b hb q=>h.ap i j hi hj' c g hg (by rw[hb];exact congrArg some q)
 · rw[hlen];exact h.ap
 · rw[hlen];exact h.ap0
theorem Gr.snoc {w:World} {B:Nat} {v' x:Value} {sl:Nat→Value} {cl:Cl} {r:List Bool} (h:∀ j (hj:j<cl.length),w.ownsRow B 4 1 (sl j) cl[j].length (cl[j].map Value.bool))
 (ho:w.ownsRow B 106 1 v' (cl.length+1) ((List.range cl.length).map sl++[x])) (hx:w.ownsRow B 4 1 x r.length (r.map Value.bool))
 (ha:∀ i j,i<cl.length→j<cl.length→i≠j→∀ b,(sl i).ownBlock=some b→(sl j).ownBlock≠some b) (hax:∀ j,j<cl.length→∀ b,(sl j).ownBlock=some b→x.ownBlock≠some b)
 (h0:∀ j,j<cl.length→∀ b,(sl j).ownBlock=some b→v'.ownBlock≠some b) (h0x:∀ b,x.ownBlock=some b→v'.ownBlock≠some b) :
 Gr w B v' (fun j=>if j=cl.length then x else sl j) (cl++[r]):=by
 have hlen:(cl++[r]).length=cl.length+1:=by simp
 refine⟨?_,fun j hj=>?_,fun i j hi hj hij b hb=>?_,fun j hj b hb=>?_⟩
 · rw[hlen,List.range_succ,List.map_append]
   have e1:(List.range cl.length).map (fun j=>if j=cl.length then x else sl j)=(List.range cl.length).map sl:=List.map_congr_left fun j hj=>if_neg (by have:=List.mem_range.1 hj;omega)
   rw[e1];simpa using ho
 · by_cases c:j=cl.length
   · subst c;simpa using hx
   · have hj':j<cl.length:=by omega
     simp only[if_neg c,List.getElem_append_left hj']
     exact h j hj'
 · rw[hlen] at hi hj
   by_cases c:i=cl.length
   · simp only[if_pos c] at hb
     have:¬ j=cl.length:=by omega
     simp only[if_neg this]
     exact fun e=>hax j (by omega) b e hb
   · simp only[if_neg c] at hb
     by_cases d:j=cl.length
     · simp only[if_pos d];exact hax i (by omega) b hb
     · simp only[if_neg d];exact ha i j (by omega) (by omega) hij b hb
 · rw[hlen] at hj
   by_cases c:j=cl.length
   · simp only[if_pos c] at hb;exact h0x b hb
   · simp only[if_neg c] at hb;exact h0 j (by omega) b hb
def gcs (cl:Cl):Cs:=fun r c=>gat cl r c
end
section
open Go.RowKit
open Cgt (Brd GB bD Cs)
theorem pg:∀ {b:Brd},(∀ r,r∈b→r.length≤8)→(bD b).length≤9*b.length
 | [],_=>by simp[bD]
 | [r],h=>by have:=h r (by simp);simp[bD];omega
 | r :: s :: t,h=>by
   rw[Cgt.gM,List.length_append,List.length_cons]
   have h1:=h r (by simp)
   have h2:=pg (b:=s :: t) fun x hx=>h x (List.mem_cons_of_mem _ hx)
   simp only[List.length_cons] at h2 ⊢
   omega
theorem og {ss:List ByteArray} {hh ww:Nat} (g:GB (bd ss) hh ww) {i:Nat} (hi:i<ss.length):ss[i].size=ww:=by
 have:=(g.row (bdr ss[i]) (by rw[← kZ hi];exact List.getElem_mem _)).1
 rw[gJ] at this;exact this
theorem mD {ss:List ByteArray} {hh ww:Nat} (g:GB (bd ss) hh ww):ss.length=hh:=by rw[← dS];exact g.hgt
theorem Uo (ss:List ByteArray) (k:Nat):bd (ss.take k)=(bd ss).take k:=by unfold bd;rw[List.map_take]
theorem Iu {ss:List ByteArray} {k:Nat} (hk:k<ss.length):bD ((bd ss).take (k+1))=if k=0 then bdr ss[k] else bD ((bd ss).take k)++47 :: bdr ss[k]:=by
 rw[List.take_succ_eq_append_getElem (by rw[dS];exact hk),kZ hk]
 by_cases h:k=0
 · subst h;simp[bD]
 · rw[if_neg h,Cgt.Iw]
   intro e
   have:=congrArg List.length e
   rw[List.length_take,dS,List.length_nil] at this
   omega
set_option maxHeartbeats 2000000 in
theorem D8 (v:Value) (ss:List ByteArray) (hh ww:Nat) (w:World) (h:Strs w v ss) (g:GB (bd ss) hh ww) :
 Calls prog 128 #[.agg #[v]] w fun e w'=>∃ so,e=.returned (.string so)∧bdr so=bD (bd ss)∧Ext w w':=by
 obtain⟨a,cap,rfl,hcap,hml⟩:=h.open
 have hxb:Ext w (w.alloc (.cells #[.slice a ss.length cap] 31)):=by go_grown
 have hbb:=heap_alloc_new w (.cells #[.slice a ss.length cap] 31)
 have hn:=mD g
 have h8:=g.h1
 have w8:=g.w1
 have hss:ss.length≤8:=by omega
 have GG:=Hd_ g
 clear g h8 hn
 go_enter Tryz.func128,Tryz.ntmps128
 go_wp2
 generalize w.alloc (.cells #[.slice a ss.length cap] 31)=W at *
 generalize w.heap.size=p at *
 go_loopw [3,4] (fun sv ii wr=>∃ (i:Nat) (so:ByteArray),ii=.int .i64 ((i:Nat):Int)∧i≤ss.length∧sv=.string so∧Ext W wr∧Hid (bdr so=bD ((bd ss).take i))) (fun _ ii _=>ss.length-(intOf ii).toNat)
 case atStart=>exact⟨0,⟨#[]⟩,rfl,Nat.zero_le _,rfl,Below.refl _ _,Hd_ (by simp[bdr,bD])⟩
 case round =>
  obtain⟨i,so,rfl,hi,rfl,hx,HS⟩:=hrel
  have hE:=aa hxb hx
  have hbr:wr.heap[p]?=some (.cells #[.slice a ss.length cap] 31 (0,0)):=(hx.block _ (ah hbb)).trans hbb
  have c0:=cell_of_row wr p 0 _ _ _ hbr
  simp only[gE] at c0
  by_cases hlt:i<ss.length
  · have h1:((i:Nat):Int)<((ss.length:Nat):Int):=by omega
    obtain⟨b,off,rfl,hc⟩:=(h.ext hE).at hlt
    have ci:=hc i hlt
    have hsz:ss[i].size≤8:=by rw[og GG.out hlt];exact w8.2
    have HTK:=Hd_ (Iu hlt)
    generalize ss[i]=si at *
    have hso:so.size≤72:=by
     have h2:=pg (b:=(bd ss).take i) fun r hr=>by rw[(GG.out.row r (List.mem_of_mem_take hr)).1];exact w8.2
     rw[← HS.out,gJ,List.length_take,dS] at h2
     omega
    have hs1:(⟨#[47]⟩:ByteArray).size=1:=rfl
    have HC1:=fun W:World=>run_string_add_sum (P:=prog) (w:=W) so ⟨#[47]⟩ (by omega)
    have HC2:=fun W:World=>run_string_add_sum (P:=prog) (w:=W) so si (by omega)
    have HC3:=fun W:World=>run_string_add_sum (P:=prog) (w:=W) (so++⟨#[47]⟩) si (by rw[ByteArray.size_append];omega)
    have HE:=Hd_ hx
    clear hc hx hE hbr hsz hso hs1
    by_cases h0:i=0
    · have h2:¬ ((0:Int)<((i:Nat):Int)):=by omega
      have HN:Hid (bdr (so++si)=bD ((bd ss).take (i+1))):=by
       show _=_
       rw[HTK.out,if_pos h0]
       have:=HS.out
       rw[h0] at this
       simp only[List.take_zero,bD] at this
       unfold bdr at *
       rw[ByteArray.data_append,Array.toList_append,this];rfl
      clear h0
      go_wp2
      go_roundw
      case rel=>exact⟨i+1,_,by go_num,by omega,rfl,HE.out,HN⟩
      case measure=>simp[intOf];omega
    · have h2:(0:Int)<((i:Nat):Int):=by omega
      have HN:Hid (bdr (so++⟨#[47]⟩++si)=bD ((bd ss).take (i+1))):=by
       show _=_
       rw[HTK.out,if_neg h0]
       have:=HS.out
       unfold bdr at *
       rw[ByteArray.data_append,Array.toList_append,ByteArray.data_append,Array.toList_append,this];simp
      go_wp2
      go_roundw
      case rel=>exact⟨i+1,_,by go_num,by omega,rfl,HE.out,HN⟩
      case measure=>simp[intOf];omega
  · have h1:¬ (((i:Nat):Int)<((ss.length:Nat):Int)):=by omega
    have hie:i=ss.length:=by omega
    have HIE:=Hd_ hie
    clear hie
    go_wp2
    go_ret
    exact⟨so,rfl,by rw[HS.out,HIE.out,← dS,List.take_length],hE⟩
end
section
open Go.RowKit
open Cgt (Brd GB bD Cs)
theorem yG:(prog.info? 4).map (fun i=>(i.zero,i.size,i.bytes))=some (some (.bool false),1,1):=by kernel_rfl
theorem yF:(prog.info? 106).map (fun i=>(i.zero,i.size,i.bytes))=some (some (.slice none 0 0),1,24):=by kernel_rfl
theorem KT {x:Bool}:∀ u∈([Value.bool x]:List Value),u.oneCell'=true:=by
 intro u hu;simp at hu;subst hu;rfl
theorem lT {a:Option Addr} {n c:Nat}:∀ u∈([Value.slice a n c]:List Value),u.oneCell'=true:=by
 intro u hu;simp at hu;subst hu;rfl
def kM (s:ByteArray):List Bool:=(bdr s).map (· == 46)
def cK (ss:List ByteArray):Cl:=ss.map kM
theorem rY (s:ByteArray):(kM s).length=s.size:=by simp[kM,gJ]
theorem IP {s:ByteArray} {k:Nat} (h:k<s.size):(kM s).take (k+1)=(kM s).take k++[(s[k]).toNat == 46]:=by
 rw[List.take_succ_eq_append_getElem (by rw[rY];exact h)]
 congr 2
 simp only[kM,List.getElem_map,J2 h]
 rw[Bool.eq_iff_iff,beq_iff_eq,beq_iff_eq,← UInt8.toNat_inj];rfl
theorem yQ (ss:List ByteArray):(cK ss).length=ss.length:=by simp[cK]
theorem El {ss:List ByteArray} {k:Nat} (h:k<ss.length):cK (ss.take (k+1))=cK (ss.take k)++[kM ss[k]]:=by
 unfold cK;rw[List.take_succ_eq_append_getElem h,List.map_append];rfl
theorem jA {ss:List ByteArray} {hh ww:Nat} (g:GB (bd ss) hh ww):Sz (cK ss) hh ww:=by
 refine⟨by rw[yQ];exact mD g,fun r hr=>?_⟩
 obtain⟨s,hs,rfl⟩:=List.mem_map.1 hr
 obtain⟨i,hi,rfl⟩:=List.mem_iff_getElem.1 hs
 rw[rY];exact og g hi
theorem yL (ss:List ByteArray):gcs (cK ss)=Cgt.fr (bd ss):=by
 funext r c
 unfold gcs gat Cgt.fr Cgt.at_ cK bd
 rw[List.getD_eq_getElem?_getD (l:=ss.map kM),List.getD_eq_getElem?_getD (l:=ss.map bdr),List.getElem?_map,List.getElem?_map]
 cases ss[r]? with
 | none=>simp
 | some s =>
   simp only[Option.map_some,Option.getD_some,kM]
   rw[List.getD_eq_getElem?_getD,List.getD_eq_getElem?_getD,List.getElem?_map]
   cases (bdr s)[c]? with
   | none=>rfl
   | some x=>rfl
theorem Gr.push {wo wr w5:World} {B:Nat} {ov rv v5:Value} {X:Obj} {sl:Nat→Value} {cl:Cl} {r:List Bool} (hG:Gr wo B ov sl cl) (hE:Ext wo wr) (hB:B≤wo.heap.size)
 (hrow:wr.ownsRow wo.heap.size 4 1 rv r.length (r.map Value.bool)) (ho:w5.ownsRow B 106 1 v5 (cl.length+1) ((List.range cl.length).map sl++[rv]))
 (hg:(wr.alloc X).grownBy w5 ov.ownBlock) (hl:eU (wr.alloc X) ov v5):∃ sl',Gr w5 B v5 sl' (cl++[r]):=by
 have hk:bg (fun b=>ov.ownBlock=some b) (wr.alloc X) w5:=⟨hg.os,hg.tape,hg.output,hg.size,fun k hk hn=>hg.block k hk (fun e=>hn e.symm)⟩
 have hx:=aM (Below.refl wr.heap.size wr) X
 have hz:(wr.alloc X).heap.size=wr.heap.size+1:=sA_ _ _
 have hzo:=hE.size
 have hov:∀ b,ov.ownBlock=some b→b<wo.heap.size:=fun b hb=>(hG.lt (.inl hb)).2
 have hsl:∀ j,j<cl.length→∀ b,(sl j).ownBlock=some b→b<wo.heap.size:=fun j hj b hb=>(hG.lt (.inr ⟨j,hj,hb⟩)).2
 have hrv:∀ b,rv.ownBlock=some b→wo.heap.size≤b∧b<wr.heap.size:=fun b hb=>hrow.lt b hb
 have hv5:∀ b,v5.ownBlock=some b→ov.ownBlock=some b∨wr.heap.size+1≤b:=fun b hb=>by
  rcases hl with e | ⟨q,e,k⟩
  · exact .inl (by rw[← e];exact hb)
  · rw[e] at hb;injection hb with hb;exact .inr (by omega)
 refine⟨_,Gr.snoc (x:=rv) (sl:=sl) (fun j hj=>aI (aJ (aJ (hG.own j hj) hE) hx) hk fun b hb e=>hG.ap0 j hj b hb e) ho
  (ic (aI (aJ hrow hx) hk fun b hb e=>by have:=(hrv b hb).1;have:=hov b e;omega) hB) hG.ap (fun j hj b hb e=>?_) (fun j hj b hb e=>?_) (fun b hb e=>?_)⟩
 · have:=hsl j hj b hb;have:=(hrv b e).1;omega
 · rcases hv5 b e with k | k
   · exact hG.ap0 j hj b hb k
   · have:=hsl j hj b hb;omega
 · rcases hv5 b e with k | k
   · have:=hov b k;have:=(hrv b hb).1;omega
   · have:=(hrv b hb).2;omega
theorem beq46 (n:Nat):(((n:Nat):Int) == 46)=(n == 46):=by rw[Bool.eq_iff_iff];simp;omega
set_option maxHeartbeats 4000000 in
theorem l7 (v:Value) (ss:List ByteArray) (hh ww:Nat) (w:World) (h:Strs w v ss) (g:GB (bd ss) hh ww) :
 Calls prog 75 #[.agg #[v]] w fun e w'=>∃ v' sl,e=.returned v'∧Gr w' w.heap.size v' sl (cK ss)∧Ext w w':=by
 obtain⟨a,cap,rfl,hcap,hml⟩:=h.open
 obtain⟨i0,hi0,hz0,hz1,hz2⟩:=info_parts yF
 obtain⟨i1,hi1,hy0,hy1,hy2⟩:=info_parts yG
 have hn:=mD g
 have h8:=g.h1
 have w8:=g.w1
 have hss:ss.length≤8:=by omega
 have GG:=Hd_ g
 clear g h8 hn
 have hxb:Ext w (w.alloc (.cells #[.slice a ss.length cap] 31)):=by go_grown
 have hbb:=heap_alloc_new w (.cells #[.slice a ss.length cap] 31)
 have hr0:=World.ownsRow_made (w.alloc (.cells #[.slice a ss.length cap] 31)) (base:=(w.alloc (.cells #[.slice a ss.length cap] 31)).heap.size) (e:=106) (size:=1) #[] 0 (Nat.le_refl _) (by decide) (by simp)
 have hx0:=aM (Below.refl (w.alloc (.cells #[.slice a ss.length cap] 31)).heap.size (w.alloc (.cells #[.slice a ss.length cap] 31))) (.cells #[] 106)
 have hzb:(w.alloc (.cells #[.slice a ss.length cap] 31)).heap.size=w.heap.size+1:=sA_ _ _
 rw[hzb] at hr0
 go_enter Tryz.func75,Tryz.ntmps75
 go_wp2
 generalize w.alloc (.cells #[.slice a ss.length cap] 31)=W at *
 have hpz:=ah hbb
 go_loopw [3,4,5,6] (fun ov ii _ _ wr=>∃ (i:Nat) (sl:Nat→Value),ii=.int .i64 ((i:Nat):Int)∧i≤ss.length∧Ext W wr∧Hid (Gr wr W.heap.size ov sl (cK (ss.take i)))) (fun _ ii _ _ _=>ss.length-(intOf ii).toNat)
 case atStart=>exact⟨0,_,rfl,Nat.zero_le _,hx0,Hd_ (Gr.nil (by rw[hzb];exact hr0))⟩
 case round =>
  obtain⟨i,sl,rfl,hi,hx,HG⟩:=hrel
  clear hr0 hx0
  have hE:=aa hxb hx
  have hbr:wr.heap[w.heap.size]?=some (.cells #[.slice a ss.length cap] 31 (0,0)):=(hx.block _ hpz).trans hbb
  have c0:=cell_of_row wr w.heap.size 0 _ _ _ hbr
  simp only[gE] at c0
  by_cases hlt:i<ss.length
  · have h1:((i:Nat):Int)<((ss.length:Nat):Int):=by omega
    obtain⟨b,off,rfl,hc⟩:=(h.ext hE).at hlt
    have HC:=Hd_ (hc i hlt)
    have hsz:ss[i].size≤8:=by rw[og GG.out hlt];exact w8.2
    have HTK:=Hd_ (El hlt)
    obtain⟨si,esi⟩:∃ si:ByteArray,ss[i]=si:=⟨_,rfl⟩
    rw[esi] at HC hsz HTK
    have HLT:=Hd_ hlt
    have hr1:=World.ownsRow_made wr (base:=wr.heap.size) (e:=4) (size:=1) #[] 0 (Nat.le_refl _) (by decide) (by simp)
    have hx1:=aM (Below.refl wr.heap.size wr) (.cells #[] 4)
    have HX:=Hd_ hx
    have HB:=Hd_ hbr
    clear hc hx hE hbr esi hlt
    go_wp2
    obtain⟨wo,hwo⟩:∃ wo,wo=wr:=⟨_,rfl⟩
    rw[← hwo] at HG HX HB HC hr1 hx1 ⊢
    clear c0
    go_loopw [5,6] (fun rv kk wr=>∃ k:Nat,kk=.int .i64 ((k:Nat):Int)∧k≤si.size∧Ext wo wr∧wr.ownsRow wo.heap.size 4 1 rv k (((kM si).take k).map Value.bool)) (fun _ kk _=>si.size-(intOf kk).toNat)
    case atStart=>exact⟨0,rfl,Nat.zero_le _,hx1,by simpa using hr1⟩
    case round =>
     clear hr1 hx1 hwo
     obtain⟨k,rfl,hk,hx2,hro⟩:=hrel
     have hbr:wr.heap[w.heap.size]?=some (.cells #[.slice (some ⟨b,off,none⟩) ss.length cap] 31 (0,0)):=(hx2.block _ (ah HB.out)).trans HB.out
     have c0:=cell_of_row wr w.heap.size 0 _ _ _ hbr
     simp only[gE] at c0
     have ci:=(hx2.cell (lt_of_cell HC.out)).trans HC.out
     have h1:((i:Nat):Int)<((ss.length:Nat):Int):=by have:=HLT.out;omega
     by_cases hkl:k<si.size
     · have h4:((k:Nat):Int)<((si.size:Nat):Int):=by omega
       obtain⟨ar,cr,rfl,hcr,_⟩:=az hro
       have HK:=Hd_ (IP hkl)
       have HX2:=Hd_ hx2
       clear hx2 hbr
       go_wp2_with (at_builtin;refine aW rfl (.tmp 26) (.tmp 35) 106 rfl wo.heap.size 4 i1 (.bool false) 1 1 underlying106 hi1 hy0 hy1 hy2 rfl (by decide) (.slice ar k cr) k _ rfl (hro.alloc _) _ 1 _ [.bool ((((si[k]'hkl).toNat:Nat):Int) == 46)] rfl rfl (.inr ⟨_,rfl,bq (aO _ _ _)⟩) KT (by unfold maxLen;omega) (by omega) (by rw[sA_];have:=HX2.out.size;omega) ?_;intro v5 w5 ho5 hg5 hl5)
       go_roundw
       case rel=>exact⟨k+1,by go_num,by omega,rF HX2.out hro hg5,by rw[HK.out,List.map_append,← beq46];exact ho5⟩
       case measure=>simp[intOf];omega
     · have h4:¬ (((k:Nat):Int)<((si.size:Nat):Int)):=by omega
       have hke:k=si.size:=by omega
       have HKE:=Hd_ hke
       have hGr:=HG.out.ext hx2
       obtain⟨ao,co,rfl,hco,_⟩:=hGr.len
       have hcl:(cK (ss.take i)).length≤8:=by rw[yQ,List.length_take];omega
       obtain⟨ar,cr,rfl,hcr,_⟩:=az hro
       have HX2:=Hd_ hx2
       have HG2:=Hd_ hGr
       have Rn:=hGr.row
       generalize hcn:(cK (ss.take i)).length=cn at *
       clear hx2 hbr hke hkl hGr
       go_wp2_with (at_builtin;refine aW rfl (.tmp 37) (.tmp 39) 104 rfl W.heap.size 106 i0 (.slice none 0 0) 1 24 underlying104 hi0 hz0 hz1 hz2 rfl (by decide) (.slice ao cn co) cn _ rfl (Rn.alloc _) _ 1 _ [.slice ar k cr] rfl rfl (.inr ⟨_,rfl,bq (aO _ _ _)⟩) lT (by unfold maxLen;omega) (by omega) (by rw[sA_];have:=HX2.out.size;have:=HX.out.size;omega) ?_;intro v5 w5 ho5 hg5 hl5)
       go_roundw
       case rel =>
        subst hcn
        have Sn:wr.ownsRow wo.heap.size 4 1 (.slice ar k cr) (kM si).length ((kM si).map Value.bool):=by
         rw[rY,← HKE.out]
         have e:(kM si).take k=kM si:=List.take_of_length_le (by rw[rY];have:=HKE.out;omega)
         rw[e] at hro;exact hro
        obtain⟨sl',hS⟩:=Gr.push HG.out HX2.out HX.out.size Sn ho5 hg5 hl5
        exact⟨i+1,sl',by go_num,HLT.out,aV (aM (aa HX.out HX2.out) _) hg5 (fun q hq=>(HG.out.lt (.inl hq)).1),Hd_ (by rw[HTK.out];exact hS)⟩
       case measure=>have:=HLT.out;simp[intOf];omega
  · have h1:¬ (((i:Nat):Int)<((ss.length:Nat):Int)):=by omega
    have hie:i=ss.length:=by omega
    have HIE:=Hd_ hie
    clear hie hlt
    go_wp2
    go_ret
    refine⟨_,rfl,⟨sl,?_⟩,hE⟩
    have:=HG.out
    rw[HIE.out,List.take_length] at this
    exact this.lower (by omega)
end
section
open Go.RowKit
open Cgt (Brd GB bD fr plc nxr nxc can)
def ByR (W:World) (g:Nat) (l:List UInt8):Prop:=∃ cs:Array Value,W.heap[g]?=some (.cells cs 5 (cs.size,cs.size+1))∧l.length≤cs.size∧∀ j (h:j<l.length),cs[j]?=some (.int .u8 ((l[j]).toNat:Int))
theorem ByR.new (W:World) (s:ByteArray):ByR (Lib.bytesWorld W 5 s) W.heap.size s.data.toList:=by
 refine⟨_,Lib.bytesWorld_at_new W _ s,?_,fun j hj=>?_⟩
 · unfold Lib.bytesCells;simp
 · unfold Lib.bytesCells
   have hj':j<s.data.size:=by simpa using hj
   rw[Array.getElem?_append,if_pos (by simpa using hj'),Array.getElem?_map]
   simp only[Array.getElem_toList]
   rw[Array.getElem?_eq_getElem hj'];rfl
theorem JL {w W:World} (h:Ext w W) (s:ByteArray):Ext w (Lib.bytesWorld W 5 s):=by
 have hz:=Lib.bytesWorld_size W 5 s
 have hz':=h.size
 have e:(Lib.bytesWorld W 5 s).os=W.os∧(Lib.bytesWorld W 5 s).tape=W.tape∧(Lib.bytesWorld W 5 s).output=W.output:=by
  unfold Lib.bytesWorld World.freeze
  split <;> exact⟨rfl,rfl,rfl⟩
 exact aa h ⟨e.1,e.2.1,e.2.2,by omega,fun k hk=>Lib.bytesWorld_at_old W _ s k hk⟩
theorem ByR.cell {W:World} {g:Nat} {l:List UInt8} (h:ByR W g l) {k:Nat} (hk:k<l.length):W.cell? ⟨g,k,none⟩=some (.int .u8 ((l[k]).toNat:Int)):=by
 obtain⟨cs,h1,h2,h3⟩:=h
 simp[World.cell?,h1,h3 k hk]
theorem ByR.frozen {W:World} {g:Nat} {l:List UInt8} (h:ByR W g l) {k:Nat} (hk:k<l.length):W.frozen? ⟨g,k,none⟩=false:=by
 obtain⟨cs,h1,h2,h3⟩:=h
 simp[World.frozen?,h1];omega
theorem ByR.keep {W W':World} {g:Nat} {l:List UInt8} (h:ByR W g l) (hk:W'.heap[g]?=W.heap[g]?):ByR W' g l:=by
 obtain⟨cs,h1,h2,h3⟩:=h
 exact⟨cs,hk.trans h1,h2,h3⟩
theorem ByR.lt {W:World} {g:Nat} {l:List UInt8} (h:ByR W g l):g<W.heap.size:=by
 obtain⟨cs,h1,h2,h3⟩:=h
 exact(Array.getElem?_eq_some_iff.1 h1).1
theorem ByR.set {W:World} {g:Nat} {l:List UInt8} (h:ByR W g l) {k:Nat} (hk:k<l.length) (x:UInt8) (n:Int) (hn:n=(x.toNat:Int)):ByR (W.setCell ⟨g,k,none⟩ (.int .u8 n)) g (l.set k x):=by
 obtain⟨cs,h1,h2,h3⟩:=h
 subst hn
 refine⟨cs.setIfInBounds k (.int .u8 (x.toNat:Int)),?_,by simpa using h2,fun j hj=>?_⟩
 · have hlt:g<W.heap.size:=(Array.getElem?_eq_some_iff.1 h1).1
   unfold World.setCell
   simp[Array.getElem?_modify,h1]
 · rw[List.length_set] at hj
   rw[Array.getElem?_setIfInBounds]
   by_cases e:k=j
   · subst e
     rw[if_pos rfl,if_pos (by omega)];simp
   · rw[if_neg e,h3 j hj];simp[e]
theorem ByR.back {W:World} {g n cap:Nat} {l:List UInt8} (h:ByR W g l) (hn:n=l.length):(convert 38 9 (.slice (some ⟨g,0,none⟩) n cap)).run prog W=.ok (.string ⟨l.toArray⟩) W:=by
 subst hn
 refine run_convert_bytes_back W _ _ 5 _ cap l underlying38 underlying5 underlying9 fun j hj=>?_
 have:(⟨g,0,none⟩:Addr).add j=⟨g,j,none⟩:=by unfold Addr.add;split <;> simp_all
 rw[this];exact h.cell hj
end
end Go.Proofs.YteknjeohbcgpdaaGreatDoor