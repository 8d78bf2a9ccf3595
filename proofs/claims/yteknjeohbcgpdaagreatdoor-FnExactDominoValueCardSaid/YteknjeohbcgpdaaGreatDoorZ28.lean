/-
  Maps keyed by strings, ints and pairs of ints: the keys' laws; a look-up and a store at the operation; how many entries there are. (5 texts.)
-/
import Derived.Test.YteknjeohbcgpdaaGreatDoorZ26
import Derived.Maps.OwnOps
import Derived.WideKeyArgs
import Derived.DeepKeys4
import Derived.NoCompiler
import Derived.WideMake
import Derived.Maps.Keyed
set_option maxRecDepth 100000
namespace Go.Proofs.YteknjeohbcgpdaaGreatDoor
open Tryz
section
open Go.RowKit
open Go.Maps (Keyed)
open Go.ChangeMaps (setBlock heap_setBlock_same heap_setBlock_other)
def upd (dq:∀ a b:Value,Decidable (a=b)) (f:Value→Option Value) (key val:Value):Value→Option Value:=fun x=>match dq x key with | .isTrue _=>some val | .isFalse _=>f x
theorem upd_same {dq:∀ a b:Value,Decidable (a=b)} (f:Value→Option Value) (key val:Value):upd dq f key val key=some val:=by
 unfold upd;cases dq key key with | isTrue _=>rfl | isFalse h=>exact absurd rfl h
theorem upd_ne {dq:∀ a b:Value,Decidable (a=b)} {f:Value→Option Value} {key val x:Value} (h:x≠key):upd dq f key val x=f x:=by
 unfold upd;cases dq x key with | isTrue e=>exact absurd e h | isFalse _=>rfl
def bW (P:Program) (k:TypeId) (w:World) (b n:Nat) (f:Value→Option Value):Prop :=
 ∃ es clock,w.heap[b]?=some (.map es clock)∧es.size≤n∧(∀ x∈es.toList,∃ l,keyOf P k x.key=some l)∧(∀ x∈es.toList,f x.key=some x.val)∧(∀ key v,f key=some v→(∃ x∈es.toList,x.key=key∧x.val=v))∧es.toList.Pairwise (fun x y=>x.key≠y.key)
theorem bW.made (P:Program) (k:TypeId) {w:World} {b:Nat} {c:Nat} (h:w.heap[b]?=some (.map #[] c)):bW P k w b 0 fun _=>none :=
 ⟨#[],c,h,Nat.le_refl _,by simp,by simp,(fun _ _ h=>by cases h),by simp⟩
theorem bW.lt {P:Program} {k:TypeId} {w:World} {b n:Nat} {f:Value→Option Value} (h:bW P k w b n f):b<w.heap.size:=by
 obtain⟨es,c,hb,_⟩:=h;exact(Array.getElem?_eq_some_iff.1 hb).1
theorem bW.keep {P:Program} {k:TypeId} {w w':World} {b n:Nat} {f:Value→Option Value} (h:bW P k w b n f) (hb:w'.heap[b]?=w.heap[b]?):bW P k w' b n f:=by
 obtain⟨es,c,h1,h2⟩:=h;exact⟨es,c,hb.trans h1,h2⟩
theorem bW.mono {P:Program} {k:TypeId} {w:World} {b n m:Nat} {f:Value→Option Value} (h:bW P k w b n f) (hn:n≤m):bW P k w b m f:=by
 obtain⟨es,c,h1,h2,h3⟩:=h;exact⟨es,c,h1,by omega,h3⟩
theorem bW.look {P:Program} {k e t:TypeId} {w:World} {b n:Nat} {f:Value→Option Value} (h:bW P k w b n f) (K:Keyed P k) (ht:P.underlying t=some (.map k e)) {z:Value} (hz:(zeroValue e).run P w=.ok z w) {key:Value} {kl:Lit} (hkey:keyOf P k key=some kl) (c:Bool) :
 (Instr.lookup t (.map (some b)) key c).run P w=.ok (if c then .tuple #[(f key).getD z,.bool (f key).isSome] else (f key).getD z) w:=by
 obtain⟨es,clock,hb,_,hk,h1,h2,_⟩:=h
 rcases K.find w hkey es.toList hk with ⟨e1,e2⟩ | ⟨j,x,e1,e2,e3⟩
 · have hn:f key=none:=by
    cases hf:f key with
    | none=>rfl
    | some v=>obtain⟨x,hx,hxk,_⟩:=h2 key v hf;exact absurd hxk (e2 x hx)
   simp[Instr.lookup,run_underlying ht,MapKept.run_getObj_map hb,K.check w _ hkey,e1,hz,Result.andThen,hn]
 · have hm:x∈es.toList:=List.mem_of_getElem? e2
   have hf:=h1 x hm
   rw[e3] at hf
   simp[Instr.lookup,run_underlying ht,MapKept.run_getObj_map hb,K.check w _ hkey,e1,Result.andThen,hf]
theorem bW.store {P:Program} {k e t:TypeId} {w:World} {b n:Nat} {f:Value→Option Value} (h:bW P k w b n f) (K:Keyed P k) (ht:P.underlying t=some (.map k e)) (hn:n<maxLen) {key val:Value} {kl:Lit} (hkey:keyOf P k key=some kl) :
 ∃ w',(Instr.mapUpdate t (.map (some b)) key val).run P w=.ok () w'∧bW P k w' b (n+1) (upd (fun _ _=>Classical.propDecidable _) f key val)∧w.grownBy w' (some b):=by
 obtain⟨es,clock,hb,hs,hk,h1,h2,h3⟩:=h
 have hroom:es.size<maxLen:=by omega
 rcases K.find w hkey es.toList hk with ⟨e1,e2⟩ | ⟨j,x,e1,e2,e3⟩
 · refine⟨setBlock w b (.map (es.push ⟨key,val,clock⟩) (clock+1)),?_,⟨es.push ⟨key,val,clock⟩,clock+1,heap_setBlock_same hb _,by simp;omega,fun x hx=>?_,fun x hx=>?_,fun ky v hv=>?_,?_⟩,⟨rfl,rfl,rfl,by simp[setBlock],fun i _ hi=>heap_setBlock_other hb _ (fun e=>hi (by rw[e]))⟩⟩
   · simp[Instr.mapUpdate,run_underlying ht,MapKept.run_getObj_map hb,K.check w false hkey,e1,MapKept.run_setObj_map _ hb,Result.andThen,setBlock]
   · simp only[Array.toList_push,List.mem_append,List.mem_singleton] at hx
     rcases hx with hx | rfl
     · exact hk x hx
     · exact⟨kl,hkey⟩
   · simp only[Array.toList_push,List.mem_append,List.mem_singleton] at hx
     rcases hx with hx | rfl
     · rw[upd_ne (e2 x hx)];exact h1 x hx
     · exact upd_same _ _ _
   · by_cases c:ky=key
     · subst c;rw[upd_same] at hv;injection hv with hv;subst hv
       exact⟨⟨_,_,clock⟩,by simp,rfl,rfl⟩
     · rw[upd_ne c] at hv
       obtain⟨x,hx,a,d⟩:=h2 ky v hv
       exact⟨x,by simp only[Array.toList_push,List.mem_append];exact .inl hx,a,d⟩
   · rw[Array.toList_push,List.pairwise_append]
     exact⟨h3,by simp,fun x hx y hy=>by simp only[List.mem_singleton] at hy;subst hy;exact e2 x hx⟩
 · have hjl:j<es.toList.length:=(List.getElem?_eq_some_iff.1 e2).1
   have hxe:es.toList[j]=x:=by rw[List.getElem?_eq_getElem hjl] at e2;injection e2
   have hlist:(es.modify j (fun e'=>{ e' with key:=key,val:=val })).toList=es.toList.set j { x with key:=key,val:=val }:=by
    apply List.ext_getElem?
    intro i
    rw[Array.getElem?_toList,Array.getElem?_modify,List.getElem?_set,Array.getElem?_toList]
    by_cases c:j=i
    · subst c
      have:es[j]?=some x:=by simpa using e2
      simp[this];omega
    · simp[c]
   have hmem:∀ y,y∈es.toList.set j { x with key:=key,val:=val }→(y.key=key∧y.val=val)∨(y∈es.toList∧y.key≠key):=by
    intro y hy
    obtain⟨i,hi,rfl⟩:=List.mem_iff_getElem.1 hy
    rw[List.getElem_set]
    split
    · exact .inl ⟨rfl,rfl⟩
    · rename_i c
      rw[List.length_set] at hi
      refine .inr ⟨List.getElem_mem _,fun e=>?_⟩
      rcases Nat.lt_or_ge i j with l | l
      · exact List.pairwise_iff_getElem.1 h3 i j hi hjl l (by rw[hxe,e3];exact e)
      · exact List.pairwise_iff_getElem.1 h3 j i hjl hi (by omega) (by rw[hxe,e3];exact e.symm)
   have Rp:∀ y,y∈es.toList→y.key≠key→y∈es.toList.set j { x with key:=key,val:=val }:=by
    intro y hy hne
    obtain⟨i,hi,rfl⟩:=List.mem_iff_getElem.1 hy
    have c:j≠i:=fun c=>by subst c;exact hne (by rw[hxe];exact e3)
    refine List.mem_iff_getElem.2 ⟨i,by rw[List.length_set];exact hi,?_⟩
    rw[List.getElem_set_ne c]
   refine⟨setBlock w b (.map (es.modify j (fun e'=>{ e' with key:=key,val:=val })) clock),?_,⟨es.modify j (fun e'=>{ e' with key:=key,val:=val }),clock,heap_setBlock_same hb _,by simp;omega,?_,?_,?_,?_⟩,⟨rfl,rfl,rfl,by simp[setBlock],fun i _ hi=>heap_setBlock_other hb _ (fun e=>hi (by rw[e]))⟩⟩
   · have hj:es[j]?=some x:=by simpa using e2
     simp[Instr.mapUpdate,run_underlying ht,MapKept.run_getObj_map hb,K.check w false hkey,e1,hj,e3,K.stays w hkey,MapKept.run_setObj_map _ hb,Result.andThen,setBlock]
   · rw[hlist];intro y hy
     rcases hmem y hy with h | h
     · exact⟨kl,by rw[h.1];exact hkey⟩
     · exact hk y h.1
   · rw[hlist];intro y hy
     rcases hmem y hy with h | h
     · rw[h.1,h.2];exact upd_same _ _ _
     · rw[upd_ne h.2];exact h1 y h.1
   · rw[hlist];intro ky v hv
     by_cases c:ky=key
     · subst c;rw[upd_same] at hv;injection hv with hv;subst hv
       exact⟨_,List.mem_iff_getElem.2 ⟨j,by rw[List.length_set];exact hjl,rfl⟩,by rw[List.getElem_set_self],by rw[List.getElem_set_self]⟩
     · rw[upd_ne c] at hv
       obtain⟨y,hy,a,d⟩:=h2 ky v hv
       exact⟨y,Rp y hy (by rw[a];exact c),a,d⟩
   · rw[hlist,List.pairwise_iff_getElem]
     intro a c ha hc hac
     rw[List.length_set] at ha hc
     have hne:=List.pairwise_iff_getElem.1 h3 a c ha hc hac
     rw[List.getElem_set,List.getElem_set]
     by_cases d1:j=a
     · subst d1
       rw[if_pos rfl,if_neg (by omega)]
       rw[hxe,e3] at hne;exact hne
     · rw[if_neg d1]
       by_cases d2:j=c
       · subst d2
         rw[if_pos rfl];rw[hxe,e3] at hne;exact hne
       · rw[if_neg d2];exact hne
end
section
open Go.RowKit
def gK (n:Nat):Nat:=if n<10 then 48+n else 87+n
def lI:Nat→Nat→List Nat
 | 0,_=>[]
 | k+1,n=>if n<36 then [gK n] else lI k (n / 36)++[gK (n % 36)]
def b36 (n:Nat):List Nat:=lI 4 n
theorem OW {k n:Nat} (h:n<36):lI (k+1) n=[gK n]:=by rw[lI,if_pos h]
theorem ET:(prog.info? 5).map (fun i=>(i.zero,i.size,i.bytes))=some (some (.int .u8 0),1,1):=by kernel_rfl
theorem EX {r:Nat} (h:r<36):(({ data:=#[48,49,50,51,52,53,54,55,56,57,97,98,99,100,101,102,103,104,105,106,107,108,109,110,111,112,113,114,115,116,117,118,119,120,121,122] }:ByteArray)[r]'h).toNat=gK r:=by
 have key:∀ r:Fin 36,(({ data:=#[48,49,50,51,52,53,54,55,56,57,97,98,99,100,101,102,103,104,105,106,107,108,109,110,111,112,113,114,115,116,117,118,119,120,121,122] }:ByteArray)[r.1]'r.2).toNat=gK r.1:=by decide
 exact key ⟨r,h⟩
def u8s (l:List Nat):List Value:=l.map fun (d:Nat)=>.int .u8 (d:Int)
theorem Ab {j:Nat} {ds:List Nat} (d:Nat):(u8s (List.replicate (j+1) 0++ds)).set j (.int .u8 (d:Int))=u8s (List.replicate j 0++d :: ds):=by
 have e:List.replicate (j+1) 0++ds=List.replicate j 0++0 :: ds:=by rw[List.replicate_succ',List.append_assoc];rfl
 rw[e,u8s,List.map_append,List.set_append_right _ _ (by simp)]
 simp[u8s]
theorem NZ (l:List Nat):∀ u∈u8s l,u.oneCell'=true:=by
 intro u hu;obtain⟨x,_,rfl⟩:=List.mem_map.1 hu;rfl
set_option maxHeartbeats 2000000 in
theorem formatBits_36 (n:Nat) (hn:n<1000000) (sv:Value) (m B:Nat) (xs:List Value) (w:World) (hown:w.ownsRow B 5 1 sv m xs) (hB:B≤w.heap.size) (hm:m≤1000000000) :
 Calls prog 261 #[sv,.int .u64 (n:Int),.int .i64 36,.bool false,.bool true] w fun e w'=>∃ v',e=.returned (.tuple #[v',.string ⟨#[]⟩])∧w'.ownsRow B 5 1 v' (m+(b36 n).length) (xs++u8s (b36 n))∧bg (fun b=>sv.ownBlock=some b) w w'∧(∀ b,v'.ownBlock=some b→sv.ownBlock=some b∨w.heap.size≤b):=by
 obtain⟨i0,hi0,hz0,hz1,hz2⟩:=info_parts ET
 obtain⟨a0,c0,rfl,hmc,_⟩:=az hown
 go_enter Tryz.func261,Tryz.ntmps261
 go_wp2
 have hz:(Tryz.zeroCells275).toList=u8s (List.replicate 65 0):=by kernel_rfl
 have hsz:(Tryz.zeroCells275).size=65:=by kernel_rfl
 have ho0:(w.alloc (.cells Tryz.zeroCells275 275)).ownsRow w.heap.size 275 1 (.slice (some ⟨w.heap.size,0,none⟩) 65 65) 65 (u8s (List.replicate 65 0)):=by
  rw[← hz];exact World.ownsRow_lit w _ _ (Nat.le_refl _) (by decide) (by rw[hsz])
 have hx0:Ext w (w.alloc (.cells Tryz.zeroCells275 275)):=by go_grown
 generalize w.alloc (.cells Tryz.zeroCells275 275)=W0 at *
 clear hz hsz
 go_loopw [1,13] (fun uu ii wr=>∃ i u ds,ii=.int .i64 ((i:Nat):Int)∧uu=.int .u64 ((u:Nat):Int)∧62≤i∧i≤65∧u<36 ^ (i-61)∧Ext w wr∧wr.ownsRow w.heap.size 275 1 (.slice (some ⟨w.heap.size,0,none⟩) 65 65) 65 (u8s (List.replicate i 0++ds))∧Hid (ds.length=65-i)∧Hid (lI (i-61) u++ds=b36 n)) (fun _ ii _=>(intOf ii).toNat)
 case atStart=>exact⟨65,n,[],rfl,rfl,by omega,by omega,by omega,hx0,by simpa using ho0,rfl,by simp[Hid,b36]⟩
 case round =>
  clear ho0 hx0
  obtain⟨i,u,ds,rfl,rfl,hi1,hi2,hu,hE,ho,HL,HB⟩:=hrel
  have hu6:u<1679616:=Nat.lt_of_lt_of_le hu (Nat.le_trans (Nat.pow_le_pow_right (by omega) (by omega:i-61≤4)) (by decide))
  by_cases hlt:36≤u
  · have hi3:63≤i:=by
     by_cases c:i=62
     · subst c;simp at hu;omega
     · omega
    have h1:(36:Int)≤(u:Int):=by omega
    obtain⟨j,rfl⟩:∃ j,i=j+1:=⟨i-1,by omega⟩
    have hj1:((j+1:Nat):Int)-1=(j:Int):=by omega
    have hcl:(u8s (List.replicate (j+1) 0++ds)).length=65:=by have:=ho.1;simpa using this
    have cj:=ho.cellAt j (by omega)
    rw[List.getElem?_eq_getElem (by omega)] at cj
    have fj:=ho.frozenAt j
    go_wp2
    go_roundw
    case rel =>
     (repeat apply Exists.intro)
     refine⟨?_,rfl⟩
     refine⟨j,u / 36,gK (u % 36) :: ds,rfl,?_,by omega,by omega,?_,?_,?_,?_,?_⟩
     · rw[show ((u / 36:Nat):Int)=(u:Int) / 36 by omega]
     · have e:j+1-61=(j-61)+1:=by omega
       rw[e,Nat.pow_succ] at hu
       exact Nat.div_lt_of_lt_mul (by rw[Nat.mul_comm];exact hu)
     · exact hE.setCell (p:=⟨w.heap.size,j,none⟩) (Nat.le_refl _) _
     · rw[EX (show u-u / 36*36<36 by omega),show u-u / 36*36=u % 36 by omega,← Ab]
       exact(ho.stored j _).1
     · have:=HL.out
       show (gK (u % 36) :: ds).length=65-j
       rw[List.length_cons];omega
     · have h:=HB.out
       have e:j+1-61=(j-61)+1:=by omega
       rw[e,lI,if_neg (by omega)] at h
       show lI (j-61) (u / 36)++gK (u % 36) :: ds=b36 n
       rw[← h,List.append_assoc];rfl
    case measure=>simp[intOf]
  · have h1:¬ ((36:Int)≤(u:Int)):=by omega
    obtain⟨j,rfl⟩:∃ j,i=j+1:=⟨i-1,by omega⟩
    have hj1:((j+1:Nat):Int)-1=(j:Int):=by omega
    have hcl:(u8s (List.replicate (j+1) 0++ds)).length=65:=by have:=ho.1;simpa using this
    have cj:=ho.cellAt j (by omega)
    rw[List.getElem?_eq_getElem (by omega)] at cj
    have fj:=ho.frozenAt j
    have harr:prog.arrayLen 275=65:=by kernel_rfl
    have hsl:=fun W:World=>run_sliceAt_array_l (P:=prog) W 275 ⟨w.heap.size,0,none⟩ underlying275 .i64 (j:Int) (by omega) (by rw[harr];omega)
    have hsz:=fun W:World=>(by kernel_rfl:(sizeOf (prog.elem 275)).run prog W=.ok 1 W)
    simp only[hsz,Result.andThen_ok,slicedAt,harr,Int.toNat_natCast] at hsl
    rw[if_neg (by omega),show (⟨w.heap.size,0,none⟩:Addr).add (j*1)=⟨w.heap.size,j,none⟩ by simp[Addr.add];omega] at hsl
    have Cy:u<36:=by omega
    have hd:=EX Cy
    have HL2:Hid (u8s (gK u :: ds)=((u8s (List.replicate j 0++gK u :: ds)).drop j).take (65-j)):=by
     have hl:=HL.out
     unfold Hid u8s
     rw[List.map_append,List.drop_append_of_le_length (by simp),List.drop_of_length_le (by simp),List.nil_append,List.take_of_length_le (by simp;omega)]
    have hb:b36 n=gK u :: ds:=by
     have h:=HB.out
     obtain⟨k,hk⟩:∃ k,j+1-61=k+1:=⟨j-61,by omega⟩
     rw[hk,OW Cy] at h;exact h.symm
    have HBN:=Hd_ hb
    have ho2:(wr.setCell ⟨w.heap.size,j,none⟩ (.int .u8 (((({ data:=#[48,49,50,51,52,53,54,55,56,57,97,98,99,100,101,102,103,104,105,106,107,108,109,110,111,112,113,114,115,116,117,118,119,120,121,122] }:ByteArray)[u]'Cy).toNat:Nat):Int))).ownsRow w.heap.size 275 1 (.slice (some ⟨w.heap.size,0,none⟩) 65 65) 65 (u8s (List.replicate j 0++gK u :: ds)):=by
     rw[hd,← Ab];exact(ho.stored j (.int .u8 ((gK u:Nat):Int))).1
    have hE2:Ext w (wr.setCell ⟨w.heap.size,j,none⟩ (.int .u8 (((({ data:=#[48,49,50,51,52,53,54,55,56,57,97,98,99,100,101,102,103,104,105,106,107,108,109,110,111,112,113,114,115,116,117,118,119,120,121,122] }:ByteArray)[u]'Cy).toNat:Nat):Int))):=hE.setCell (p:=⟨w.heap.size,j,none⟩) (Nat.le_refl _) _
    have HHD:=Hd_ hd
    clear hb hd
    go_upto_region 29 with fail
    generalize wr.setCell ⟨w.heap.size,j,none⟩ (.int .u8 (((({ data:=#[48,49,50,51,52,53,54,55,56,57,97,98,99,100,101,102,103,104,105,106,107,108,109,110,111,112,113,114,115,116,117,118,119,120,121,122] }:ByteArray)[u]'Cy).toNat:Nat):Int))=W2 at *
    have hown2:=aJ hown hE2
    have hz2':=hE2.size
    have hsrc:=iG ho2 (Below.refl _ _) j (65-j) (by omega)
    rw[← HL2.out] at hsrc
    have hln:(u8s (gK u :: ds)).length=65-j:=by have:=HL.out;simp[u8s];omega
    have HLN:=Hd_ hln
    clear hln cj fj hE ho
    go_wp2_with (at_builtin;refine aW rfl (.tmp 95) (.tmp 97) 38 rfl B 5 i0 (.int .u8 0) 1 1 underlying38 hi0 hz0 hz1 hz2 rfl (by decide) (.slice a0 m c0) m xs rfl hown2 (some ⟨w.heap.size,j,none⟩) (65-j) (65-j) (u8s (gK u :: ds)) rfl (by rw[HLN.out,Nat.mul_one]) (.inr ⟨_,rfl,hsrc⟩) (NZ _) (by unfold maxLen;omega) (by omega) (by omega) ?_;intro v5 w5 ho5 hg5 hl5)
    go_ret2
    refine⟨v5,rfl,?_,⟨hg5.os.trans hE2.os,hg5.tape.trans hE2.tape,hg5.output.trans hE2.output,by have:=hg5.size;omega,fun k hk hn=>by rw[hg5.block k (by omega) (fun e=>hn e.symm)];exact hE2.block k hk⟩,fun b hb=>by
     rcases hl5 with h | ⟨g,h,h2⟩
     · exact .inl (by rw[← h];exact hb)
     · rw[h] at hb;injection hb with hb;exact .inr (by omega)⟩
    rw[HBN.out]
    have:(gK u :: ds).length=65-j:=by have:=HLN.out;simpa [u8s] using this
    rw[this];exact ho5
def zU (n:Nat) (sv:Value) (m B:Nat) (xs:List Value) (w:World) (e:Ending) (w':World):Prop :=
 ∃ v',e=.returned v'∧w'.ownsRow B 5 1 v' (m+(b36 n).length) (xs++u8s (b36 n))∧bg (fun b=>sv.ownBlock=some b) w w'∧(∀ b,v'.ownBlock=some b→sv.ownBlock=some b∨w.heap.size≤b)
theorem AppendInt_36 (n:Nat) (hn:n<1000000) (sv:Value) (m B:Nat) (xs:List Value) (w:World) (hown:w.ownsRow B 5 1 sv m xs) (hB:B≤w.heap.size) (hm:m≤1000000000) :
 Calls prog 169 #[sv,.int .i64 (n:Int),.int .i64 36] w (zU n sv m B xs w):=by
 obtain⟨a0,c0,rfl,hmc,_⟩:=az hown
 have h1:Calls prog 237 #[.slice a0 m c0,.int .u64 (n:Int),.int .i64 36] w (zU n (.slice a0 m c0) m B xs w):=by
  go_enter Tryz.func237,Tryz.ntmps237
  go_wp2_with (go_at_call 261;refine(formatBits_36 n hn _ m B xs _ hown hB hm).mono ?_;rintro e w1 ⟨v',rfl,h1,h2,h3⟩)
  go_ret
  exact⟨v',rfl,h1,h2,h3⟩
 have h2:Calls prog 205 #[.slice a0 m c0,.int .i64 (n:Int),.int .i64 36] w (zU n (.slice a0 m c0) m B xs w):=by
  go_enter Tryz.func205,Tryz.ntmps205
  go_wp2_with (go_at_call 237;refine h1.mono ?_;rintro e w1 ⟨v',rfl,h1,h2,h3⟩)
  go_ret
  exact⟨v',rfl,h1,h2,h3⟩
 go_enter Tryz.func169,Tryz.ntmps169
 go_wp2_with (go_at_call 205;refine h2.mono ?_;rintro e w1 ⟨v',rfl,h1,h2,h3⟩)
 go_ret
 exact⟨v',rfl,h1,h2,h3⟩
end
section
def und (x:Nat):Nat:=if x<58 then x-48 else x-87
theorem Ev {d:Nat} (h:d<36):und (gK d)=d:=by unfold und gK;split <;> split <;> omega
theorem AJ {d:Nat} (h:d<36):48≤gK d∧gK d≤122:=by unfold gK;split <;> omega
theorem oN:∀ k n x,x∈lI k n→48≤x∧x≤122
 | 0,n,x,h=>by simp[lI] at h
 | k+1,n,x,h=>by
   rw[lI] at h
   split at h
   · rename_i hn
     simp at h;subst h;exact AJ hn
   · rcases List.mem_append.1 h with h | h
     · exact oN k _ x h
     · simp at h;subst h;exact AJ (Nat.mod_lt _ (by omega))
def G7 (l:List Nat):Nat:=l.foldl (fun a x=>a*36+und x) 0
theorem xR:∀ k n,n<36 ^ k→G7 (lI k n)=n
 | 0,n,h=>by simp at h;subst h;rfl
 | k+1,n,h=>by
   rw[lI]
   split
   · rename_i hn
     simp[G7,Ev hn]
   · have ih:=xR k (n / 36) (by rw[Nat.div_lt_iff_lt_mul (by omega)];rw[Nat.pow_succ] at h;exact h)
     unfold G7 at ih ⊢
     rw[List.foldl_append,ih]
     simp only[List.foldl_cons,List.foldl_nil,Ev (Nat.mod_lt n (show 36 > 0 by omega))]
     omega
theorem OX {n m:Nat} (hn:n<1000000) (hm:m<1000000) (h:b36 n=b36 m):n=m:=by
 have e1:=xR 4 n (by omega)
 have e2:=xR 4 m (by omega)
 unfold b36 at h
 rw[← e1,← e2,h]
def dK (l:List Nat):List Nat:=l.flatMap fun i=>b36 i++[44]
def jE (l r:List Nat):List Nat:=dK l++124 :: dK r
theorem Jm (l:List Nat) (i:Nat):dK (l++[i])=dK l++(b36 i++[44]):=by simp[dK]
theorem JO {c:Nat}:∀ {a b x y:List Nat},c ∉ a→c ∉ b→a++c :: x=b++c :: y→a=b∧x=y
 | [],[],x,y,_,_,h=>by simpa using h
 | [],d :: b,x,y,_,hb,h=>by simp at h;exact absurd h.1 (fun e=>hb (by simp[e]))
 | d :: a,[],x,y,ha,_,h=>by simp at h;exact absurd h.1.symm (fun e=>ha (by simp[e]))
 | d :: a,e :: b,x,y,ha,hb,h=>by
   simp only[List.cons_append,List.cons.injEq] at h
   obtain⟨rfl,h⟩:=h
   obtain⟨rfl,h2⟩:=JO (fun k=>ha (List.mem_cons_of_mem _ k)) (fun k=>hb (List.mem_cons_of_mem _ k)) h
   exact⟨rfl,h2⟩
def Stop (t:List Nat):Prop:=∀ x,t.head?=some x→x=124
theorem Du (i:Nat) (x:List Nat):¬ Stop (b36 i++[44]++x):=fun h=>by
 cases hb:b36 i with
 | nil=>rw[hb] at h;have:=h 44 (by simp);omega
 | cons a b =>
   rw[hb] at h
   have:=h a (by simp)
   have h2:=oN 4 i a (by show a∈b36 i;rw[hb];simp)
   omega
theorem Pf (i:Nat):44 ∉ b36 i:=fun h=>by have:=oN 4 i 44 h;omega
theorem xu:∀ {l m t u:List Nat},(∀ i,i∈l→i<1000000)→(∀ i,i∈m→i<1000000)→Stop t→Stop u→dK l++t=dK m++u→l=m∧t=u
 | [],[],t,u,_,_,_,_,h=>by simpa [dK] using h
 | [],j :: m,t,u,_,_,ht,_,h=>by
   simp only[dK,List.flatMap_nil,List.nil_append,List.flatMap_cons] at h
   rw[h,List.append_assoc] at ht
   exact absurd ht (Du j _)
 | i :: l,[],t,u,_,_,_,hu,h=>by
   simp only[dK,List.flatMap_nil,List.nil_append,List.flatMap_cons] at h
   rw[← h,List.append_assoc] at hu
   exact absurd hu (Du i _)
 | i :: l,j :: m,t,u,hl,hm,ht,hu,h=>by
   have e:b36 i++44 :: (dK l++t)=b36 j++44 :: (dK m++u):=by simpa [dK] using h
   obtain⟨e1,e2⟩:=JO (Pf i) (Pf j) e
   have:=OX (hl i (by simp)) (hm j (by simp)) e1
   obtain⟨e3,e4⟩:=xu (fun x hx=>hl x (by simp[hx])) (fun x hx=>hm x (by simp[hx])) ht hu e2
   exact⟨by rw[this,e3],e4⟩
theorem Le {l r m s:List Nat} (h1:∀ i,i∈l→i<1000000) (h2:∀ i,i∈r→i<1000000) (h3:∀ i,i∈m→i<1000000) (h4:∀ i,i∈s→i<1000000) (h:jE l r=jE m s):l=m∧r=s:=by
 have hs:∀ x:List Nat,Stop (124 :: x):=fun x y hy=>by simpa using hy.symm
 obtain⟨e1,e2⟩:=xu h1 h3 (hs _) (hs _) h
 simp only[List.cons.injEq,true_and] at e2
 have hn:Stop []:=fun x hx=>by simp at hx
 exact⟨e1,(xu h2 h4 hn hn (by simpa using e2)).1⟩
theorem yE {l r:List Nat} {x:Nat} (h:x∈jE l r):x<128:=by
 have hp:∀ l:List Nat,x∈dK l→x<128:=fun l h=>by
  obtain⟨i,_,hi⟩:=List.mem_flatMap.1 h
  rcases List.mem_append.1 hi with h | h
  · have:=oN 4 i x h;omega
  · simp at h;omega
 rcases List.mem_append.1 h with h | h
 · exact hp l h
 · rcases List.mem_cons.1 h with h | h
   · omega
   · exact hp r h
end
section
open Go.RowKit
theorem alloc_at {w:World} {X:Obj} {k:Nat} (h:k=w.heap.size):(w.alloc X).heap[k]?=some X:=by subst h;exact heap_alloc_new w X
def O5 (w:World) (e:Ending) (w':World):Prop :=
 ∃ h,h=w.heap.size∧e=.returned (.pointer (some ⟨h+1+1+1+1+1,0,none⟩)) ∧
   w'.heap[h+1+1+1+1+1]?=some (.cells #[.slice none 0 0,.slice none 0 0,.slice none 0 0,.map (some h),.map (some (h+1)),.map (some (h+1+1)),.map (some (h+1+1+1)),.map (some (h+1+1+1+1))] 139 (0,0)) ∧
   (∀ m,h≤m→m<h+1+1+1+1+1→w'.heap[m]?=some (.map #[] 0))∧w'.heap.size=h+6∧Ext w w'
set_option maxHeartbeats 2000000 in
theorem DU (w:World):Calls prog 68 #[] w (O5 w):=by
 have hm1:=fun w:World=>run_makeMap_plain (P:=prog) (w:=w) 113
 have hm2:=fun w:World=>run_makeMap_plain (P:=prog) (w:=w) 134
 have hm3:=fun w:World=>run_makeMap_plain (P:=prog) (w:=w) 135
 have hm4:=fun w:World=>run_makeMap_plain (P:=prog) (w:=w) 136
 go_enter Tryz.func68,Tryz.ntmps68
 go_wp2
 go_ret
 refine⟨w.heap.size,rfl,rfl,alloc_at (by simp only[sA_]),fun m h1 h2=>?_,by simp only[sA_],by go_grown⟩
 have:m=w.heap.size∨m=w.heap.size+1∨m=w.heap.size+1+1∨m=w.heap.size+1+1+1∨m=w.heap.size+1+1+1+1:=by omega
 rw[Below.heap_alloc _ _ _ (by simp only[sA_];omega)]
 rcases this with rfl | rfl | rfl | rfl | rfl
 · rw[Below.heap_alloc _ _ _ (by simp only[sA_];omega),Below.heap_alloc _ _ _ (by simp only[sA_];omega),Below.heap_alloc _ _ _ (by simp only[sA_];omega),Below.heap_alloc _ _ _ (by simp only[sA_];omega)]
   exact alloc_at rfl
 · rw[Below.heap_alloc _ _ _ (by simp only[sA_];omega),Below.heap_alloc _ _ _ (by simp only[sA_];omega),Below.heap_alloc _ _ _ (by simp only[sA_];omega)]
   exact alloc_at (by simp only[sA_])
 · rw[Below.heap_alloc _ _ _ (by simp only[sA_];omega),Below.heap_alloc _ _ _ (by simp only[sA_];omega)]
   exact alloc_at (by simp only[sA_])
 · rw[Below.heap_alloc _ _ _ (by simp only[sA_];omega)]
   exact alloc_at (by simp only[sA_])
 · exact alloc_at (by simp only[sA_])
end
section
open Go.RowKit
open Go.Maps (Keyed)
theorem uC:Keyed prog 9:=Go.Maps.string_keyed underlying9
theorem jq:Keyed prog 3:=Go.Maps.int_keyed underlying3
theorem Ns:laidOutB prog=true:=by kernel_rfl
theorem rowP:(183:TypeId)<(prog).types.size:=of_decide_eq_true (by kernel_rfl)
theorem O7:∃ m,(prog).types.size=m+1:=by
 have h:=rowP
 revert h
 generalize (prog).types.size=q
 intro h
 cases q with
 | zero=>exact absurd h (Nat.not_lt_zero _)
 | succ m=>exact⟨m,rfl⟩
theorem Ga:(prog).keyTypeAt 2 183=true:=by kernel_rfl
theorem yD:Keyed prog 183:=Keyed.of_law (deep_law_laid Ns (m:=2) (by decide) rowP Ga (by rw[underlying183]))
theorem JW:(prog).cellsOf 183=2:=by kernel_rfl
theorem QP:(prog).cellsOf 3=1:=by kernel_rfl
theorem Ld:(prog).keyType 183=true:=by kernel_rfl
theorem Jr {i:Nat} (h:i<1000000000):(Lit.int .i64 (i:Int)).wf=true:=by
 have h1:IntKind.min .i64=-9223372036854775808:=by rfl
 have h2:IntKind.max .i64=9223372036854775807:=by rfl
 simp only[Lit.wf,Bool.and_eq_true,decide_eq_true_eq,h1,h2];omega
theorem Jn (s:ByteArray) (h:s.size≤maxLen):∃ l,keyOf prog 9 (.string s)=some l:=by
 exact⟨_,by simp[keyOf,underlying9,mapKey,h];rfl⟩
theorem j5 (i:Nat) (h:i<1000000000):∃ l,keyOf prog 3 (.int .i64 (i:Int))=some l :=
 ⟨_,Go.Maps.keyOf_int_mk underlying3 (Jr h)⟩
theorem EO (d:Nat) (i:Nat) (h:i<1000000000):(prog).keyLits (d+1) 3 [.int .i64 (i:Int)]=some [.int .i64 (i:Int)]:=by
 simp[Program.keyLits,underlying3,Jr h]
theorem Pn (a b:Nat) (ha:a<1000000000) (hb:b<1000000000):∃ l,keyOf prog 183 (.agg #[.int .i64 (a:Int),.int .i64 (b:Int)])=some l:=by
 have hf:(Value.agg #[.int .i64 (a:Int),.int .i64 (b:Int)]).formed prog 183=true:=by simp[Value.formed,underlying183,JW]
 obtain⟨m,hm⟩:=O7
 have hl:(prog).keyLits (m+1+1) 183 [.int .i64 (a:Int),.int .i64 (b:Int)]=some [.int .i64 (a:Int),.int .i64 (b:Int)]:=by
  unfold Program.keyLits
  simp only[underlying183,JW,QP,List.length_cons,List.length_nil]
  simp[List.range,List.range.loop,EO m a ha,EO m b hb]
 exact⟨_,by simp only[keyOf,underlying183,hf,Ld,Value.cells,hm,hl];rfl⟩
section
variable {P:Program} {w:World} {ops:Array Oper} {rest:List Oper} {o:Oper} {a:Act} {Q:Exit→Act→World→Prop}
theorem qm (hg:o.guard=none) (m x:Operand) (t:TypeId) (c:Bool) (hop:o.op=Op.lookup t m x c) (k e:TypeId) (K:Keyed P k) (ht:P.underlying t=some (.map k e)) (z:Value) (hz:(zeroValue e).run P w=.ok z w) (b n:Nat) (f:Value→Option Value)
 (hm:a.eval m=.map (some b)) (h:bW P k w b n f) (key:Value) (hx:a.eval x=key) (hkey:∃ kl,keyOf P k key=some kl)
 (hK:wpList P ops Q rest (a.put o.dst (if c then .tuple #[(f key).getD z,.bool (f key).isSome] else (f key).getD z)) w):wpList P ops Q (o :: rest) a w:=by
 refine wpList_plain hg fun K' hK'=>?_
 obtain⟨kl,hkl⟩:=hkey
 have hrun:=h.look K ht hz hkl c
 unfold Oper.wp
 simp[execOp,hop,hm,hx,hrun,Result.andThen]
 exact hK' _ _ (by simpa using hK)
theorem fe (hg:o.guard=none) (m x v:Operand) (t:TypeId) (hop:o.op=Op.mapUpdate t m x v) (k e:TypeId) (K:Keyed P k) (ht:P.underlying t=some (.map k e)) (b n:Nat) (f:Value→Option Value)
 (hm:a.eval m=.map (some b)) (h:bW P k w b n f) (hn:n<maxLen) (key val:Value) (hx:a.eval x=key) (hv:a.eval v=val) (hkey:∃ kl,keyOf P k key=some kl)
 (hK:∀ w',bW P k w' b (n+1) (upd (fun _ _=>Classical.propDecidable _) f key val)→w.grownBy w' (some b)→wpList P ops Q rest (a.put o.dst undef) w'):wpList P ops Q (o :: rest) a w:=by
 refine wpList_plain hg fun K' hK'=>?_
 obtain⟨kl,hkl⟩:=hkey
 obtain⟨w',hrun,r1,r2⟩:=h.store K ht hn hkl (val:=val)
 unfold Oper.wp
 simp[execOp,hop,hm,hx,hv,hrun,Result.andThen]
 exact hK' _ _ (hK w' r1 r2)
end
theorem bW.room {P:Program} {k:TypeId} {w:World} {b n:Nat} {f:Value→Option Value} (h:bW P k w b n f) (L:List Value) (hL:∀ key v,f key=some v→key∈L):bW P k w b L.length f:=by
 obtain⟨es,c,h1,h2,h3,h4,h5,h6⟩:=h
 refine⟨es,c,h1,?_,h3,h4,h5,h6⟩
 have hn:(es.toList.map (·.key)).Nodup:=by rw[List.Nodup,List.pairwise_map];exact h6
 have hs:∀ x,x∈es.toList.map (·.key)→x∈L:=fun x hx=>by
  obtain⟨y,hy,rfl⟩:=List.mem_map.1 hx
  exact hL _ _ (h4 y hy)
 have:=hn.length_le_of_subset hs
 simpa using this
end
end Go.Proofs.YteknjeohbcgpdaaGreatDoor