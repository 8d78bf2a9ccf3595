/-
  Maps keyed by strings, ints and pairs of ints: the keys' laws; a look-up and a store at the operation; how many entries there are. (5 texts.)
-/
import Derived.Test.YteknjeohbcgpdaaGreatDoorK22
import Derived.WideMake
set_option maxRecDepth 100000
namespace Go.Proofs.YteknjeohbcgpdaaGreatDoor
open Tryz
section
open Go.RowKit
open Go.Maps (Keyed)
open Go.ChangeMaps (setBlock heap_setBlock_same heap_setBlock_other)
variable {f:Value->Option Value} {key val:Value} {w:World} {b n:Nat} {P:Program} {k e t:TypeId} {kl:Lit}
def upd(dq:∀a b:Value,Decidable (a=b))(f:Value->Option Value)(key val:Value):Value->Option Value:=λx=>match dq x key with | .isTrue _=>some val | .isFalse _=>f x
theorem upd_same{dq:∀a b:Value,Decidable (a=b)}(f:Value->Option Value)(key val:Value):upd dq f key val key=some val:=by
 unfold upd;cases dq key key with|isTrue _=>rfl|isFalse h=>exact absurd rfl h
theorem upd_ne{dq:∀a b:Value,Decidable (a=b)}{x:Value}(h:x≠key):upd dq f key val x=f x:=by
 unfold upd;cases dq x key with|isTrue e=>exact absurd e h|isFalse _=>rfl
def gu(P:Program)(k:TypeId)(w:World)(b n:Nat)(f:Value->Option Value):Prop:=
 ∃es clock,w.heap[b]?=some (.map es clock)/\es.size<=n/\(∀x∈es.toList,∃l,keyOf P k x.key=some l)/\(∀x∈es.toList,f x.key=some x.val)/\(∀key v,f key=some v->(∃x∈es.toList,x.key=key/\x.val=v))/\es.toList.Pairwise (λx y=>x.key≠y.key)
theorem gu.made(P:Program)(k:TypeId){c:Nat}(h:w.heap[b]?=some (.map #[] c)):gu P k w b 0 λ_=>none:=
 ⟨#[],c,h,ai _,by simp,by simp,(λ_ _ h=>by cases h),by simp⟩
theorem gu.lt(h:gu P k w b n f):b<w.heap.size:=by
 obtain⟨es,c,hb,_⟩:=h;exact(fH.1 hb).1
theorem gu.keep{w':World}(h:gu P k w b n f)(hb:w'.heap[b]?=w.heap[b]?):gu P k w' b n f:=by
 obtain⟨es,c,h1,h2⟩:=h;exact⟨es,c,hb.trans h1,h2⟩
theorem gu.mono{m:Nat}(h:gu P k w b n f)(hn:n<=m):gu P k w b m f:=by
 obtain⟨es,c,h1,h2,h3⟩:=h;exact⟨es,c,h1,by omega,h3⟩
theorem gu.look(h:gu P k w b n f)(K:Keyed P k)(ht:P.underlying t=some (.map k e)){z:Value}(hz:(zeroValue e).run P w=.ok z w)(hkey:keyOf P k key=some kl)(c:Bool):
 (Instr.lookup t (.map (some b)) key c).run P w=.ok (if c then .tuple #[(f key).getD z,.bool (f key).isSome]else(f key).getD z) w:=by
 obtain⟨es,clock,hb,_,hk,h1,h2,_⟩:=h;rcases K.find w hkey es.toList hk with⟨e1,e2⟩|⟨j,x,e1,e2,e3⟩
 .have hn:f key=none:=by
   cases hf:f key with
   |none=>rfl
   |some v=>obtain⟨x,hx,hxk,_⟩:=h2 key v hf;exact absurd hxk (e2 x hx)
  simp[Instr.lookup,run_underlying ht,MapKept.run_getObj_map hb,K.check w _ hkey,e1,hz,Result.andThen,hn]
 .have hm:x∈es.toList:=dU e2
  have hf:=h1 x hm;rw[e3]at hf;simp[Instr.lookup,run_underlying ht,MapKept.run_getObj_map hb,K.check w _ hkey,e1,Result.andThen,hf]
theorem gu.store(h:gu P k w b n f)(K:Keyed P k)(ht:P.underlying t=some (.map k e))(hn:n<maxLen)(hkey:keyOf P k key=some kl):
 ∃w',(Instr.mapUpdate t (.map (some b)) key val).run P w=.ok () w'/\gu P k w' b (n+1) (upd (λ_ _=>Classical.propDecidable _) f key val)/\w.grownBy w' (some b):=by
 obtain⟨es,clock,hb,hs,hk,h1,h2,h3⟩:=h;have hroom:es.size<maxLen:=by omega
 rcases K.find w hkey es.toList hk with⟨e1,e2⟩|⟨j,x,e1,e2,e3⟩
 .refine⟨setBlock w b (.map (es.push ⟨key,val,clock⟩) (clock+1)),?_,⟨es.push ⟨key,val,clock⟩,clock+1,heap_setBlock_same hb _,by simp;omega,λx hx=>?_,λx hx=>?_,λky v hv=>?_,?_⟩,⟨rfl,rfl,rfl,by simp[setBlock],λi _ hi=>heap_setBlock_other hb _ (λe=>hi (by rw[e]))⟩⟩
  .simp[Instr.mapUpdate,run_underlying ht,MapKept.run_getObj_map hb,K.check w false hkey,e1,MapKept.run_setObj_map _ hb,Result.andThen,setBlock]
  .simp only[Array.toList_push,aK,eH]at hx
   rcases hx with hx|rfl
   .exact hk x hx
   .exact⟨kl,hkey⟩
  .simp only[Array.toList_push,aK,eH]at hx
   rcases hx with hx|rfl
   .rw[upd_ne (e2 x hx)];exact h1 x hx
   .exact upd_same _ _ _
  .by_cases c:ky=key
   .subst c;rw[upd_same]at hv;injection hv with hv;subst hv
    exact⟨⟨_,_,clock⟩,by simp,rfl,rfl⟩
   .rw[upd_ne c]at hv
    obtain⟨x,hx,a,d⟩:=h2 ky v hv;exact⟨x,by simp only[Array.toList_push,aK];exact .inl hx,a,d⟩
  .rw[Array.toList_push,sG]
   exact⟨h3,by simp,λx hx y hy=>by simp only[eH]at hy;subst hy;exact e2 x hx⟩
 .have hjl:j<es.toList.length:=(dI.1 e2).1
  have hxe:es.toList[j]=x:=by rw[aa hjl]at e2;injection e2
  have hlist:(es.modify j (λe'=>{ e' with key:=key,val:=val })).toList=es.toList.set j { x with key:=key,val:=val }:=by
   apply List.ext_getElem?;intro i;rw[iD,Array.getElem?_modify,kU,iD];by_cases c:j=i
   .subst c
    have:es[j]?=some x:=(by simpa using e2);simp[this];omega
   .simp[c]
  have hmem:∀y,y∈es.toList.set j { x with key:=key,val:=val }->(y.key=key/\y.val=val)\/(y∈es.toList/\y.key≠key):=by
   intro y hy;obtain⟨i,hi,rfl⟩:=aO.1 hy;rw[List.getElem_set];split
   .exact .inl ⟨rfl,rfl⟩
   .rename_i c
    rw[gH]at hi;refine .inr ⟨ah _,λe=>?_⟩;rcases dX i j with l|l
    .exact dh.1 h3 i j hi hjl l (by rw[hxe,e3];exact e)
    .exact dh.1 h3 j i hjl hi (by omega) (by rw[hxe,e3];exact e.symm)
  have abX:∀y,y∈es.toList->y.key≠key->y∈es.toList.set j { x with key:=key,val:=val }:=by
   intro y hy hne;obtain⟨i,hi,rfl⟩:=aO.1 hy;have c:j≠i:=λc=>by subst c;exact hne (by rw[hxe];exact e3)
   refine aO.2 ⟨i,by rw[gH];exact hi,?_⟩;rw[List.getElem_set_ne c]
  refine⟨setBlock w b (.map (es.modify j (λe'=>{ e' with key:=key,val:=val })) clock),?_,⟨es.modify j (λe'=>{ e' with key:=key,val:=val }),clock,heap_setBlock_same hb _,by simp;omega,?_,?_,?_,?_⟩,⟨rfl,rfl,rfl,by simp[setBlock],λi _ hi=>heap_setBlock_other hb _ (λe=>hi (by rw[e]))⟩⟩
  .have hj:es[j]?=some x:=by simpa using e2
   simp[Instr.mapUpdate,run_underlying ht,MapKept.run_getObj_map hb,K.check w false hkey,e1,hj,e3,K.stays w hkey,MapKept.run_setObj_map _ hb,Result.andThen,setBlock]
  .rw[hlist];intro y hy
   rcases hmem y hy with h|h
   .exact⟨kl,by rw[h.1];exact hkey⟩
   .exact hk y h.1
  .rw[hlist];intro y hy
   rcases hmem y hy with h|h
   .rw[h.1,h.2];exact upd_same _ _ _
   .rw[upd_ne h.2];exact h1 y h.1
  .rw[hlist];intro ky v hv
   by_cases c:ky=key
   .subst c;rw[upd_same]at hv;injection hv with hv;subst hv
    exact⟨_,aO.2 ⟨j,by rw[gH];exact hjl,rfl⟩,by rw[List.getElem_set_self],by rw[List.getElem_set_self]⟩
   .rw[upd_ne c]at hv
    obtain⟨y,hy,a,d⟩:=h2 ky v hv;exact⟨y,abX y hy (by rw[a];exact c),a,d⟩
  .rw[hlist,dh]
   intro a c ha hc hac;rw[gH]at ha hc;have hne:=dh.1 h3 a c ha hc hac;rw[List.getElem_set,List.getElem_set];by_cases d1:j=a
   .subst d1
    rw[if_pos rfl,if_neg (by omega)];rw[hxe,e3]at hne;exact hne
   .rw[if_neg d1]
    by_cases d2:j=c
    .subst d2
     rw[if_pos rfl];rw[hxe,e3]at hne;exact hne
    .rw[if_neg d2];exact hne
end
section
open Go.RowKit
def mZ(n:Nat):Nat:=if n<10 then 48+n else 87+n
def xU:Nat->Nat->List Nat
 | 0,_=>[]
 |k+1,n=>if n<36 then [mZ n]else xU k (n / 36)++[mZ (n % 36)]
def zm(n:Nat):List Nat:=xU 4 n
theorem WU{k n:Nat}(h:n<36):xU (k+1) n=[mZ n]:=by rw[xU,if_pos h]
theorem Nw:(prog.info? 5).map (λi=>(i.zero,i.size,i.bytes))=some (some (.int .u8 0),1,1):=by kernel_rfl
theorem NU{r:Nat}(h:r<36):(({ data:=#[48,49,50,51,52,53,54,55,56,57,97,98,99,100,101,102,103,104,105,106,107,108,109,110,111,112,113,114,115,116,117,118,119,120,121,122] }:ByteArray)[r]'h).toNat=mZ r:=by
 have key:∀r:Fin 36,(({ data:=#[48,49,50,51,52,53,54,55,56,57,97,98,99,100,101,102,103,104,105,106,107,108,109,110,111,112,113,114,115,116,117,118,119,120,121,122] }:ByteArray)[r.1]'r.2).toNat=mZ r.1:=by decide
 exact key ⟨r,h⟩
def vz(l:List Nat):List Value:=l.map λ(d:Nat)=>.int .u8 (d:Int)
theorem EA{j:Nat}{ds:List Nat}(d:Nat):(vz (List.replicate (j+1) 0++ds)).set j (.int .u8 (d:Int))=vz (List.replicate j 0++d :: ds):=by
 have e:List.replicate (j+1) 0++ds=List.replicate j 0++0 :: ds:=by rw[List.replicate_succ',bY];rfl
 rw[e,vz,aU,List.set_append_right _ _ (by simp)];simp[vz]
theorem Vp(l:List Nat):∀u∈vz l,u.oneCell'=true:=by
 intro u hu;obtain⟨x,_,rfl⟩:=aI.1 hu;rfl
set_option maxHeartbeats 2000000 in
theorem formatBits_36(n:Nat)(hn:n<1000000)(sv:Value)(m B:Nat)(xs:List Value)(w:World)(hown:w.ownsRow B 5 1 sv m xs)(hB:B<=w.heap.size)(hm:m<=1000000000):
 Calls prog 261 #[sv,.int .u64 (n:Int),.int .i64 36,.bool false,.bool true] w λe w'=>∃v',e=.returned (.tuple #[v',.string ⟨#[]⟩])/\w'.ownsRow B 5 1 v' (m+(zm n).length) (xs++vz (zm n))/\fe (λb=>sv.ownBlock=some b) w w'/\(∀b,v'.ownBlock=some b->sv.ownBlock=some b\/w.heap.size<=b):=by
 obtain⟨i0,hi0,hz0,hz1,hz2⟩:=info_parts Nw;obtain⟨a0,c0,rfl,hmc,_⟩:=bD hown;go_enter Tryz.func261,Tryz.ntmps261
 go_wp2
 have hz:(Tryz.zeroCells275).toList=vz (List.replicate 65 0):=by kernel_rfl
 have hsz:(Tryz.zeroCells275).size=65:=by kernel_rfl
 have ho0:(w.alloc (.cells Tryz.zeroCells275 275)).ownsRow w.heap.size 275 1 (.slice (some ⟨w.heap.size,0,none⟩) 65 65) 65 (vz (List.replicate 65 0)):=by
  rw[<-hz];exact World.ownsRow_lit w _ _ (ai _) (by decide) (by rw[hsz])
 have hx0:Ext w (w.alloc (.cells Tryz.zeroCells275 275)):=by go_grown
 generalize w.alloc (.cells Tryz.zeroCells275 275)=W0 at *;clear hz hsz;go_loopw [1,13] (λuu ii wr=>∃i u ds,ii=.int .i64 ((i:Nat):Int)/\uu=.int .u64 ((u:Nat):Int)/\62<=i/\i<=65/\u<36 ^ (i-61)/\Ext w wr/\wr.ownsRow w.heap.size 275 1 (.slice (some ⟨w.heap.size,0,none⟩) 65 65) 65 (vz (List.replicate i 0++ds))/\Hid (ds.length=65-i)/\Hid (xU (i-61) u++ds=zm n)) (λ_ ii _=>(intOf ii).toNat)
 case atStart=>exact⟨65,n,[],rfl,rfl,by omega,by omega,by omega,hx0,by simpa using ho0,rfl,by simp[Hid,zm]⟩
 case round=>
  clear ho0 hx0;obtain⟨i,u,ds,rfl,rfl,hi1,hi2,hu,hE,ho,HL,HB⟩:=hrel;have hu6:u<1679616:=aQ hu (bU (nY (by omega) (by omega:i-61<=4)) (by decide));by_cases hlt:36<=u
  .have hi3:63<=i:=by
    by_cases c:i=62
    .subst c;simp at hu;omega
    .omega
   have h1:(36:Int)<=(u:Int):=(by omega);obtain⟨j,rfl⟩:∃j,i=j+1:=⟨i-1,by omega⟩;have hj1:((j+1:Nat):Int)-1=(j:Int):=(by omega);have hcl:(vz (List.replicate (j+1) 0++ds)).length=65:=(by have:=ho.1;simpa using this);have cj:=ho.cellAt j (by omega);rw[aa (by omega)]at cj;have fj:=ho.frozenAt j;go_wp2
   go_roundw
   case rel=>
    (repeat apply Exists.intro)
    refine⟨?_,rfl⟩;refine⟨j,u / 36,mZ (u % 36):: ds,rfl,?_,by omega,by omega,?_,?_,?_,?_,?_⟩
    .rw[show((u / 36:Nat):Int)=(u:Int) / 36 by omega]
    .have e:j+1-61=(j-61)+1:=by omega
     rw[e,Nat.pow_succ]at hu;exact Nat.div_lt_of_lt_mul (by rw[jk];exact hu)
    .exact hE.setCell (p:=⟨w.heap.size,j,none⟩) (ai _) _
    .rw[NU (show u-u / 36*36<36 by omega),show u-u / 36*36=u % 36 by omega,<-EA]
     exact(ho.stored j _).1
    .have:=HL.out
     show(mZ (u % 36):: ds).length=65-j;rw[dO];omega
    .have h:=HB.out
     have e:j+1-61=(j-61)+1:=(by omega);rw[e,xU,if_neg (by omega)]at h;show xU (j-61) (u / 36)++mZ (u % 36):: ds=zm n;rw[<-h,bY];rfl
   case measure=>simp[intOf]
  .have h1:¬((36:Int)<=(u:Int)):=by omega
   obtain⟨j,rfl⟩:∃j,i=j+1:=⟨i-1,by omega⟩;have hj1:((j+1:Nat):Int)-1=(j:Int):=(by omega);have hcl:(vz (List.replicate (j+1) 0++ds)).length=65:=(by have:=ho.1;simpa using this);have cj:=ho.cellAt j (by omega);rw[aa (by omega)]at cj;have fj:=ho.frozenAt j;have harr:prog.arrayLen 275=65:=(by kernel_rfl);have hsl:=λW:World=>run_sliceAt_array_l (P:=prog) W 275 ⟨w.heap.size,0,none⟩ underlying275 .i64 (j:Int) (by omega) (by rw[harr];omega)
   have hsz:=λW:World=>(by kernel_rfl:(sizeOf (prog.elem 275)).run prog W=.ok 1 W)
   simp only[hsz,Result.andThen_ok,slicedAt,harr,kV]at hsl;rw[if_neg (by omega),show(⟨w.heap.size,0,none⟩:Addr).add (j*1)=⟨w.heap.size,j,none⟩ by simp[Addr.add];omega]at hsl;have Sn:u<36:=(by omega);have hd:=NU Sn;have HL2:Hid (vz (mZ u :: ds)=((vz (List.replicate j 0++mZ u :: ds)).drop j).take (65-j)):=by
    have hl:=HL.out;unfold Hid vz;rw[aU,l7 (by simp),List.drop_of_length_le (by simp),fB,cO (by simp;omega)]
   have hb:zm n=mZ u :: ds:=by
    have h:=HB.out;obtain⟨k,hk⟩:∃k,j+1-61=k+1:=⟨j-61,by omega⟩;rw[hk,WU Sn]at h;exact h.symm
   have HBN:=aH hb;have ho2:(wr.setCell ⟨w.heap.size,j,none⟩ (.int .u8 (((({ data:=#[48,49,50,51,52,53,54,55,56,57,97,98,99,100,101,102,103,104,105,106,107,108,109,110,111,112,113,114,115,116,117,118,119,120,121,122] }:ByteArray)[u]'Sn).toNat:Nat):Int))).ownsRow w.heap.size 275 1 (.slice (some ⟨w.heap.size,0,none⟩) 65 65) 65 (vz (List.replicate j 0++mZ u :: ds)):=by
    rw[hd,<-EA];exact(ho.stored j (.int .u8 ((mZ u:Nat):Int))).1
   have hE2:Ext w (wr.setCell ⟨w.heap.size,j,none⟩ (.int .u8 (((({ data:=#[48,49,50,51,52,53,54,55,56,57,97,98,99,100,101,102,103,104,105,106,107,108,109,110,111,112,113,114,115,116,117,118,119,120,121,122] }:ByteArray)[u]'Sn).toNat:Nat):Int))):=hE.setCell (p:=⟨w.heap.size,j,none⟩) (ai _) _;have HHD:=aH hd;clear hb hd;go_upto_region 29 with fail
   generalize wr.setCell ⟨w.heap.size,j,none⟩ (.int .u8 (((({ data:=#[48,49,50,51,52,53,54,55,56,57,97,98,99,100,101,102,103,104,105,106,107,108,109,110,111,112,113,114,115,116,117,118,119,120,121,122] }:ByteArray)[u]'Sn).toNat:Nat):Int))=W2 at *;have hown2:=dn hown hE2;have hz2':=hE2.size;have hsrc:=yw ho2 (Below.refl _ _) j (65-j) (by omega);rw[<-HL2.out]at hsrc;have hln:(vz (mZ u :: ds)).length=65-j:=(by have:=HL.out;simp[vz];omega);have pU:=aH hln;clear hln cj fj hE ho;go_wp2_with (at_builtin;refine bQ rfl (.tmp 95) (.tmp 97) 38 rfl B 5 i0 (.int .u8 0) 1 1 underlying38 hi0 hz0 hz1 hz2 rfl (by decide) (.slice a0 m c0) m xs rfl hown2 (some ⟨w.heap.size,j,none⟩) (65-j) (65-j) (vz (mZ u :: ds)) rfl (by rw[pU.out,jM]) (.inr ⟨_,rfl,hsrc⟩) (Vp _) (by unfold maxLen;omega) (by omega) (by omega) ?_;intro v5 w5 fI hg5 hl5)
   go_ret2
   refine⟨v5,rfl,?_,⟨hg5.os.trans hE2.os,hg5.tape.trans hE2.tape,hg5.output.trans hE2.output,by have:=hg5.size;omega,λk hk hn=>by rw[hg5.block k (by omega) (λe=>hn e.symm)];exact hE2.block k hk⟩,λb hb=>by
    rcases hl5 with h|⟨g,h,h2⟩
    .exact .inl (by rw[<-h];exact hb)
    .rw[h]at hb;injection hb with hb;exact .inr (by omega)⟩
   rw[HBN.out];have:(mZ u :: ds).length=65-j:=(by have:=pU.out;simpa [vz]using this);rw[this];exact fI
def G7(n:Nat)(sv:Value)(m B:Nat)(xs:List Value)(w:World)(e:Ending)(w':World):Prop:=
 ∃v',e=.returned v'/\w'.ownsRow B 5 1 v' (m+(zm n).length) (xs++vz (zm n))/\fe (λb=>sv.ownBlock=some b) w w'/\(∀b,v'.ownBlock=some b->sv.ownBlock=some b\/w.heap.size<=b)
theorem AppendInt_36(n:Nat)(hn:n<1000000)(sv:Value)(m B:Nat)(xs:List Value)(w:World)(hown:w.ownsRow B 5 1 sv m xs)(hB:B<=w.heap.size)(hm:m<=1000000000):
 Calls prog 169 #[sv,.int .i64 (n:Int),.int .i64 36] w (G7 n sv m B xs w):=by
 obtain⟨a0,c0,rfl,hmc,_⟩:=bD hown;have h1:Calls prog 237 #[.slice a0 m c0,.int .u64 (n:Int),.int .i64 36] w (G7 n (.slice a0 m c0) m B xs w):=by
  go_enter Tryz.func237,Tryz.ntmps237
  go_wp2_with (go_at_call 261;refine(formatBits_36 n hn _ m B xs _ hown hB hm).mono ?_;rintro e w1 ⟨v',rfl,h1,h2,h3⟩)
  go_ret
  exact⟨v',rfl,h1,h2,h3⟩
 have h2:Calls prog 205 #[.slice a0 m c0,.int .i64 (n:Int),.int .i64 36] w (G7 n (.slice a0 m c0) m B xs w):=by
  go_enter Tryz.func205,Tryz.ntmps205
  go_wp2_with (go_at_call 237;refine h1.mono ?_;rintro e w1 ⟨v',rfl,h1,h2,h3⟩)
  go_ret
  exact⟨v',rfl,h1,h2,h3⟩
 go_enter Tryz.func169,Tryz.ntmps169
 go_wp2_with (go_at_call 205;refine h2.mono ?_;rintro e w1 ⟨v',rfl,h1,h2,h3⟩)
 go_ret
 exact⟨v',rfl,h1,h2,h3⟩
end
section
variable {d:Nat} {l r:List Nat}
def und(x:Nat):Nat:=if x<58 then x-48 else x-87
theorem MR(h:d<36):und (mZ d)=d:=by unfold und mZ;split <;> split <;> omega
theorem Ff(h:d<36):48<=mZ d/\mZ d<=122:=by unfold mZ;split <;> omega
theorem tO:∀k n x,x∈xU k n->48<=x/\x<=122
 | 0,n,x,h=>by simp[xU]at h
 |k+1,n,x,h=>by
  rw[xU]at h;split at h
  .rename_i hn
   simp at h;subst h;exact Ff hn
  .rcases aK.1 h with h|h
   .exact tO k _ x h
   .simp at h;subst h;exact Ff (Nat.mod_lt _ (by omega))
def Uc(l:List Nat):Nat:=l.foldl (λa x=>a*36+und x) 0
theorem Dj:∀k n,n<36 ^ k->Uc (xU k n)=n
 | 0,n,h=>by simp at h;subst h;rfl
 |k+1,n,h=>by
  rw[xU];split
  .rename_i hn
   simp[Uc,MR hn]
  .have ih:=Dj k (n / 36) (by rw[Nat.div_lt_iff_lt_mul (by omega)];rw[Nat.pow_succ]at h;exact h)
   unfold Uc at ih ⊢;rw[List.foldl_append,ih];simp only[List.foldl_cons,List.foldl_nil,MR (Nat.mod_lt n (show 36 > 0 by omega))];omega
theorem WV{n m:Nat}(hn:n<1000000)(hm:m<1000000)(h:zm n=zm m):n=m:=by
 have e1:=Dj 4 n (by omega);have e2:=Dj 4 m (by omega);unfold zm at h;rw[<-e1,<-e2,h]
def ku(l:List Nat):List Nat:=l.flatMap λi=>zm i++[44]
def sW(l r:List Nat):List Nat:=ku l++124 :: ku r
theorem Pd(l:List Nat)(i:Nat):ku (l++[i])=ku l++(zm i++[44]):=by simp[ku]
theorem Ud{c:Nat}:∀{a b x y:List Nat},c ∉ a->c ∉ b->a++c :: x=b++c :: y->a=b/\x=y
 |[],[],x,y,_,_,h=>by simpa using h
 |[],d :: b,x,y,_,hb,h=>by simp at h;exact absurd h.1 (λe=>hb (by simp[e]))
 |d :: a,[],x,y,ha,_,h=>by simp at h;exact absurd h.1.symm (λe=>ha (by simp[e]))
 |d :: a,e :: b,x,y,ha,hb,h=>by
  simp only[List.cons_append,jU]at h;obtain⟨rfl,h⟩:=h;obtain⟨rfl,h2⟩:=Ud (λk=>ha (sI _ k)) (λk=>hb (sI _ k)) h;exact⟨rfl,h2⟩
def Stop(t:List Nat):Prop:=∀x,t.head?=some x->x=124
theorem JZ(i:Nat)(x:List Nat):¬Stop (zm i++[44]++x):=λh=>by
 cases hb:zm i with
 |nil=>rw[hb]at h;have:=h 44 (by simp);omega
 |cons a b=>
  rw[hb]at h;have:=h a (by simp);have h2:=tO 4 i a (by show a∈zm i;rw[hb];simp);omega
theorem abg(i:Nat):44 ∉ zm i:=λh=>by have:=tO 4 i 44 h;omega
theorem CV:∀{l m t u:List Nat},(∀i,i∈l->i<1000000)->(∀i,i∈m->i<1000000)->Stop t->Stop u->ku l++t=ku m++u->l=m/\t=u
 |[],[],t,u,_,_,_,_,h=>by simpa [ku]using h
 |[],j :: m,t,u,_,_,ht,_,h=>by
  simp only[ku,List.flatMap_nil,fB,gV]at h;rw[h,bY]at ht;exact absurd ht (JZ j _)
 |i :: l,[],t,u,_,_,_,hu,h=>by
  simp only[ku,List.flatMap_nil,fB,gV]at h;rw[<-h,bY]at hu;exact absurd hu (JZ i _)
 |i :: l,j :: m,t,u,hl,hm,ht,hu,h=>by
  have e:zm i++44 :: (ku l++t)=zm j++44 :: (ku m++u):=by simpa [ku]using h
  obtain⟨e1,e2⟩:=Ud (abg i) (abg j) e;have:=WV (hl i (by simp)) (hm j (by simp)) e1;obtain⟨e3,e4⟩:=CV (λx hx=>hl x (by simp[hx])) (λx hx=>hm x (by simp[hx])) ht hu e2;exact⟨by rw[this,e3],e4⟩
theorem R6{m s:List Nat}(h1:∀i,i∈l->i<1000000)(h2:∀i,i∈r->i<1000000)(h3:∀i,i∈m->i<1000000)(h4:∀i,i∈s->i<1000000)(h:sW l r=sW m s):l=m/\r=s:=by
 have hs:∀x:List Nat,Stop (124 :: x):=λx y hy=>by simpa using hy.symm
 obtain⟨e1,e2⟩:=CV h1 h3 (hs _) (hs _) h;simp only[jU,true_and]at e2;have hn:Stop []:=λx hx=>by simp at hx
 exact⟨e1,(CV h2 h4 hn hn (by simpa using e2)).1⟩
theorem CW{x:Nat}(h:x∈sW l r):x<128:=by
 have hp:∀l:List Nat,x∈ku l->x<128:=λl h=>by
  obtain⟨i,_,hi⟩:=lH.1 h;rcases aK.1 hi with h|h
  .have:=tO 4 i x h;omega
  .simp at h;omega
 rcases aK.1 h with h|h
 .exact hp l h
 .rcases dD.1 h with h|h
  .omega
  .exact hp r h
end
section
open Go.RowKit
theorem alloc_at{w:World}{X:Obj}{k:Nat}(h:k=w.heap.size):(w.alloc X).heap[k]?=some X:=by subst h;exact heap_alloc_new w X
def Xi(w:World)(e:Ending)(w':World):Prop:=
 ∃h,h=w.heap.size/\e=.returned (.pointer (some ⟨h+1+1+1+1+1,0,none⟩))/\
  w'.heap[h+1+1+1+1+1]?=some (.cells #[.slice none 0 0,.slice none 0 0,.slice none 0 0,.map (some h),.map (some (h+1)),.map (some (h+1+1)),.map (some (h+1+1+1)),.map (some (h+1+1+1+1))] 139 (0,0))/\
  (∀m,h<=m->m<h+1+1+1+1+1->w'.heap[m]?=some (.map #[] 0))/\w'.heap.size=h+6/\Ext w w'
set_option maxHeartbeats 2000000 in
theorem uD(w:World):Calls prog 68 #[] w (Xi w):=by
 have hm1:=λw:World=>run_makeMap_plain (P:=prog) (w:=w) 113
 have hm2:=λw:World=>run_makeMap_plain (P:=prog) (w:=w) 134
 have AV:=λw:World=>run_makeMap_plain (P:=prog) (w:=w) 135
 have Gf:=λw:World=>run_makeMap_plain (P:=prog) (w:=w) 136
 go_enter Tryz.func68,Tryz.ntmps68
 go_wp2
 go_ret
 refine⟨w.heap.size,rfl,rfl,alloc_at (by simp only[fw]),λm h1 h2=>?_,by simp only[fw],by go_grown⟩;have:m=w.heap.size\/m=w.heap.size+1\/m=w.heap.size+1+1\/m=w.heap.size+1+1+1\/m=w.heap.size+1+1+1+1:=by omega
 rw[Below.heap_alloc _ _ _ (by simp only[fw];omega)];rcases this with rfl|rfl|rfl|rfl|rfl
 .rw[Below.heap_alloc _ _ _ (by simp only[fw];omega),Below.heap_alloc _ _ _ (by simp only[fw];omega),Below.heap_alloc _ _ _ (by simp only[fw];omega),Below.heap_alloc _ _ _ (by simp only[fw];omega)]
  exact alloc_at rfl
 .rw[Below.heap_alloc _ _ _ (by simp only[fw];omega),Below.heap_alloc _ _ _ (by simp only[fw];omega),Below.heap_alloc _ _ _ (by simp only[fw];omega)]
  exact alloc_at (by simp only[fw])
 .rw[Below.heap_alloc _ _ _ (by simp only[fw];omega),Below.heap_alloc _ _ _ (by simp only[fw];omega)]
  exact alloc_at (by simp only[fw])
 .rw[Below.heap_alloc _ _ _ (by simp only[fw];omega)]
  exact alloc_at (by simp only[fw])
 .exact alloc_at (by simp only[fw])
end
section
open Go.RowKit
open Go.Maps (Keyed)
theorem CU:Keyed prog 9:=Go.Maps.string_keyed underlying9
theorem oD:Keyed prog 3:=Go.Maps.int_keyed underlying3
theorem XF:laidOutB prog=true:=by kernel_rfl
theorem rowP:(183:TypeId)<(prog).types.size:=of_decide_eq_true (by kernel_rfl)
theorem Yp:∃m,(prog).types.size=m+1:=by
 have h:=rowP
 revert h
 generalize (prog).types.size=q;intro h;cases q with
 |zero=>exact absurd h (Nat.not_lt_zero _)
 |succ m=>exact⟨m,rfl⟩
theorem Lr:(prog).keyTypeAt 2 183=true:=by kernel_rfl
theorem zU:Keyed prog 183:=Keyed.of_law (deep_law_laid XF (m:=2) (by decide) rowP Lr (by rw[underlying183]))
theorem Un:(prog).cellsOf 183=2:=by kernel_rfl
theorem Z4:(prog).cellsOf 3=1:=by kernel_rfl
theorem R4:(prog).keyType 183=true:=by kernel_rfl
theorem R8{i:Nat}(h:i<1000000000):(Lit.int .i64 (i:Int)).wf=true:=by
 have h1:IntKind.min .i64=-9223372036854775808:=by rfl
 have h2:IntKind.max .i64=9223372036854775807:=by rfl
 simp only[Lit.wf,eP,decide_eq_true_eq,h1,h2];omega
theorem R5(s:ByteArray)(h:s.size<=maxLen):∃l,keyOf prog 9 (.string s)=some l:=by
 exact⟨_,by simp[keyOf,underlying9,mapKey,h];rfl⟩
theorem qj(i:Nat)(h:i<1000000000):∃l,keyOf prog 3 (.int .i64 (i:Int))=some l:=
 ⟨_,Go.Maps.keyOf_int_mk underlying3 (R8 h)⟩
theorem Nu(d:Nat)(i:Nat)(h:i<1000000000):(prog).keyLits (d+1) 3 [.int .i64 (i:Int)]=some [.int .i64 (i:Int)]:=by
 simp[Program.keyLits,underlying3,R8 h]
theorem Lu(a b:Nat)(ha:a<1000000000)(hb:b<1000000000):∃l,keyOf prog 183 (.agg #[.int .i64 (a:Int),.int .i64 (b:Int)])=some l:=by
 have hf:(Value.agg #[.int .i64 (a:Int),.int .i64 (b:Int)]).formed prog 183=true:=by simp[Value.formed,underlying183,Un]
 obtain⟨m,hm⟩:=Yp;have hl:(prog).keyLits (m+1+1) 183 [.int .i64 (a:Int),.int .i64 (b:Int)]=some [.int .i64 (a:Int),.int .i64 (b:Int)]:=by
  unfold Program.keyLits;simp only[underlying183,Un,Z4,dO,List.length_nil];simp[List.range,List.range.loop,Nu m a ha,Nu m b hb]
 exact⟨_,by simp only[keyOf,underlying183,hf,R4,Value.cells,hm,hl];rfl⟩
section
variable {P:Program} {w:World} {ops:Array Oper} {rest:List Oper} {o:Oper} {a:Act} {Q:Exit->Act->World->Prop}
theorem vU(hg:o.guard=none)(m x:Operand)(t:TypeId)(c:Bool)(hop:o.op=Op.lookup t m x c)(k e:TypeId)(K:Keyed P k)(ht:P.underlying t=some (.map k e))(z:Value)(hz:(zeroValue e).run P w=.ok z w)(b n:Nat)(f:Value->Option Value)
 (hm:a.eval m=.map (some b)) (h:gu P k w b n f) (key:Value) (hx:a.eval x=key) (hkey:∃kl,keyOf P k key=some kl)
 (hK:wpList P ops Q rest (a.put o.dst (if c then .tuple #[(f key).getD z,.bool (f key).isSome]else(f key).getD z)) w):wpList P ops Q (o :: rest) a w:=by
 refine wpList_plain hg λK' hK'=>?_
 obtain⟨kl,hkl⟩:=hkey;have hrun:=h.look K ht hz hkl c;unfold Oper.wp;simp[execOp,hop,hm,hx,hrun,Result.andThen];exact hK' _ _ (by simpa using hK)
theorem iT(hg:o.guard=none)(m x v:Operand)(t:TypeId)(hop:o.op=Op.mapUpdate t m x v)(k e:TypeId)(K:Keyed P k)(ht:P.underlying t=some (.map k e))(b n:Nat)(f:Value->Option Value)
 (hm:a.eval m=.map (some b)) (h:gu P k w b n f) (hn:n<maxLen) (key val:Value) (hx:a.eval x=key) (hv:a.eval v=val) (hkey:∃kl,keyOf P k key=some kl)
 (hK:∀w',gu P k w' b (n+1) (upd (λ_ _=>Classical.propDecidable _) f key val)->w.grownBy w' (some b)->wpList P ops Q rest (a.put o.dst undef) w'):wpList P ops Q (o :: rest) a w:=by
 refine wpList_plain hg λK' hK'=>?_
 obtain⟨kl,hkl⟩:=hkey;obtain⟨w',hrun,r1,r2⟩:=h.store K ht hn hkl (val:=val);unfold Oper.wp;simp[execOp,hop,hm,hx,hv,hrun,Result.andThen];exact hK' _ _ (hK w' r1 r2)
end
theorem gu.room{P:Program}{k:TypeId}{w:World}{b n:Nat}{f:Value->Option Value}(h:gu P k w b n f)(L:List Value)(hL:∀key v,f key=some v->key∈L):gu P k w b L.length f:=by
 obtain⟨es,c,h1,h2,h3,h4,h5,h6⟩:=h;refine⟨es,c,h1,?_,h3,h4,h5,h6⟩;have hn:(es.toList.map (·.key)).Nodup:=by rw[List.Nodup,jl];exact h6
 have hs:∀x,x∈es.toList.map (·.key)->x∈L:=λx hx=>by
  obtain⟨y,hy,rfl⟩:=aI.1 hx;exact hL _ _ (h4 y hy)
 have:=hn.length_le_of_subset hs
 simpa using this
end
end Go.Proofs.YteknjeohbcgpdaaGreatDoor