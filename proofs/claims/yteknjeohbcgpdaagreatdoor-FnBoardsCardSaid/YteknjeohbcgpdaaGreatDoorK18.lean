/-
  Memory: a row of boards, board by board. (5 texts.)
-/
import Derived.Test.YteknjeohbcgpdaaGreatDoorK13
import Derived.Test.YteknjeohbcgpdaaGreatDoorK17
set_option maxRecDepth 100000
namespace Go.Proofs.YteknjeohbcgpdaaGreatDoor
open Tryz
section
open Go.RowKit
open bO (dH Nd vl Same)
variable {S T:Nat->Prop} {A:World->Prop} {w w':World} {v:Value} {base size e n:Nat} {α:Type} {xs ys:List Value}
def nN(S:Nat->Prop)(A:World->Prop)(w:World):Prop:=(∀b,S b->b<w.heap.size)/\∀w',(∀b,S b->w'.heap[b]?=w.heap[b]?)->A w'
theorem nN.out(h:nN S A w):A w:=h.2 w λ_ _=>rfl
theorem nN.keep{G:Nat->Prop}(h:nN S A w)(hk:dX G w w')(hd:∀b,S b->¬G b):nN S A w':=
 ⟨λb hb=>bz (h.1 b hb) hk.size,λw2 h2=>h.2 w2 λb hb=>(h2 b hb).trans (hk.block b (h.1 b hb) (hd b hb))⟩
theorem nN.ext(h:nN S A w)(hk:Ext w w'):nN S A w':=h.keep (fq (F:=λ_=>False) hk) λ_ _=>id
theorem nN.mono{B:World->Prop}(h:nN S A w)(hS:∀b,S b->T b)(hT:∀b,T b->b<w.heap.size)(hA:∀W,A W->B W):nN T B w:=
 ⟨hT,λw2 h2=>hA _ (h.2 w2 λb hb=>h2 b (hS b hb))⟩
theorem Ints.sup{l:List Int}(h:Ints w v l)(hS:∀b,S b->b<w.heap.size)(hv:∀b,v.ownBlock=some b->S b):nN S (λW=>Ints W v l) w:=
 ⟨hS,λ_ h2=>h.keep λb _ hb=>h2 b (hv b hb)⟩
theorem fu.sup{F:dH}(h:fu w base v F)(hS:∀b,S b->b<w.heap.size)(hv:∀b,base<=b->b<w.heap.size->S b):nN S (λW=>fu W 0 v F) w:=by
 refine⟨hS,λw2 h2=>?_⟩;obtain⟨a,cap,rfl,h1,h3,h4⟩:=h;refine⟨a,cap,rfl,h1,h3,λh0=>?_⟩;obtain⟨b,rfl,hb,hc⟩:=h4 h0;refine⟨b,rfl,aJ _,λi hi=>?_⟩;obtain⟨L,R,c1,c2,c3,c4,c5,c6⟩:=hc i hi;have e:=h2 b (hv b hb (lt_of_cell c1));have key:∀{v:Value} {l:List Int},Ints w v l->(∀b,v.ownBlock=some b->base<=b/\b<w.heap.size)->Ints w2 v l/\∀b,v.ownBlock=some b->l≠[]->b<w2.heap.size:=λhI hb=>by
  have k:=hI.keep (w':=w2) λb _ he=>h2 b (hv b (hb b he).1 (hb b he).2)
  exact⟨k,λb he hl=>k.blk hl he⟩
 have hlt:∀b,base<=b/\b<w.heap.size->b<w2.heap.size:=λb hb=>by
  have:=h2 b (hv b hb.1 hb.2);rw[lh hb.2]at this;exact(fB.1 this).1
 exact⟨L,R,by rw[World.cell?_of_block (w:=w) e];exact c1,by rw[World.cell?_of_block (w:=w) e];exact c2,(key c3 c5).1,(key c4 c6).1,λb hb=>⟨aJ _,hlt b (c5 b hb)⟩,λb hb=>⟨aJ _,hlt b (c6 b hb)⟩⟩
def Items{α:Type}(R:World->List Value->α->Prop)(S:Nat->Prop)(size:Nat)(xs:List Value)(Ts:List α)(w:World):Prop:=
 xs.length=Ts.length*size/\nN S (λW=>∀i (h:i<Ts.length),R W ((xs.drop (i*size)).take size) Ts[i]) w
theorem Items.nil{R:World->List Value->α->Prop}(hS:∀b,S b->b<w.heap.size):Items R S size [] [] w:=
 ⟨by simp,hS,λ_ _ i h=>absurd h (by simp)⟩
theorem Items.keep{α:Type}{R:World->List Value->α->Prop}{S G:Nat->Prop}{size:Nat}{xs:List Value}{Ts:List α}{w w':World}(h:Items R S size xs Ts w)(hk:dX G w w')(hd:∀b,S b->¬G b):Items R S size xs Ts w':=⟨h.1,h.2.keep hk hd⟩
theorem Items.ext{α:Type}{R:World->List Value->α->Prop}{S:Nat->Prop}{size:Nat}{xs:List Value}{Ts:List α}{w w':World}(h:Items R S size xs Ts w)(hk:Ext w w'):Items R S size xs Ts w':=⟨h.1,h.2.ext hk⟩
theorem Items.mono{α:Type}{R:World->List Value->α->Prop}{S T:Nat->Prop}{size:Nat}{xs:List Value}{Ts:List α}{w:World}(h:Items R S size xs Ts w)(hS:∀b,S b->T b)(hT:∀b,T b->b<w.heap.size):Items R T size xs Ts w:=
 ⟨h.1,h.2.mono hS hT λ_ h=>h⟩
theorem Items.snoc{R:World->List Value->α->Prop}{Ts:List α}{t:α}(h:Items R S size xs Ts w)(hy:ys.length=size)(k:nN S (λW=>R W ys t) w):Items R S size (xs++ys) (Ts++[t]) w:=by
 refine⟨by simp[h.1,hy,kS],h.2.1,λw2 h2 i hi=>?_⟩;by_cases c:i<Ts.length
 .rw[dw c]
  have hm:i*size+size<=Ts.length*size:=by rw[<-uI];exact gZ _ c
  rw[List.drop_append_of_le_length (by rw[h.1];omega),List.take_append_of_le_length (by rw[iB,h.1];omega)];exact h.2.2 w2 h2 i c
 .have e:i=Ts.length:=by simp at hi;omega
  subst e;rw[dU (ay _),<-h.1,List.drop_left,bU (by omega)]
  simpa using k.2 w2 h2
def KS(w wr:World)(v:Value)(b:Nat):Prop:=w.heap.size<=b/\b<wr.heap.size/\v.ownBlock≠some b
theorem Items.push{R:World->List Value->α->Prop}{wr w1 w5:World}{v5:Value}{zs:List Value}{Ts:List α}{t:α}{X:Obj}(hit:Items R (KS w wr v) size xs Ts wr)(hE:Ext w wr)(hx:Ext wr w1)(ho:wr.ownsRow base e size v n zs)(hy:ys.length=size)
 (hn:nN (λb=>wr.heap.size<=b/\b<w1.heap.size) (λW=>R W ys t) w1) (hg:(w1.alloc X).grownBy w5 v.ownBlock) (hl:kR (w1.alloc X) v v5):Items R (KS w w5 v5) size (xs++ys) (Ts++[t]) w5:=by
 have z0:=hE.size;have z1:=hx.size;have z5:=hg.size;rw[eQ]at z5;have key:∀b,KS w w1 v b->KS w w5 v5 b:=λb hb=>⟨hb.1,by have:=hb.2.1;omega,λe=>by
  rcases hl with h|⟨q,h,h2⟩
  .exact hb.2.2 (by rw[<-h];exact e)
  .rw[h]at e;injection e with e;rw[eQ]at h2;have:=hb.2.1;omega⟩
 have h1:Items R (KS w w1 v) size (xs++ys) (Ts++[t]) w1:=
  Items.snoc ((hit.ext hx).mono (λb hb=>⟨hb.1,by have:=hb.2.1;omega,hb.2.2⟩) (λb hb=>hb.2.1)) hy (hn.mono (λb hb=>⟨by omega,hb.2,λe=>by have:=(ho.lt b e).2;omega⟩) (λb hb=>hb.2.1) (λ_ h=>h))
 exact((h1.ext (bS (Below.refl _ _) X)).keep (G:=λb=>v.ownBlock=some b) ⟨hg.os,hg.tape,hg.output,hg.size,λk hk hn=>hg.block k hk (λe=>hn e.symm)⟩ (λb hb=>hb.2.2)).mono key (λb hb=>hb.2.1)
def Rows{α:Type}(R:World->List Value->α->Prop)(size:Nat)(S:Nat->Prop)(w:World)(v:Value)(Ts:List α):Prop:=
 ∃xs a cap,v=.slice a Ts.length cap/\Ts.length<=cap/\cap<=maxLen/\Items R S size xs Ts w/\(0<Ts.length->∃b,a=some ⟨b,0,none⟩/\S b/\∀j,j<Ts.length*size->w.cell? ⟨b,j,none⟩=xs[j]?)
theorem Rows.keep{α:Type}{R:World->List Value->α->Prop}{S G:Nat->Prop}{size:Nat}{v:Value}{Ts:List α}{w w':World}(h:Rows R size S w v Ts)(hk:dX G w w')(hd:∀b,S b->¬G b):Rows R size S w' v Ts:=by
 obtain⟨xs,a,cap,rfl,h1,h2,h3,h4⟩:=h;refine⟨xs,a,cap,rfl,h1,h2,h3.keep hk hd,λh0=>?_⟩;obtain⟨b,rfl,hb,hc⟩:=h4 h0;exact⟨b,rfl,hb,λj hj=>by rw[World.cell?_of_block (w:=w) (hk.block b (h3.2.1 b hb) (hd b hb))];exact hc j hj⟩
theorem Rows.ext{R:World->List Value->α->Prop}{Ts:List α}(h:Rows R size S w v Ts)(hk:Ext w w'):Rows R size S w' v Ts:=h.keep (fq (F:=λ_=>False) hk) λ_ _=>id
theorem Rows.eD{R:World->List Value->α->Prop}{Ts:List α}(h:w.ownsRow base e size v n xs)(hn:n=Ts.length)(hi:Items R S size xs Ts w)(hS:∀b,S b->T b)(hv:∀b,v.ownBlock=some b->T b)(hT:∀b,T b->b<w.heap.size):Rows R size T w v Ts:=by
 subst hn;obtain⟨a,cap,rfl,h1,h2⟩:=bH h;refine⟨xs,a,cap,rfl,h1,h2,hi.mono hS hT,λh0=>?_⟩;obtain⟨g,cap',he,_,_,hc⟩:=gV h h0;simp only[Value.slice.injEq]at he;obtain⟨rfl,-,rfl⟩:=he;exact⟨g,rfl,hv g rfl,hc⟩
def pU(W:World)(ys:List Value)(F:dH):Prop:=∃aN cN,ys=[.slice aN F.length cN]/\fu W 0 (.slice aN F.length cN) F
theorem take_at{i m j:Nat}(h:(xs.drop i).take m=ys)(hj:j<m):xs[i+j]?=ys[j]?:=by rw[<-h,il,if_pos hj,ym]
theorem Rows.forms{Fs:List dH}(h:Rows pU 1 S w v Fs):Forms w v Fs:=by
 obtain⟨xs,a,cap,rfl,h1,h2,h3,h4⟩:=h;refine⟨a,cap,rfl,h1,by omega,λh0=>?_⟩;obtain⟨b,rfl,hb,hc⟩:=h4 h0;refine⟨b,rfl,λi hi=>?_⟩;obtain⟨aN,cN,e,hN⟩:=h3.2.out i hi;refine⟨aN,cN,?_,hN⟩;have k:=take_at e (j:=0) (by omega);rw[jZ]at k;rw[hc i (by omega)];exact k
end
section
open Go.RowKit
open Go.Maps (Keyed)
open Go.ChangeMaps (setBlock heap_setBlock_same heap_setBlock_other)
variable {f:Value->Option Value} {key val:Value} {w:World} {b n:Nat} {P:Program} {k e t:TypeId} {kl:Lit}
def upd(dq:∀a b:Value,Decidable (a=b))(f:Value->Option Value)(key val:Value):Value->Option Value:=λx=>match dq x key with | .isTrue _=>some val | .isFalse _=>f x
theorem upd_same{dq:∀a b:Value,Decidable (a=b)}(f:Value->Option Value)(key val:Value):upd dq f key val key=some val:=by
 unfold upd;cases dq key key with|isTrue _=>rfl|isFalse h=>exact absurd rfl h
theorem upd_ne{dq:∀a b:Value,Decidable (a=b)}{x:Value}(h:x≠key):upd dq f key val x=f x:=by
 unfold upd;cases dq x key with|isTrue e=>exact absurd e h|isFalse _=>rfl
def gz(P:Program)(k:TypeId)(w:World)(b n:Nat)(f:Value->Option Value):Prop:=
 ∃es clock,w.heap[b]?=some (.map es clock)/\es.size<=n/\(∀x∈es.toList,∃l,keyOf P k x.key=some l)/\(∀x∈es.toList,f x.key=some x.val)/\(∀key v,f key=some v->(∃x∈es.toList,x.key=key/\x.val=v))/\es.toList.Pairwise (λx y=>x.key≠y.key)
theorem gz.made(P:Program)(k:TypeId){c:Nat}(h:w.heap[b]?=some (.map #[] c)):gz P k w b 0 λ_=>none:=
 ⟨#[],c,h,ay _,by simp,by simp,(λ_ _ h=>by cases h),by simp⟩
theorem gz.lt(h:gz P k w b n f):b<w.heap.size:=by
 obtain⟨es,c,hb,_⟩:=h;exact(fB.1 hb).1
theorem gz.keep{w':World}(h:gz P k w b n f)(hb:w'.heap[b]?=w.heap[b]?):gz P k w' b n f:=by
 obtain⟨es,c,h1,h2⟩:=h;exact⟨es,c,hb.trans h1,h2⟩
theorem gz.mono{m:Nat}(h:gz P k w b n f)(hn:n<=m):gz P k w b m f:=by
 obtain⟨es,c,h1,h2,h3⟩:=h;exact⟨es,c,h1,by omega,h3⟩
theorem gz.look(h:gz P k w b n f)(K:Keyed P k)(ht:P.underlying t=some (.map k e)){z:Value}(hz:(zeroValue e).run P w=.ok z w)(hkey:keyOf P k key=some kl)(c:Bool):
 (Instr.lookup t (.map (some b)) key c).run P w=.ok (if c then .tuple #[(f key).getD z,.bool (f key).isSome]else(f key).getD z) w:=by
 obtain⟨es,clock,hb,_,hk,h1,h2,_⟩:=h;rcases K.find w hkey es.toList hk with⟨e1,e2⟩|⟨j,x,e1,e2,e3⟩
 .have hn:f key=none:=by
   cases hf:f key with
   |none=>rfl
   |some v=>obtain⟨x,hx,hxk,_⟩:=h2 key v hf;exact absurd hxk (e2 x hx)
  simp[Instr.lookup,run_underlying ht,MapKept.run_getObj_map hb,K.check w _ hkey,e1,hz,Result.andThen,hn]
 .have hm:x∈es.toList:=jr e2
  have hf:=h1 x hm;rw[e3]at hf;simp[Instr.lookup,run_underlying ht,MapKept.run_getObj_map hb,K.check w _ hkey,e1,Result.andThen,hf]
theorem gz.store(h:gz P k w b n f)(K:Keyed P k)(ht:P.underlying t=some (.map k e))(hn:n<maxLen)(hkey:keyOf P k key=some kl):
 ∃w',(Instr.mapUpdate t (.map (some b)) key val).run P w=.ok () w'/\gz P k w' b (n+1) (upd (λ_ _=>Classical.propDecidable _) f key val)/\w.grownBy w' (some b):=by
 obtain⟨es,clock,hb,hs,hk,h1,h2,h3⟩:=h;have hroom:es.size<maxLen:=by omega
 rcases K.find w hkey es.toList hk with⟨e1,e2⟩|⟨j,x,e1,e2,e3⟩
 .refine⟨setBlock w b (.map (es.push ⟨key,val,clock⟩) (clock+1)),?_,⟨es.push ⟨key,val,clock⟩,clock+1,heap_setBlock_same hb _,by simp;omega,λx hx=>?_,λx hx=>?_,λky v hv=>?_,?_⟩,⟨rfl,rfl,rfl,by simp[setBlock],λi _ hi=>heap_setBlock_other hb _ (λe=>hi (by rw[e]))⟩⟩
  .simp[Instr.mapUpdate,run_underlying ht,MapKept.run_getObj_map hb,K.check w false hkey,e1,MapKept.run_setObj_map _ hb,Result.andThen,setBlock]
  .simp only[Array.toList_push,bq,lC]at hx
   rcases hx with hx|rfl
   .exact hk x hx
   .exact⟨kl,hkey⟩
  .simp only[Array.toList_push,bq,lC]at hx
   rcases hx with hx|rfl
   .rw[upd_ne (e2 x hx)];exact h1 x hx
   .exact upd_same _ _ _
  .by_cases c:ky=key
   .subst c;rw[upd_same]at hv;injection hv with hv;subst hv
    exact⟨⟨_,_,clock⟩,by simp,rfl,rfl⟩
   .rw[upd_ne c]at hv
    obtain⟨x,hx,a,d⟩:=h2 ky v hv;exact⟨x,by simp only[Array.toList_push,bq];exact .inl hx,a,d⟩
  .rw[Array.toList_push,oo]
   exact⟨h3,by simp,λx hx y hy=>by simp only[lC]at hy;subst hy;exact e2 x hx⟩
 .have hjl:j<es.toList.length:=(cK.1 e2).1
  have hxe:es.toList[j]=x:=by rw[aa hjl]at e2;injection e2
  have hlist:(es.modify j (λe'=>{ e' with key:=key,val:=val })).toList=es.toList.set j { x with key:=key,val:=val }:=by
   apply l6;intro i;rw[iW,Array.getElem?_modify,eX,iW];by_cases c:j=i
   .subst c
    have:es[j]?=some x:=(by simpa using e2);simp[this];omega
   .simp[c]
  have hmem:∀y,y∈es.toList.set j { x with key:=key,val:=val }->(y.key=key/\y.val=val)\/(y∈es.toList/\y.key≠key):=by
   intro y hy;obtain⟨i,hi,rfl⟩:=aW.1 hy;rw[List.getElem_set];split
   .exact .inl ⟨rfl,rfl⟩
   .rename_i c
    rw[eO]at hi;refine .inr ⟨ai _,λe=>?_⟩;rcases fI i j with l|l
    .exact dx.1 h3 i j hi hjl l (by rw[hxe,e3];exact e)
    .exact dx.1 h3 j i hjl hi (by omega) (by rw[hxe,e3];exact e.symm)
  have afk:∀y,y∈es.toList->y.key≠key->y∈es.toList.set j { x with key:=key,val:=val }:=by
   intro y hy hne;obtain⟨i,hi,rfl⟩:=aW.1 hy;have c:j≠i:=λc=>by subst c;exact hne (by rw[hxe];exact e3)
   refine aW.2 ⟨i,by rw[eO];exact hi,?_⟩;rw[List.getElem_set_ne c]
  refine⟨setBlock w b (.map (es.modify j (λe'=>{ e' with key:=key,val:=val })) clock),?_,⟨es.modify j (λe'=>{ e' with key:=key,val:=val }),clock,heap_setBlock_same hb _,by simp;omega,?_,?_,?_,?_⟩,⟨rfl,rfl,rfl,by simp[setBlock],λi _ hi=>heap_setBlock_other hb _ (λe=>hi (by rw[e]))⟩⟩
  .have hj:es[j]?=some x:=by simpa using e2
   simp[Instr.mapUpdate,run_underlying ht,MapKept.run_getObj_map hb,K.check w false hkey,e1,hj,e3,K.stays w hkey,MapKept.run_setObj_map _ hb,Result.andThen,setBlock]
  .rw[hlist];intro y hy
   rcases hmem y hy with h|h
   .exact⟨kl,by rw[h.1];exact hkey⟩
   .exact hk y h.1
  .rw[hlist];intro y hy
   rcases hmem y hy with h|h
   .rw[h.1,h.2];exact upd_same _ _ _
   .rw[upd_ne h.2];exact h1 y h.1
  .rw[hlist];intro ky v hv
   by_cases c:ky=key
   .subst c;rw[upd_same]at hv;injection hv with hv;subst hv
    exact⟨_,aW.2 ⟨j,by rw[eO];exact hjl,rfl⟩,by rw[List.getElem_set_self],by rw[List.getElem_set_self]⟩
   .rw[upd_ne c]at hv
    obtain⟨y,hy,a,d⟩:=h2 ky v hv;exact⟨y,afk y hy (by rw[a];exact c),a,d⟩
  .rw[hlist,dx]
   intro a c ha hc hac;rw[eO]at ha hc;have hne:=dx.1 h3 a c ha hc hac;rw[List.getElem_set,List.getElem_set];by_cases d1:j=a
   .subst d1
    rw[if_pos rfl,if_neg (by omega)];rw[hxe,e3]at hne;exact hne
   .rw[if_neg d1]
    by_cases d2:j=c
    .subst d2
     rw[if_pos rfl];rw[hxe,e3]at hne;exact hne
    .rw[if_neg d2];exact hne
end
section
open Go.RowKit
open Go.Maps (Keyed)
theorem Dz:Keyed prog 9:=Go.Maps.string_keyed underlying9
theorem oG:Keyed prog 3:=Go.Maps.int_keyed underlying3
theorem aaw:laidOutB prog=true:=by kernel_rfl
theorem rowP:(183:TypeId)<(prog).types.size:=of_decide_eq_true (by kernel_rfl)
theorem abp:∃m,(prog).types.size=m+1:=by
 have h:=rowP
 revert h
 generalize (prog).types.size=q;intro h;cases q with
 |zero=>exact absurd h (Nat.not_lt_zero _)
 |succ m=>exact⟨m,rfl⟩
theorem MM:(prog).keyTypeAt 2 183=true:=by kernel_rfl
theorem Aw:Keyed prog 183:=Keyed.of_law (deep_law_laid aaw (m:=2) (by decide) rowP MM (by rw[underlying183]))
theorem Wo:(prog).cellsOf 183=2:=by kernel_rfl
theorem adj:(prog).cellsOf 3=1:=by kernel_rfl
theorem Us:(prog).keyType 183=true:=by kernel_rfl
theorem Ux{i:Nat}(h:i<1000000000):(Lit.int .i64 (i:Int)).wf=true:=by
 have h1:IntKind.min .i64=-9223372036854775808:=by rfl
 have h2:IntKind.max .i64=9223372036854775807:=by rfl
 simp only[Lit.wf,dK,decide_eq_true_eq,h1,h2];omega
theorem Ut(s:ByteArray)(h:s.size<=maxLen):∃l,keyOf prog 9 (.string s)=some l:=by
 exact⟨_,by simp[keyOf,underlying9,mapKey,h];rfl⟩
theorem qz(i:Nat)(h:i<1000000000):∃l,keyOf prog 3 (.int .i64 (i:Int))=some l:=
 ⟨_,Go.Maps.keyOf_int_mk underlying3 (Ux h)⟩
theorem OJ(d:Nat)(i:Nat)(h:i<1000000000):(prog).keyLits (d+1) 3 [.int .i64 (i:Int)]=some [.int .i64 (i:Int)]:=by
 simp[Program.keyLits,underlying3,Ux h]
theorem MN(a b:Nat)(ha:a<1000000000)(hb:b<1000000000):∃l,keyOf prog 183 (.agg #[.int .i64 (a:Int),.int .i64 (b:Int)])=some l:=by
 have hf:(Value.agg #[.int .i64 (a:Int),.int .i64 (b:Int)]).formed prog 183=true:=by simp[Value.formed,underlying183,Wo]
 obtain⟨m,hm⟩:=abp;have hl:(prog).keyLits (m+1+1) 183 [.int .i64 (a:Int),.int .i64 (b:Int)]=some [.int .i64 (a:Int),.int .i64 (b:Int)]:=by
  unfold Program.keyLits;simp only[underlying183,Wo,adj,fQ,List.length_nil];simp[List.range,List.range.loop,OJ m a ha,OJ m b hb]
 exact⟨_,by simp only[keyOf,underlying183,hf,Us,Value.cells,hm,hl];rfl⟩
section
variable {P:Program} {w:World} {ops:Array Oper} {rest:List Oper} {o:Oper} {a:Act} {Q:Exit->Act->World->Prop}
theorem xe(hg:o.guard=none)(m x:Operand)(t:TypeId)(c:Bool)(hop:o.op=Op.lookup t m x c)(k e:TypeId)(K:Keyed P k)(ht:P.underlying t=some (.map k e))(z:Value)(hz:(zeroValue e).run P w=.ok z w)(b n:Nat)(f:Value->Option Value)
 (hm:a.eval m=.map (some b)) (h:gz P k w b n f) (key:Value) (hx:a.eval x=key) (hkey:∃kl,keyOf P k key=some kl)
 (hK:wpList P ops Q rest (a.put o.dst (if c then .tuple #[(f key).getD z,.bool (f key).isSome]else(f key).getD z)) w):wpList P ops Q (o :: rest) a w:=by
 refine wpList_plain hg λK' hK'=>?_
 obtain⟨kl,hkl⟩:=hkey;have hrun:=h.look K ht hz hkl c;unfold Oper.wp;simp[execOp,hop,hm,hx,hrun,Result.andThen];exact hK' _ _ (by simpa using hK)
theorem iK(hg:o.guard=none)(m x v:Operand)(t:TypeId)(hop:o.op=Op.mapUpdate t m x v)(k e:TypeId)(K:Keyed P k)(ht:P.underlying t=some (.map k e))(b n:Nat)(f:Value->Option Value)
 (hm:a.eval m=.map (some b)) (h:gz P k w b n f) (hn:n<maxLen) (key val:Value) (hx:a.eval x=key) (hv:a.eval v=val) (hkey:∃kl,keyOf P k key=some kl)
 (hK:∀w',gz P k w' b (n+1) (upd (λ_ _=>Classical.propDecidable _) f key val)->w.grownBy w' (some b)->wpList P ops Q rest (a.put o.dst undef) w'):wpList P ops Q (o :: rest) a w:=by
 refine wpList_plain hg λK' hK'=>?_
 obtain⟨kl,hkl⟩:=hkey;obtain⟨w',hrun,r1,r2⟩:=h.store K ht hn hkl (val:=val);unfold Oper.wp;simp[execOp,hop,hm,hx,hv,hrun,Result.andThen];exact hK' _ _ (hK w' r1 r2)
end
theorem gz.room{P:Program}{k:TypeId}{w:World}{b n:Nat}{f:Value->Option Value}(h:gz P k w b n f)(L:List Value)(hL:∀key v,f key=some v->key∈L):gz P k w b L.length f:=by
 obtain⟨es,c,h1,h2,h3,h4,h5,h6⟩:=h;refine⟨es,c,h1,?_,h3,h4,h5,h6⟩;have hn:(es.toList.map (·.key)).Nodup:=by rw[List.Nodup,jh];exact h6
 have hs:∀x,x∈es.toList.map (·.key)->x∈L:=λx hx=>by
  obtain⟨y,hy,rfl⟩:=aH.1 hx;exact hL _ _ (h4 y hy)
 have:=hn.length_le_of_subset hs
 simpa using this
end
section
open Go.RowKit
open bO (fw GB fD Cs pq iM wS rD pK can fr)
variable {ss:List ByteArray} {hh ww r k B i:Nat} {left:Bool} {b:fw} {w w1 wr:World} {v ov:Value} {sl:Nat->Value} {cl:Cl} {xs:List Value} {bs:List fw}
def uM(W:World)(ys:List Value)(b:fw):Prop:=∃a c ss,ys=[.slice a (List.length ss) c]/\Strs W (.slice a (List.length ss) c) ss/\bd ss=b
theorem Ty(r:List Bool)(c:Nat):tJ (r.set c false)=(tJ r).set c 35:=by unfold tJ;rw[oq];rfl
theorem KZ(cl:Cl)(r:Nat):(jE cl).getD r []=tJ (cl.getD r []):=by
 unfold jE;rw[aj,aj,dm];cases cl[r]? <;> rfl
theorem BQ(cl:Cl)(r c:Nat):jE (pG cl r c false)=bO.mH (jE cl) r c:=by
 unfold bO.mH;rw[KZ,<-Ty];unfold jE pG;rw[oq]
theorem Il(g:GB (bd ss) hh ww):jE (gK ss)=bd ss:=by
 unfold jE gK bd;rw[gM];apply df;intro s hs;simp only[Function.comp_def,xD,tJ,gM];have:=(g.row (ll s) (aH.2 ⟨s,hs,rfl⟩)).2
 conv=>rhs;rw[<-List.map_id (ll s)]
 apply df;intro c hc;rcases this c hc with e|e <;> rw[e] <;> rfl
theorem Qn(g:GB (bd ss) hh ww)(left:Bool)(i k:Nat):jE (pG (pG (gK ss) i k false) (rD left i) (pK left k) false)=wS left (bd ss) i k:=by
 rw[BQ,BQ,Il g];rfl
theorem Rh(ss:List ByteArray)(s:Sz (gK ss) hh ww)(left:Bool)(i k:Nat):can left (fr (bd ss)) i k=(jk (gK ss) i k && EK (gK ss) hh ww (rD left i:Nat) (pK left k:Nat)):=by
 rw[<-Hr,jy,bO.iZ,dK];unfold EK;simp only[dK,decide_eq_true_eq,dP];constructor
 .rintro⟨h1,h2⟩
  have:=uj s h2;exact⟨h1,⟨by omega,by omega⟩,h2⟩
 .rintro⟨h1,_,h2⟩
  exact⟨h1,h2⟩
theorem wY(h:can left (fr b) r k=false):pq left b r (k+1)=pq left b r k:=by rw[bO.FP,h];simp
theorem Du(h:can left (fr b) r k=true):pq left b r (k+1)=pq left b r k++[wS left b r k]:=by rw[bO.FP,h];simp
theorem tZ:(prog.info? 31).map (λi=>(i.zero,i.size,i.bytes))=some (some (.agg #[.slice none 0 0]),1,24):=by kernel_rfl
def IB(left:Bool)(b:fw)(hh ww:Nat)(w:World)(e:Ending)(w':World):Prop:=
 ∃v,e=.returned v/\Rows uM 1 (λb=>w.heap.size<=b/\b<w'.heap.size) w' v (iM left b ww hh)/\Ext w w'
theorem Gr.mark(h:Gr w B v sl cl)(s:Sz cl hh ww){g c:Nat}(hi:i<hh)(hk:k<ww)(e:sl i=.slice (some ⟨g,0,none⟩) ww c)(x:Bool):
 Gr (w.setCell ⟨g,k,none⟩ (.bool x)) B v sl (pG cl i k x)/\Sz (pG cl i k x) hh ww/\B<=g:=by
 have hi':i<cl.length:=by have:=s.hgt;omega
 have hw:=s.at hi';exact⟨h.set hi' (by rw[hw];exact hk) (by rw[e,hw]) x,s.set i k x,(h.lt (.inr ⟨i,hi',by rw[e];rfl⟩)).1⟩
theorem Gr.at2(h:Gr w B v sl cl)(s:Sz cl hh ww)(hi:i<hh)(hk:k<ww):
 ∃gt ct g c,v=.slice (some ⟨gt,0,none⟩) hh ct/\sl i=.slice (some ⟨g,0,none⟩) ww c/\w.cell? ⟨gt,i,none⟩=some (.slice (some ⟨g,0,none⟩) ww c)/\w.cell? ⟨g,k,none⟩=some (.bool (jk cl i k))/\w.frozen? ⟨g,k,none⟩=false:=by
 have hi':i<cl.length:=by have:=s.hgt;omega
 have hw:=s.at hi';obtain⟨gt,ct,et,htop⟩:=h.top hi';obtain⟨g,c,eg,hb,hf⟩:=h.cell hi' (show k<cl[i].length by omega);rw[s.hgt]at et;rw[hw]at eg;rw[eg]at htop;exact⟨gt,ct,g,c,et,eg,htop,by rw[hb,Ht hi' (by omega)],hf⟩
theorem Gr.rowAt(h:Gr w B v sl cl)(s:Sz cl hh ww)(hi:i<hh):
 ∃gt ct a c,v=.slice (some ⟨gt,0,none⟩) hh ct/\sl i=.slice a ww c/\w.cell? ⟨gt,i,none⟩=some (.slice a ww c):=by
 have hi':i<cl.length:=by have:=s.hgt;omega
 have hw:=s.at hi';obtain⟨gt,ct,et,htop⟩:=h.top hi';obtain⟨a,c,er,-⟩:=h.Yk hi';rw[s.hgt]at et;rw[hw]at er;rw[er]at htop;exact⟨gt,ct,a,c,et,er,htop⟩
structure LG(w w1 wr:World)(ov:Value)(xs:List Value)(bs:List fw):Prop where
 keep:dX (λb=>b=w.heap.size+1) w1 wr
 own:wr.ownsRow (w.heap.size+1) 31 1 ov bs.length xs
 sep:∀b,ov.ownBlock=some b->b=w.heap.size+1\/w1.heap.size<=b
 it:Items uM (KS w wr ov) 1 xs bs wr
theorem LG.ext(m:LG w w1 wr ov xs bs)(hx:Ext w w1):Ext w wr:=jw hx m.keep λx h=>by omega
theorem LG.grid(m:LG w w1 wr ov xs bs)(h:Gr w1 B v sl cl)(hB:w.heap.size+2<=B):Gr wr B v sl cl:=
 h.keep m.keep λb hb e=>by have:=(h.lt hb).1;omega
theorem LG.push{w w1 wr w4 w5:World}{ov v' v5:Value}{xs:List Value}{bs:List fw}{ss':List ByteArray}{y:fw}{X:Obj}(m:LG w w1 wr ov xs bs)(hx1:Ext w w1)(hx:Ext wr w4)
 (hr:w4.ownsRow wr.heap.size 9 1 v' ss'.length (ss'.map Value.string)) (hy:bd ss'=y) (h8:ss'.length<=8)
 (ho:w5.ownsRow (w.heap.size+1) 31 1 v5 (bs.length+1) (xs++[v'])) (hg:(w4.alloc X).grownBy w5 ov.ownBlock) (hl:kR (w4.alloc X) ov v5):LG w w1 w5 v5 (xs++[v']) (bs++[y]):=by
 have hz:(w4.alloc X).heap.size=w4.heap.size+1:=eQ _ _;have z1:=m.keep.size;have z4:=hx.size;obtain⟨a,c,rfl,-,-⟩:=bH hr;refine⟨?_,by rw[aK];exact ho,λb hb=>?_,Items.push m.it (m.ext hx1) hx m.own rfl ⟨λb hb=>hb.2,λW hW=>⟨a,c,ss',rfl,?_,hy⟩⟩ hg hl⟩
 .have hk:dX (λb=>ov.ownBlock=some b) wr w5:=⟨hg.os.trans hx.os,hg.tape.trans hx.tape,hg.output.trans hx.output,by have:=hg.size;omega,λb hb hn=>by
   rw[hg.block b (by omega) (λe=>hn e.symm),Below.heap_alloc _ _ _ (by omega),hx.block b hb]⟩
  exact m.keep.trans hk λb hb e=>by rcases m.sep b e with k|k;exact k;omega
 .rcases hl with e|⟨q,e,k⟩
  .exact m.sep b (by rw[<-e];exact hb)
  .rw[e]at hb;injection hb with hb;exact .inr (by omega)
 .have:Strs w4 (.slice a ss'.length c) ss':=Strs.eD hr (by omega)
  exact lN.keep this λb _ hb=>hW b ⟨(hr.lt b hb).1,(hr.lt b hb).2⟩
theorem LG.drewN{w w1 wr:World}{ov:Value}{xs:List Value}{bs:List fw}(m:LG w w1 wr ov xs bs)(n:Nat):LG w w1 (wr.drewN n) ov xs bs:=
 ⟨⟨m.keep.os,m.keep.tape,m.keep.output,m.keep.size,m.keep.block⟩,own_drewN m.own n,m.sep,(m.it.ext (fA (Below.refl _ _) n)).mono (λ_ h=>h) λ_ h=>h.2.1⟩
end
section
open Go.RowKit
open bO (fw GB fD)
variable {i:Nat} {v:Value}
theorem CV{xs:List Value}(h:(xs.drop (i*1)).take 1=[v]):xs[i]?=some v:=by
 have k:=take_at h (j:=0) (by omega);rw[jZ]at k;exact k
theorem NJ{a b:List ByteArray}(h:bd a=bd b):a=b:=by
 unfold bd at h;refine(List.map_inj_right (f:=ll) λx y e=>?_).1 h;cases x;cases y;simp only[ll]at e;rw[ByteArray.mk.injEq];exact Array.toList_inj.1 e
theorem Rows.Ad{S:Nat->Prop}{w:World}{Ts:List fw}(h:Rows uM 1 S w v Ts)(hi:i<Ts.length):
 ∃b cap a c ss,v=.slice (some ⟨b,0,none⟩) Ts.length cap/\S b/\w.cell? ⟨b,i,none⟩=some (.slice a (List.length ss) c)/\bd ss=Ts[i]/\nN S (λW=>Strs W (.slice a (List.length ss) c) ss) w:=by
 obtain⟨xs,a,cap,rfl,h1,h2,h3,h4⟩:=h;obtain⟨b,rfl,hb,hc⟩:=h4 (by omega);obtain⟨a,c,ss,e,hN,hbd⟩:=h3.2.out i hi;refine⟨b,cap,a,c,ss,rfl,hb,by rw[hc _ (by omega)];exact CV e,hbd,h3.2.1,λw2 h2=>?_⟩;obtain⟨a',c',ss',e',hN',QX⟩:=h3.2.2 w2 h2 i hi;rw[e]at e';simp only[jQ,Value.slice.injEq,and_true]at e';obtain⟨rfl,-,rfl⟩:=e';have:ss'=ss:=NJ (QX.trans hbd.symm);subst this;exact hN'
end
end Go.Proofs.YteknjeohbcgpdaaGreatDoor