/- 15 -/
import Derived.Test.YtplgooajigigkaaGreatDoorK14
import Derived.WideMake
set_option maxRecDepth 100000
set_option maxHeartbeats 4000000
namespace Go.Proofs.YtplgooajigigkaaGreatDoor
open Tryz
section
open Go.RowKit
open bE (dh Nd vl Same)
variable {k:Nat}
theorem Hz{l:List Nat}(ha:bE.Asc l)(hl:∀x,x∈l->x<k):rises (dB l) 0 ((k:Int)-1)=true:=by
 rw[yM];intro j hj;rw[bG]at hj;rw[iA hj];have h1:=hl _ (ai hj);refine⟨by omega,by omega,λh0=>?_⟩;rw[iA (by omega)];have:=dx.1 ha (j-1) j (by omega) hj (by omega);omega
theorem NM{F:dh}(hF:bE.Good F)(hk:k<F.length):rises (dB (F[k]).1) 0 ((k:Int)-1)=true/\rises (dB (F[k]).2) 0 ((k:Int)-1)=true:=by
 have h:=hF.xD _ (ai hk);have hw:=hF.wf k _ (af hk);exact⟨Hz h.1 hw.1,Hz h.2 hw.2⟩
end
section
open Go.RowKit
open bE (dh Nd vl Same)
variable {Fs:List dh} {i:Nat} {D:dh}
def Forms(w:World)(v:Value)(Fs:List dh):Prop:=∃a cap,v=.slice a Fs.length cap/\Fs.length<=cap/\Fs.length<=maxLen/\
 (0<Fs.length->∃b,a=some ⟨b,0,none⟩/\∀i (h:i<Fs.length),∃aN cN,w.cell? ⟨b,i,none⟩=some (.slice aN (Fs[i]).length cN)/\dI w 0 (.slice aN (Fs[i]).length cN) Fs[i])
theorem Forms.ext{w w':World}{v:Value}{Fs:List dh}(h:Forms w v Fs)(hx:Ext w w'):Forms w' v Fs:=by
 obtain⟨a,cap,rfl,h1,h2,h3⟩:=h;refine⟨a,cap,rfl,h1,h2,λh0=>?_⟩;obtain⟨b,rfl,hc⟩:=h3 h0;refine⟨b,rfl,λi hi=>?_⟩;obtain⟨aN,cN,c1,c2⟩:=hc i hi;exact⟨aN,cN,fw hx c1,c2.ext hx⟩
theorem Forms.at{w:World}{v:Value}(h:Forms w v Fs)(hi:i<Fs.length):
 ∃b cap aN cN,v=.slice (some ⟨b,0,none⟩) Fs.length cap/\Fs.length<=cap/\w.cell? ⟨b,i,none⟩=some (.slice aN (Fs[i]).length cN)/\dI w 0 (.slice aN (Fs[i]).length cN) Fs[i]:=by
 obtain⟨a,cap,rfl,h1,h2,h3⟩:=h;obtain⟨b,rfl,hc⟩:=h3 (by omega);obtain⟨aN,cN,c1,c2⟩:=hc i hi;exact⟨b,cap,aN,cN,rfl,h1,c1,c2⟩
def sizes(Fs:List dh):Nat:=(Fs.map List.length).sum
theorem wH{k:Nat}(h:k<Fs.length):sizes (Fs.take (k+1))=sizes (Fs.take k)+(Fs[k]).length:=by
 rw[bJ h,sizes,dw,List.sum_append];simp[sizes]
theorem KN(Fs:List dh)(k:Nat):sizes (Fs.take k)<=sizes Fs:=by
 conv=>rhs;rw[<-kX k Fs]
 rw[sizes,sizes,dw,List.sum_append];omega
theorem Rp{F':dh}{root:Nat}(g:bE.Good D)(hr:root<D.length)(hF:bE.bI F')(hs:Same (bE.bz F') (vl D root)):F'.length<=D.length:=by
 have h:=Aj (at_:=List.range D.length) g hr hF hs (dz.2 hr) (λj side x hj hx=>dz.2 (by have:=lU g.wf hx;have:=dz.1 hj;omega))
 simpa using h
theorem Sg{D':dh}{ls rs:List Nat}{Ls Rs:List dh}(g:bE.WF D)(g':bE.WF D')(hl:ls.length=Ls.length)(hr:rs.length=Rs.length)(sl:∀j (h:j<ls.length),ls[j]<D.length/\Same (vl D ls[j]) (bE.bz (Ls.getD j [])))(sr:∀j (h:j<rs.length),rs[j]<D.length/\Same (vl D rs[j]) (bE.bz (Rs.getD j [])))
 (hp:jN D ls rs D' i):Same (vl D' i) (.mk (Ls.map bE.bz) (Rs.map bE.bz)):=by
 have key:∀{ls:List Nat} {Ls:List dh},ls.length=Ls.length->(∀j (h:j<ls.length),ls[j]<D.length/\Same (vl D ls[j]) (bE.bz (Ls.getD j [])))->
  (∀y,y∈(bO ls).map (vl D')->∃z,z∈Ls.map bE.bz/\Same y z)/\(∀z,z∈Ls.map bE.bz->∃y,y∈(bO ls).map (vl D')/\Same y z):=by
  intro ls Ls he hs;refine⟨λy hy=>?_,λz hz=>?_⟩
  .obtain⟨x,hx,rfl⟩:=az.1 hy
   obtain⟨j,hj,rfl⟩:=aQ.1 (cz.1 hx);obtain⟨h1,h2⟩:=hs j hj;refine⟨_,aV (ai (l:=Ls) (n:=j) (by omega)),?_⟩;rw[hp.vl g g' h1];rw[bD,af (by omega),kI]at h2;exact h2
  .obtain⟨F,hF,rfl⟩:=az.1 hz
   obtain⟨j,hj,rfl⟩:=aQ.1 hF;obtain⟨h1,h2⟩:=hs j (by omega);refine⟨_,aV (cz.2 (ai (by omega:j<ls.length))),?_⟩;rw[hp.vl g g' h1];rw[bD,af hj,kI]at h2;exact h2
 obtain⟨a,b⟩:=key hl sl;obtain⟨c,d⟩:=key hr sr;rw[bE.same_iff,bE.lI g' hp.1,bE.lH g' hp.1];exact⟨a,b,c,d⟩
end
section
open Go.RowKit
open bE (dh Nd vl Same)
variable {S T:Nat->Prop} {A:World->Prop} {w w':World} {v:Value} {base size:Nat} {α:Type} {xs ys:List Value}
def oN(S:Nat->Prop)(A:World->Prop)(w:World):Prop:=(∀b,S b->b<w.heap.size)/\∀w',(∀b,S b->w'.heap[b]?=w.heap[b]?)->A w'
theorem oN.out(h:oN S A w):A w:=h.2 w λ_ _=>rfl
theorem oN.keep{G:Nat->Prop}(h:oN S A w)(hk:fJ G w w')(hd:∀b,S b->¬G b):oN S A w':=
 ⟨λb hb=>bg (h.1 b hb) hk.size,λw2 h2=>h.2 w2 λb hb=>(h2 b hb).trans (hk.block b (h.1 b hb) (hd b hb))⟩
theorem oN.ext(h:oN S A w)(hk:Ext w w'):oN S A w':=h.keep (jR (F:=λ_=>False) hk) λ_ _=>id
theorem oN.mono{B:World->Prop}(h:oN S A w)(hS:∀b,S b->T b)(hT:∀b,T b->b<w.heap.size)(hA:∀W,A W->B W):oN T B w:=
 ⟨hT,λw2 h2=>hA _ (h.2 w2 λb hb=>h2 b (hS b hb))⟩
theorem Ints.sup{l:List Int}(h:Ints w v l)(hS:∀b,S b->b<w.heap.size)(hv:∀b,v.ownBlock=some b->S b):oN S (λW=>Ints W v l) w:=
 ⟨hS,λ_ h2=>h.keep λb _ hb=>h2 b (hv b hb)⟩
theorem dI.sup{F:dh}(h:dI w base v F)(hS:∀b,S b->b<w.heap.size)(hv:∀b,base<=b->b<w.heap.size->S b):oN S (λW=>dI W 0 v F) w:=by
 refine⟨hS,λw2 h2=>?_⟩;obtain⟨a,cap,rfl,h1,h3,h4⟩:=h;refine⟨a,cap,rfl,h1,h3,λh0=>?_⟩;obtain⟨b,rfl,hb,hc⟩:=h4 h0;refine⟨b,rfl,aU _,λi hi=>?_⟩;obtain⟨L,R,c1,c2,c3,c4,c5,c6⟩:=hc i hi;have e:=h2 b (hv b hb (lt_of_cell c1));have key:∀{v:Value} {l:List Int},Ints w v l->(∀b,v.ownBlock=some b->base<=b/\b<w.heap.size)->Ints w2 v l/\∀b,v.ownBlock=some b->l≠[]->b<w2.heap.size:=λhI hb=>by
  have k:=hI.keep (w':=w2) λb _ he=>h2 b (hv b (hb b he).1 (hb b he).2)
  exact⟨k,λb he hl=>k.blk hl he⟩
 have hlt:∀b,base<=b/\b<w.heap.size->b<w2.heap.size:=λb hb=>by
  have:=h2 b (hv b hb.1 hb.2);rw[p9 hb.2]at this;exact(iV.1 this).1
 exact⟨L,R,by rw[mP (w:=w) e];exact c1,by rw[mP (w:=w) e];exact c2,(key c3 c5).1,(key c4 c6).1,λb hb=>⟨aU _,hlt b (c5 b hb)⟩,λb hb=>⟨aU _,hlt b (c6 b hb)⟩⟩
def Items{α:Type}(R:World->List Value->α->Prop)(S:Nat->Prop)(size:Nat)(xs:List Value)(Ts:List α)(w:World):Prop:=
 xs.length=Ts.length*size/\oN S (λW=>∀i (h:i<Ts.length),R W ((xs.drop (i*size)).take size) Ts[i]) w
theorem Items.nil{R:World->List Value->α->Prop}(hS:∀b,S b->b<w.heap.size):Items R S size [] [] w:=
 ⟨by simp,hS,λ_ _ i h=>absurd h (by simp)⟩
theorem Items.keep{α:Type}{R:World->List Value->α->Prop}{S G:Nat->Prop}{size:Nat}{xs:List Value}{Ts:List α}{w w':World}(h:Items R S size xs Ts w)(hk:fJ G w w')(hd:∀b,S b->¬G b):Items R S size xs Ts w':=⟨h.1,h.2.keep hk hd⟩
theorem Items.ext{α:Type}{R:World->List Value->α->Prop}{S:Nat->Prop}{size:Nat}{xs:List Value}{Ts:List α}{w w':World}(h:Items R S size xs Ts w)(hk:Ext w w'):Items R S size xs Ts w':=⟨h.1,h.2.ext hk⟩
theorem Items.mono{α:Type}{R:World->List Value->α->Prop}{S T:Nat->Prop}{size:Nat}{xs:List Value}{Ts:List α}{w:World}(h:Items R S size xs Ts w)(hS:∀b,S b->T b)(hT:∀b,T b->b<w.heap.size):Items R T size xs Ts w:=
 ⟨h.1,h.2.mono hS hT λ_ h=>h⟩
theorem Items.snoc{R:World->List Value->α->Prop}{Ts:List α}{t:α}(h:Items R S size xs Ts w)(hy:ys.length=size)(k:oN S (λW=>R W ys t) w):Items R S size (xs++ys) (Ts++[t]) w:=by
 refine⟨by simp[h.1,hy,rW],h.2.1,λw2 h2 i hi=>?_⟩;by_cases c:i<Ts.length
 .rw[dM c]
  have hm:i*size+size<=Ts.length*size:=by rw[<-Nat.succ_mul];exact jC _ c
  rw[List.drop_append_of_le_length (by rw[h.1];omega),List.take_append_of_le_length (by rw[xH,h.1];omega)];exact h.2.2 w2 h2 i c
 .have e:i=Ts.length:=by simp at hi;omega
  subst e;rw[eQ (aJ _),<-h.1,List.drop_left,dJ (by omega)]
  simpa using k.2 w2 h2
def KS(w wr:World)(v:Value)(b:Nat):Prop:=w.heap.size<=b/\b<wr.heap.size/\v.ownBlock≠some b
def Rows{α:Type}(R:World->List Value->α->Prop)(size:Nat)(S:Nat->Prop)(w:World)(v:Value)(Ts:List α):Prop:=
 ∃xs a cap,v=.slice a Ts.length cap/\Ts.length<=cap/\cap<=maxLen/\Items R S size xs Ts w/\(0<Ts.length->∃b,a=some ⟨b,0,none⟩/\S b/\∀j,j<Ts.length*size->w.cell? ⟨b,j,none⟩=xs[j]?)
theorem Rows.keep{α:Type}{R:World->List Value->α->Prop}{S G:Nat->Prop}{size:Nat}{v:Value}{Ts:List α}{w w':World}(h:Rows R size S w v Ts)(hk:fJ G w w')(hd:∀b,S b->¬G b):Rows R size S w' v Ts:=by
 obtain⟨xs,a,cap,rfl,h1,h2,h3,h4⟩:=h;refine⟨xs,a,cap,rfl,h1,h2,h3.keep hk hd,λh0=>?_⟩;obtain⟨b,rfl,hb,hc⟩:=h4 h0;exact⟨b,rfl,hb,λj hj=>by rw[mP (w:=w) (hk.block b (h3.2.1 b hb) (hd b hb))];exact hc j hj⟩
theorem Rows.gm{R:World->List Value->α->Prop}{e n:Nat}{Ts:List α}(h:w.ownsRow base e size v n xs)(hn:n=Ts.length)(hi:Items R S size xs Ts w)(hS:∀b,S b->T b)(hv:∀b,v.ownBlock=some b->T b)(hT:∀b,T b->b<w.heap.size):Rows R size T w v Ts:=by
 subst hn;obtain⟨a,cap,rfl,h1,h2⟩:=bT h;refine⟨xs,a,cap,rfl,h1,h2,hi.mono hS hT,λh0=>?_⟩;obtain⟨g,cap',he,_,_,hc⟩:=iy h h0;simp only[il]at he;obtain⟨rfl,-,rfl⟩:=he;exact⟨g,rfl,hv g rfl,hc⟩
def Nb(W:World)(ys:List Value)(F:dh):Prop:=∃aN cN,ys=[.slice aN F.length cN]/\dI W 0 (.slice aN F.length cN) F
theorem take_at{i m j:Nat}(h:(xs.drop i).take m=ys)(hj:j<m):xs[i+j]?=ys[j]?:=by rw[<-h,pF,if_pos hj,List.getElem?_drop]
theorem Rows.forms{Fs:List dh}(h:Rows Nb 1 S w v Fs):Forms w v Fs:=by
 obtain⟨xs,a,cap,rfl,h1,h2,h3,h4⟩:=h;refine⟨a,cap,rfl,h1,by omega,λh0=>?_⟩;obtain⟨b,rfl,hb,hc⟩:=h4 h0;refine⟨b,rfl,λi hi=>?_⟩;obtain⟨aN,cN,e,hN⟩:=h3.2.out i hi;refine⟨aN,cN,?_,hN⟩;have k:=take_at e (j:=0) (by omega);rw[kT]at k;rw[hc i (by omega)];exact k
end
section
open Go.RowKit
open Go.Maps (Keyed)
open Go.ChangeMaps (setBlock heap_setBlock_same heap_setBlock_other)
variable {f:Value->Option Value} {key val:Value} {w:World} {b n:Nat} {P:Program} {k e t:TypeId} {kl:Lit}
def upd(dq:∀a b:Value,Decidable (a=b))(f:Value->Option Value)(key val:Value):Value->Option Value:=λx=>match dq x key with | .isTrue _=>some val | .isFalse _=>f x
theorem upd_same{dq:∀a b:Value,Decidable (a=b)}(f:Value->Option Value)(key val:Value):upd dq f key val key=some val:=by
 unfold upd;cases dq key key with|isTrue _=>rfl|isFalse h=>exact absurd rfl h
theorem upd_ne{dq:∀a b:Value,Decidable (a=b)}{x:Value}(h:x≠key):upd dq f key val x=f x:=by
 unfold upd;cases dq x key with|isTrue e=>exact absurd e h|isFalse _=>rfl
def jb(P:Program)(k:TypeId)(w:World)(b n:Nat)(f:Value->Option Value):Prop:=
 ∃es clock,w.heap[b]?=some (.map es clock)/\es.size<=n/\(∀x∈es.toList,∃l,keyOf P k x.key=some l)/\(∀x∈es.toList,f x.key=some x.val)/\(∀key v,f key=some v->(∃x∈es.toList,x.key=key/\x.val=v))/\es.toList.Pairwise (λx y=>x.key≠y.key)
theorem jb.made(P:Program)(k:TypeId){c:Nat}(h:w.heap[b]?=some (.map #[] c)):jb P k w b 0 λ_=>none:=
 ⟨#[],c,h,aJ _,by simp,by simp,(λ_ _ h=>by cases h),by simp⟩
theorem jb.lt(h:jb P k w b n f):b<w.heap.size:=by
 obtain⟨es,c,hb,_⟩:=h;exact(iV.1 hb).1
theorem jb.keep{w':World}(h:jb P k w b n f)(hb:w'.heap[b]?=w.heap[b]?):jb P k w' b n f:=by
 obtain⟨es,c,h1,h2⟩:=h;exact⟨es,c,hb.trans h1,h2⟩
theorem jb.mono{m:Nat}(h:jb P k w b n f)(hn:n<=m):jb P k w b m f:=by
 obtain⟨es,c,h1,h2,h3⟩:=h;exact⟨es,c,h1,by omega,h3⟩
theorem jb.look(h:jb P k w b n f)(K:Keyed P k)(ht:P.underlying t=some (.map k e)){z:Value}(hz:(zeroValue e).run P w=.ok z w)(hkey:keyOf P k key=some kl)(c:Bool):
 (Instr.lookup t (.map (some b)) key c).run P w=.ok (if c then .tuple #[(f key).getD z,.bool (f key).isSome]else(f key).getD z) w:=by
 obtain⟨es,clock,hb,_,hk,h1,h2,_⟩:=h;rcases K.find w hkey es.toList hk with⟨e1,e2⟩|⟨j,x,e1,e2,e3⟩
 .have hn:f key=none:=by
   cases hf:f key with
   |none=>rfl
   |some v=>obtain⟨x,hx,hxk,_⟩:=h2 key v hf;exact absurd hxk (e2 x hx)
  simp[Instr.lookup,run_underlying ht,MapKept.run_getObj_map hb,K.check w _ hkey,e1,hz,Result.andThen,hn]
 .have hm:x∈es.toList:=nz e2
  have hf:=h1 x hm;rw[e3]at hf;simp[Instr.lookup,run_underlying ht,MapKept.run_getObj_map hb,K.check w _ hkey,e1,Result.andThen,hf]
theorem jb.store(h:jb P k w b n f)(K:Keyed P k)(ht:P.underlying t=some (.map k e))(hn:n<maxLen)(hkey:keyOf P k key=some kl):
 ∃w',(Instr.mapUpdate t (.map (some b)) key val).run P w=.ok () w'/\jb P k w' b (n+1) (upd (λ_ _=>Classical.propDecidable _) f key val)/\w.grownBy w' (some b):=by
 obtain⟨es,clock,hb,hs,hk,h1,h2,h3⟩:=h;have hroom:es.size<maxLen:=by omega
 rcases K.find w hkey es.toList hk with⟨e1,e2⟩|⟨j,x,e1,e2,e3⟩
 .refine⟨setBlock w b (.map (es.push ⟨key,val,clock⟩) (clock+1)),?_,⟨es.push ⟨key,val,clock⟩,clock+1,heap_setBlock_same hb _,by simp;omega,λx hx=>?_,λx hx=>?_,λky v hv=>?_,?_⟩,⟨rfl,rfl,rfl,by simp[setBlock],λi _ hi=>heap_setBlock_other hb _ (λe=>hi (by rw[e]))⟩⟩
  .simp[Instr.mapUpdate,run_underlying ht,MapKept.run_getObj_map hb,K.check w false hkey,e1,MapKept.run_setObj_map _ hb,Result.andThen,setBlock]
  .simp only[Array.toList_push,bq,eT]at hx
   rcases hx with hx|rfl
   .exact hk x hx
   .exact⟨kl,hkey⟩
  .simp only[Array.toList_push,bq,eT]at hx
   rcases hx with hx|rfl
   .rw[upd_ne (e2 x hx)];exact h1 x hx
   .exact upd_same _ _ _
  .by_cases c:ky=key
   .subst c;rw[upd_same]at hv;injection hv with hv;subst hv
    exact⟨⟨_,_,clock⟩,by simp,rfl,rfl⟩
   .rw[upd_ne c]at hv
    obtain⟨x,hx,a,d⟩:=h2 ky v hv;exact⟨x,by simp only[Array.toList_push,bq];exact .inl hx,a,d⟩
  .rw[Array.toList_push,vY]
   exact⟨h3,by simp,λx hx y hy=>by simp only[eT]at hy;subst hy;exact e2 x hx⟩
 .have hjl:j<es.toList.length:=(df.1 e2).1
  have hxe:es.toList[j]=x:=by rw[af hjl]at e2;injection e2
  have hlist:(es.modify j (λe'=>{ e' with key:=key,val:=val })).toList=es.toList.set j { x with key:=key,val:=val }:=by
   apply qA;intro i;rw[kZ,Array.getElem?_modify,l5,kZ];by_cases c:j=i
   .subst c
    have:es[j]?=some x:=(by simpa using e2);simp[this];omega
   .simp[c]
  have hmem:∀y,y∈es.toList.set j { x with key:=key,val:=val }->(y.key=key/\y.val=val)\/(y∈es.toList/\y.key≠key):=by
   intro y hy;obtain⟨i,hi,rfl⟩:=aQ.1 hy;rw[List.getElem_set];split
   .exact .inl ⟨rfl,rfl⟩
   .rename_i c
    rw[List.length_set]at hi;refine .inr ⟨ai _,λe=>?_⟩;rcases ib i j with l|l
    .exact dx.1 h3 i j hi hjl l (by rw[hxe,e3];exact e)
    .exact dx.1 h3 j i hjl hi (by omega) (by rw[hxe,e3];exact e.symm)
  have agO:∀y,y∈es.toList->y.key≠key->y∈es.toList.set j { x with key:=key,val:=val }:=by
   intro y hy hne;obtain⟨i,hi,rfl⟩:=aQ.1 hy;have c:j≠i:=λc=>by subst c;exact hne (by rw[hxe];exact e3)
   refine aQ.2 ⟨i,by rw[List.length_set];exact hi,?_⟩;rw[List.getElem_set_ne c]
  refine⟨setBlock w b (.map (es.modify j (λe'=>{ e' with key:=key,val:=val })) clock),?_,⟨es.modify j (λe'=>{ e' with key:=key,val:=val }),clock,heap_setBlock_same hb _,by simp;omega,?_,?_,?_,?_⟩,⟨rfl,rfl,rfl,by simp[setBlock],λi _ hi=>heap_setBlock_other hb _ (λe=>hi (by rw[e]))⟩⟩
  .have hj:es[j]?=some x:=by simpa using e2
   simp[Instr.mapUpdate,run_underlying ht,MapKept.run_getObj_map hb,K.check w false hkey,e1,hj,e3,K.stays w hkey,MapKept.run_setObj_map _ hb,Result.andThen,setBlock]
  .rw[hlist];intro y hy
   rcases hmem y hy with h|h
   .exact⟨kl,by rw[h.1];exact hkey⟩
   .exact hk y h.1
  .rw[hlist];intro y hy
   rcases hmem y hy with h|h
   .rw[h.1,h.2];exact upd_same _ _ _
   .rw[upd_ne h.2];exact h1 y h.1
  .rw[hlist];intro ky v hv
   by_cases c:ky=key
   .subst c;rw[upd_same]at hv;injection hv with hv;subst hv
    exact⟨_,aQ.2 ⟨j,by rw[List.length_set];exact hjl,rfl⟩,by rw[List.getElem_set_self],by rw[List.getElem_set_self]⟩
   .rw[upd_ne c]at hv
    obtain⟨y,hy,a,d⟩:=h2 ky v hv;exact⟨y,agO y hy (by rw[a];exact c),a,d⟩
  .rw[hlist,dx]
   intro a c ha hc hac;rw[List.length_set]at ha hc;have hne:=dx.1 h3 a c ha hc hac;rw[List.getElem_set,List.getElem_set];by_cases d1:j=a
   .subst d1
    rw[if_pos rfl,if_neg (by omega)];rw[hxe,e3]at hne;exact hne
   .rw[if_neg d1]
    by_cases d2:j=c
    .subst d2
     rw[if_pos rfl];rw[hxe,e3]at hne;exact hne
    .rw[if_neg d2];exact hne
end
section
open Go.RowKit
def o7(n:Nat):Nat:=if n<10 then 48+n else 87+n
def Am:Nat->Nat->List Nat
 | 0,_=>[]
 |k+1,n=>if n<36 then [o7 n]else Am k (n / 36)++[o7 (n % 36)]
def BQ(n:Nat):List Nat:=Am 4 n
theorem abh{k n:Nat}(h:n<36):Am (k+1) n=[o7 n]:=by rw[Am,if_pos h]
theorem QY:(prog.info? 5).map (λi=>(i.zero,i.size,i.bytes))=some (some (.int .u8 0),1,1):=by kernel_rfl
theorem Rt{r:Nat}(h:r<36):(({ data:=#[48,49,50,51,52,53,54,55,56,57,97,98,99,100,101,102,103,104,105,106,107,108,109,110,111,112,113,114,115,116,117,118,119,120,121,122] }:ByteArray)[r]'h).toNat=o7 r:=by
 have key:∀r:Fin 36,(({ data:=#[48,49,50,51,52,53,54,55,56,57,97,98,99,100,101,102,103,104,105,106,107,108,109,110,111,112,113,114,115,116,117,118,119,120,121,122] }:ByteArray)[r.1]'r.2).toNat=o7 r.1:=by decide
 exact key ⟨r,h⟩
def yK(l:List Nat):List Value:=l.map λ(d:Nat)=>.int .u8 (d:Int)
theorem Hq{j:Nat}{ds:List Nat}(d:Nat):(yK (List.replicate (j+1) 0++ds)).set j (.int .u8 (d:Int))=yK (List.replicate j 0++d :: ds):=by
 have e:List.replicate (j+1) 0++ds=List.replicate j 0++0 :: ds:=by rw[List.replicate_succ',dY];rfl
 rw[e,yK,dw,pM _ _ (by simp)];simp[yK]
theorem ZC(l:List Nat):∀u∈yK l,u.oneCell'=true:=by
 intro u hu;obtain⟨x,_,rfl⟩:=az.1 hu;rfl
theorem formatBits_36(n:Nat)(hn:n<1000000)(sv:Value)(m B:Nat)(xs:List Value)(w:World)(hown:w.ownsRow B 5 1 sv m xs)(hB:B<=w.heap.size)(hm:m<=1000000000):
 Calls prog 213 #[sv,.int .u64 (n:Int),.int .i64 36,.bool false,.bool true] w λe w'=>∃v',e=.returned (.tuple #[v',.string ⟨#[]⟩])/\w'.ownsRow B 5 1 v' (m+(BQ n).length) (xs++yK (BQ n))/\fJ (λb=>sv.ownBlock=some b) w w'/\(∀b,v'.ownBlock=some b->sv.ownBlock=some b\/w.heap.size<=b):=by
 obtain⟨i0,hi0,hz0,hz1,hz2⟩:=info_parts QY;obtain⟨a0,c0,rfl,hmc,_⟩:=bT hown;go_enter Tryz.func213,Tryz.ntmps213
 go_wp2
 have hz:(Tryz.zeroCells273).toList=yK (List.replicate 65 0):=by kernel_rfl
 have hsz:(Tryz.zeroCells273).size=65:=by kernel_rfl
 have ho0:(w.alloc (.cells Tryz.zeroCells273 273)).ownsRow w.heap.size 273 1 (.slice (some ⟨w.heap.size,0,none⟩) 65 65) 65 (yK (List.replicate 65 0)):=by
  rw[<-hz];exact World.ownsRow_lit w _ _ (aJ _) (by decide) (by rw[hsz])
 have hx0:Ext w (w.alloc (.cells Tryz.zeroCells273 273)):=by go_grown
 generalize w.alloc (.cells Tryz.zeroCells273 273)=W0 at *;clear hz hsz;go_loopw [1,13] (λuu ii wr=>∃i u ds,ii=.int .i64 ((i:Nat):Int)/\uu=.int .u64 ((u:Nat):Int)/\62<=i/\i<=65/\u<36 ^ (i-61)/\Ext w wr/\wr.ownsRow w.heap.size 273 1 (.slice (some ⟨w.heap.size,0,none⟩) 65 65) 65 (yK (List.replicate i 0++ds))/\Hid (ds.length=65-i)/\Hid (Am (i-61) u++ds=BQ n)) (λ_ ii _=>(intOf ii).toNat)
 case atStart=>exact⟨65,n,[],rfl,rfl,by omega,by omega,by omega,hx0,by simpa using ho0,rfl,by simp[Hid,BQ]⟩
 case round=>
  clear ho0 hx0;obtain⟨i,u,ds,rfl,rfl,hi1,hi2,hu,hE,ho,HL,HB⟩:=hrel;have hu6:u<1679616:=bg hu (bZ (Nat.pow_le_pow_right (by omega) (by omega:i-61<=4)) (by decide));by_cases hlt:36<=u
  .have hi3:63<=i:=by
    by_cases c:i=62
    .subst c;simp at hu;omega
    .omega
   have h1:(36:Int)<=(u:Int):=(by omega);obtain⟨j,rfl⟩:∃j,i=j+1:=⟨i-1,by omega⟩;have hj1:((j+1:Nat):Int)-1=(j:Int):=(by omega);have hcl:(yK (List.replicate (j+1) 0++ds)).length=65:=(by have:=ho.1;simpa using this);have cj:=ho.cellAt j (by omega);rw[af (by omega)]at cj;have fj:=ho.frozenAt j;go_wp2
   go_roundw
   case rel=>
    (repeat apply Exists.intro)
    refine⟨?_,rfl⟩;refine⟨j,u / 36,o7 (u % 36):: ds,rfl,?_,by omega,by omega,?_,?_,?_,?_,?_⟩
    .rw[show((u / 36:Nat):Int)=(u:Int) / 36 by omega]
    .have e:j+1-61=(j-61)+1:=by omega
     rw[e,Nat.pow_succ]at hu;exact Nat.div_lt_of_lt_mul (by rw[iY];exact hu)
    .exact hE.setCell (p:=⟨w.heap.size,j,none⟩) (aJ _) _
    .rw[Rt (show u-u / 36*36<36 by omega),show u-u / 36*36=u % 36 by omega,<-Hq]
     exact(ho.stored j _).1
    .have:=HL.out
     show(o7 (u % 36):: ds).length=65-j;rw[gI];omega
    .have h:=HB.out
     have e:j+1-61=(j-61)+1:=(by omega);rw[e,Am,if_neg (by omega)]at h;show Am (j-61) (u / 36)++o7 (u % 36):: ds=BQ n;rw[<-h,dY];rfl
   case measure=>simp[intOf]
  .have h1:¬((36:Int)<=(u:Int)):=by omega
   obtain⟨j,rfl⟩:∃j,i=j+1:=⟨i-1,by omega⟩;have hj1:((j+1:Nat):Int)-1=(j:Int):=(by omega);have hcl:(yK (List.replicate (j+1) 0++ds)).length=65:=(by have:=ho.1;simpa using this);have cj:=ho.cellAt j (by omega);rw[af (by omega)]at cj;have fj:=ho.frozenAt j;have harr:prog.arrayLen 273=65:=(by kernel_rfl);have hsl:=λW:World=>run_sliceAt_array_l (P:=prog) W 273 ⟨w.heap.size,0,none⟩ underlying273 .i64 (j:Int) (by omega) (by rw[harr];omega)
   have hsz:=λW:World=>(by kernel_rfl:(sizeOf (prog.elem 273)).run prog W=.ok 1 W)
   simp only[hsz,Result.andThen_ok,slicedAt,harr,jB]at hsl;rw[if_neg (by omega),show(⟨w.heap.size,0,none⟩:Addr).add (j*1)=⟨w.heap.size,j,none⟩ by simp[Addr.add];omega]at hsl;have WS:u<36:=(by omega);have hd:=Rt WS;have HL2:Hid (yK (o7 u :: ds)=((yK (List.replicate j 0++o7 u :: ds)).drop j).take (65-j)):=by
    have hl:=HL.out;unfold Hid yK;rw[dw,List.drop_append_of_le_length (by simp),tu (by simp),iQ,dJ (by simp;omega)]
   have hb:BQ n=o7 u :: ds:=by
    have h:=HB.out;obtain⟨k,hk⟩:∃k,j+1-61=k+1:=⟨j-61,by omega⟩;rw[hk,abh WS]at h;exact h.symm
   have HBN:=aW hb;have ho2:(wr.setCell ⟨w.heap.size,j,none⟩ (.int .u8 (((({ data:=#[48,49,50,51,52,53,54,55,56,57,97,98,99,100,101,102,103,104,105,106,107,108,109,110,111,112,113,114,115,116,117,118,119,120,121,122] }:ByteArray)[u]'WS).toNat:Nat):Int))).ownsRow w.heap.size 273 1 (.slice (some ⟨w.heap.size,0,none⟩) 65 65) 65 (yK (List.replicate j 0++o7 u :: ds)):=by
    rw[hd,<-Hq];exact(ho.stored j (.int .u8 ((o7 u:Nat):Int))).1
   have hE2:Ext w (wr.setCell ⟨w.heap.size,j,none⟩ (.int .u8 (((({ data:=#[48,49,50,51,52,53,54,55,56,57,97,98,99,100,101,102,103,104,105,106,107,108,109,110,111,112,113,114,115,116,117,118,119,120,121,122] }:ByteArray)[u]'WS).toNat:Nat):Int))):=hE.setCell (p:=⟨w.heap.size,j,none⟩) (aJ _) _;have HHD:=aW hd;clear hb hd;go_upto_region 29 with fail
   generalize wr.setCell ⟨w.heap.size,j,none⟩ (.int .u8 (((({ data:=#[48,49,50,51,52,53,54,55,56,57,97,98,99,100,101,102,103,104,105,106,107,108,109,110,111,112,113,114,115,116,117,118,119,120,121,122] }:ByteArray)[u]'WS).toNat:Nat):Int))=W2 at *;have hown2:=dD hown hE2;have hz2':=hE2.size;have hsrc:=AU ho2 (gz _ _) j (65-j) (by omega);rw[<-HL2.out]at hsrc;have hln:(yK (o7 u :: ds)).length=65-j:=(by have:=HL.out;simp[yK];omega);have sU:=aW hln;clear hln cj fj hE ho;go_wp2_with (at_builtin;refine eO rfl (.tmp 95) (.tmp 97) 39 rfl B 5 i0 (.int .u8 0) 1 1 underlying39 hi0 hz0 hz1 hz2 rfl (by decide) (.slice a0 m c0) m xs rfl hown2 (some ⟨w.heap.size,j,none⟩) (65-j) (65-j) (yK (o7 u :: ds)) rfl (by rw[sU.out,kT]) (.inr ⟨_,rfl,hsrc⟩) (ZC _) (by unfold maxLen;omega) (by omega) (by omega) ?_;intro v5 w5 lq hg5 hl5)
   go_ret2
   refine⟨v5,rfl,?_,⟨hg5.os.trans hE2.os,hg5.tape.trans hE2.tape,hg5.output.trans hE2.output,by have:=hg5.size;omega,λk hk hn=>by rw[hg5.block k (by omega) (λe=>hn e.symm)];exact hE2.block k hk⟩,λb hb=>by
    rcases hl5 with h|⟨g,h,h2⟩
    .exact .inl (by rw[<-h];exact hb)
    .rw[h]at hb;injection hb with hb;exact .inr (by omega)⟩
   rw[HBN.out];have:(o7 u :: ds).length=65-j:=(by have:=sU.out;simpa [yK]using this);rw[this];exact lq
def Kb(n:Nat)(sv:Value)(m B:Nat)(xs:List Value)(w:World)(e:Ending)(w':World):Prop:=
 ∃v',e=.returned v'/\w'.ownsRow B 5 1 v' (m+(BQ n).length) (xs++yK (BQ n))/\fJ (λb=>sv.ownBlock=some b) w w'/\(∀b,v'.ownBlock=some b->sv.ownBlock=some b\/w.heap.size<=b)
theorem AppendInt_36(n:Nat)(hn:n<1000000)(sv:Value)(m B:Nat)(xs:List Value)(w:World)(hown:w.ownsRow B 5 1 sv m xs)(hB:B<=w.heap.size)(hm:m<=1000000000):
 Calls prog 173 #[sv,.int .i64 (n:Int),.int .i64 36] w (Kb n sv m B xs w):=by
 obtain⟨a0,c0,rfl,hmc,_⟩:=bT hown;have h1:Calls prog 253 #[.slice a0 m c0,.int .u64 (n:Int),.int .i64 36] w (Kb n (.slice a0 m c0) m B xs w):=by
  go_enter Tryz.func253,Tryz.ntmps253
  go_wp2_with (go_at_call 213;refine(formatBits_36 n hn _ m B xs _ hown hB hm).mono ?_;rintro e w1 ⟨v',rfl,h1,h2,h3⟩)
  go_ret
  exact⟨v',rfl,h1,h2,h3⟩
 have h2:Calls prog 206 #[.slice a0 m c0,.int .i64 (n:Int),.int .i64 36] w (Kb n (.slice a0 m c0) m B xs w):=by
  go_enter Tryz.func206,Tryz.ntmps206
  go_wp2_with (go_at_call 253;refine h1.mono ?_;rintro e w1 ⟨v',rfl,h1,h2,h3⟩)
  go_ret
  exact⟨v',rfl,h1,h2,h3⟩
 go_enter Tryz.func173,Tryz.ntmps173
 go_wp2_with (go_at_call 206;refine h2.mono ?_;rintro e w1 ⟨v',rfl,h1,h2,h3⟩)
 go_ret
 exact⟨v',rfl,h1,h2,h3⟩
end
section
variable {d:Nat} {l r:List Nat}
def und(x:Nat):Nat:=if x<58 then x-48 else x-87
theorem Qn(h:d<36):und (o7 d)=d:=by unfold und o7;split <;> split <;> omega
theorem II(h:d<36):48<=o7 d/\o7 d<=122:=by unfold o7;split <;> omega
theorem xu:∀k n x,x∈Am k n->48<=x/\x<=122
 | 0,n,x,h=>by simp[Am]at h
 |k+1,n,x,h=>by
  rw[Am]at h;split at h
  .rename_i hn
   simp at h;subst h;exact II hn
  .rcases bq.1 h with h|h
   .exact xu k _ x h
   .simp at h;subst h;exact II (Nat.mod_lt _ (by omega))
def Yc(l:List Nat):Nat:=l.foldl (λa x=>a*36+und x) 0
theorem FN:∀k n,n<36 ^ k->Yc (Am k n)=n
 | 0,n,h=>by simp at h;subst h;rfl
 |k+1,n,h=>by
  rw[Am];split
  .rename_i hn
   simp[Yc,Qn hn]
  .have ih:=FN k (n / 36) (by rw[Nat.div_lt_iff_lt_mul (by omega)];rw[Nat.pow_succ]at h;exact h)
   unfold Yc at ih ⊢;rw[List.foldl_append,ih];simp only[List.foldl_cons,List.foldl_nil,Qn (Nat.mod_lt n (show 36 > 0 by omega))];omega
theorem abj{n m:Nat}(hn:n<1000000)(hm:m<1000000)(h:BQ n=BQ m):n=m:=by
 have e1:=FN 4 n (by omega);have e2:=FN 4 m (by omega);unfold BQ at h;rw[<-e1,<-e2,h]
def lN(l:List Nat):List Nat:=l.flatMap λi=>BQ i++[44]
def wV(l r:List Nat):List Nat:=lN l++124 :: lN r
theorem SX(l:List Nat)(i:Nat):lN (l++[i])=lN l++(BQ i++[44]):=by simp[lN]
theorem Yd{c:Nat}:∀{a b x y:List Nat},c ∉ a->c ∉ b->a++c :: x=b++c :: y->a=b/\x=y
 |[],[],x,y,_,_,h=>by simpa using h
 |[],d :: b,x,y,_,hb,h=>by simp at h;exact absurd h.1 (λe=>hb (by simp[e]))
 |d :: a,[],x,y,ha,_,h=>by simp at h;exact absurd h.1.symm (λe=>ha (by simp[e]))
 |d :: a,e :: b,x,y,ha,hb,h=>by
  simp only[List.cons_append,mf]at h;obtain⟨rfl,h⟩:=h;obtain⟨rfl,h2⟩:=Yd (λk=>ha (qz _ k)) (λk=>hb (qz _ k)) h;exact⟨rfl,h2⟩
def Stop(t:List Nat):Prop:=∀x,t.head?=some x->x=124
theorem MR(i:Nat)(x:List Nat):¬Stop (BQ i++[44]++x):=λh=>by
 cases hb:BQ i with
 |nil=>rw[hb]at h;have:=h 44 (by simp);omega
 |cons a b=>
  rw[hb]at h;have:=h a (by simp);have h2:=xu 4 i a (by show a∈BQ i;rw[hb];simp);omega
theorem afZ(i:Nat):44 ∉ BQ i:=λh=>by have:=xu 4 i 44 h;omega
theorem Ff:∀{l m t u:List Nat},(∀i,i∈l->i<1000000)->(∀i,i∈m->i<1000000)->Stop t->Stop u->lN l++t=lN m++u->l=m/\t=u
 |[],[],t,u,_,_,_,_,h=>by simpa [lN]using h
 |[],j :: m,t,u,_,_,ht,_,h=>by
  simp only[lN,List.flatMap_nil,iQ,jZ]at h;rw[h,dY]at ht;exact absurd ht (MR j _)
 |i :: l,[],t,u,_,_,_,hu,h=>by
  simp only[lN,List.flatMap_nil,iQ,jZ]at h;rw[<-h,dY]at hu;exact absurd hu (MR i _)
 |i :: l,j :: m,t,u,hl,hm,ht,hu,h=>by
  have e:BQ i++44 :: (lN l++t)=BQ j++44 :: (lN m++u):=by simpa [lN]using h
  obtain⟨e1,e2⟩:=Yd (afZ i) (afZ j) e;have:=abj (hl i (by simp)) (hm j (by simp)) e1;obtain⟨e3,e4⟩:=Ff (λx hx=>hl x (by simp[hx])) (λx hx=>hm x (by simp[hx])) ht hu e2;exact⟨by rw[this,e3],e4⟩
theorem Wx{m s:List Nat}(h1:∀i,i∈l->i<1000000)(h2:∀i,i∈r->i<1000000)(h3:∀i,i∈m->i<1000000)(h4:∀i,i∈s->i<1000000)(h:wV l r=wV m s):l=m/\r=s:=by
 have hs:∀x:List Nat,Stop (124 :: x):=λx y hy=>by simpa using hy.symm
 obtain⟨e1,e2⟩:=Ff h1 h3 (hs _) (hs _) h;simp only[mf,true_and]at e2;have hn:Stop []:=λx hx=>by simp at hx
 exact⟨e1,(Ff h2 h4 hn hn (by simpa using e2)).1⟩
theorem Fg{x:Nat}(h:x∈wV l r):x<128:=by
 have hp:∀l:List Nat,x∈lN l->x<128:=λl h=>by
  obtain⟨i,_,hi⟩:=List.mem_flatMap.1 h;rcases bq.1 hi with h|h
  .have:=xu 4 i x h;omega
  .simp at h;omega
 rcases bq.1 h with h|h
 .exact hp l h
 .rcases jk.1 h with h|h
  .omega
  .exact hp r h
end
section
open Go.RowKit
theorem alloc_at{w:World}{X:Obj}{k:Nat}(h:k=w.heap.size):(w.alloc X).heap[k]?=some X:=by subst h;exact eu w X
def abB(w:World)(e:Ending)(w':World):Prop:=
 ∃h,h=w.heap.size/\e=.returned (.pointer (some ⟨h+1+1+1+1+1,0,none⟩))/\
  w'.heap[h+1+1+1+1+1]?=some (.cells #[.slice none 0 0,.slice none 0 0,.slice none 0 0,.map (some h),.map (some (h+1)),.map (some (h+1+1)),.map (some (h+1+1+1)),.map (some (h+1+1+1+1))] 156 (0,0))/\
  (∀m,h<=m->m<h+1+1+1+1+1->w'.heap[m]?=some (.map #[] 0))/\w'.heap.size=h+6/\Ext w w'
theorem qY(w:World):Calls prog 55 #[] w (abB w):=by
 have hm1:=λw:World=>run_makeMap_plain (P:=prog) (w:=w) 125
 have hm2:=λw:World=>run_makeMap_plain (P:=prog) (w:=w) 151
 have xJ:=λw:World=>run_makeMap_plain (P:=prog) (w:=w) 152
 have JC:=λw:World=>run_makeMap_plain (P:=prog) (w:=w) 153
 go_enter Tryz.func55,Tryz.ntmps55
 go_wp2
 go_ret
 refine⟨w.heap.size,rfl,rfl,alloc_at (by simp only[fU]),λm h1 h2=>?_,by simp only[fU],by go_grown⟩;have:m=w.heap.size\/m=w.heap.size+1\/m=w.heap.size+1+1\/m=w.heap.size+1+1+1\/m=w.heap.size+1+1+1+1:=by omega
 rw[jo _ _ _ (by simp only[fU];omega)];rcases this with rfl|rfl|rfl|rfl|rfl
 .rw[jo _ _ _ (by simp only[fU];omega),jo _ _ _ (by simp only[fU];omega),jo _ _ _ (by simp only[fU];omega),jo _ _ _ (by simp only[fU];omega)]
  exact alloc_at rfl
 .rw[jo _ _ _ (by simp only[fU];omega),jo _ _ _ (by simp only[fU];omega),jo _ _ _ (by simp only[fU];omega)]
  exact alloc_at (by simp only[fU])
 .rw[jo _ _ _ (by simp only[fU];omega),jo _ _ _ (by simp only[fU];omega)]
  exact alloc_at (by simp only[fU])
 .rw[jo _ _ _ (by simp only[fU];omega)]
  exact alloc_at (by simp only[fU])
 .exact alloc_at (by simp only[fU])
end
section
open Go.RowKit
open Go.Maps (Keyed)
theorem Ws:Keyed prog 9:=Go.Maps.string_keyed underlying9
theorem rH:Keyed prog 3:=Go.Maps.int_keyed underlying3
theorem Wo:laidOutB prog=true:=by kernel_rfl
theorem rowP:(219:TypeId)<(prog).types.size:=of_decide_eq_true (by kernel_rfl)
theorem acU:∃m,(prog).types.size=m+1:=by
 have h:=rowP
 revert h
 generalize (prog).types.size=q;intro h;cases q with
 |zero=>exact absurd h (Nat.not_lt_zero _)
 |succ m=>exact⟨m,rfl⟩
theorem Ot:(prog).keyTypeAt 2 219=true:=by kernel_rfl
theorem Cw:Keyed prog 219:=Keyed.of_law (deep_law_laid Wo (m:=2) (by decide) rowP Ot (by rw[underlying219]))
theorem Ym:(prog).cellsOf 219=2:=by kernel_rfl
theorem aej:(prog).cellsOf 3=1:=by kernel_rfl
theorem Ww:(prog).keyType 219=true:=by kernel_rfl
theorem WB{i:Nat}(h:i<1000000000):(Lit.int .i64 (i:Int)).wf=true:=by
 have h1:IntKind.min .i64=-9223372036854775808:=by rfl
 have h2:IntKind.max .i64=9223372036854775807:=by rfl
 simp only[Lit.wf,jP,decide_eq_true_eq,h1,h2];omega
theorem adf(s:ByteArray)(h:s.size<=maxLen):∃l,keyOf prog 9 (.string s)=some l:=by
 exact⟨_,by simp[keyOf,underlying9,mapKey,h];rfl⟩
theorem uO(i:Nat)(h:i<1000000000):∃l,keyOf prog 3 (.int .i64 (i:Int))=some l:=
 ⟨_,Go.Maps.keyOf_int_mk underlying3 (WB h)⟩
theorem QS(d:Nat)(i:Nat)(h:i<1000000000):(prog).keyLits (d+1) 3 [.int .i64 (i:Int)]=some [.int .i64 (i:Int)]:=by
 simp[Program.keyLits,underlying3,WB h]
theorem Ou(a b:Nat)(ha:a<1000000000)(hb:b<1000000000):∃l,keyOf prog 219 (.agg #[.int .i64 (a:Int),.int .i64 (b:Int)])=some l:=by
 have hf:(Value.agg #[.int .i64 (a:Int),.int .i64 (b:Int)]).formed prog 219=true:=by simp[Value.formed,underlying219,Ym]
 obtain⟨m,hm⟩:=acU;have hl:(prog).keyLits (m+1+1) 219 [.int .i64 (a:Int),.int .i64 (b:Int)]=some [.int .i64 (a:Int),.int .i64 (b:Int)]:=by
  unfold Program.keyLits;simp only[underlying219,Ym,aej,gI,qw];simp[List.range,List.range.loop,QS m a ha,QS m b hb]
 exact⟨_,by simp only[keyOf,underlying219,hf,Ww,Value.cells,hm,hl];rfl⟩
section
variable {P:Program} {w:World} {ops:Array Oper} {rest:List Oper} {o:Oper} {a:Act} {Q:Exit->Act->World->Prop}
theorem Ip(hg:o.guard=none)(m x:Operand)(t:TypeId)(c:Bool)(hop:o.op=Op.lookup t m x c)(k e:TypeId)(K:Keyed P k)(ht:P.underlying t=some (.map k e))(z:Value)(hz:(zeroValue e).run P w=.ok z w)(b n:Nat)(f:Value->Option Value)
 (hm:a.eval m=.map (some b)) (h:jb P k w b n f) (key:Value) (hx:a.eval x=key) (hkey:∃kl,keyOf P k key=some kl)
 (hK:wpList P ops Q rest (a.put o.dst (if c then .tuple #[(f key).getD z,.bool (f key).isSome]else(f key).getD z)) w):wpList P ops Q (o :: rest) a w:=by
 refine wpList_plain hg λK' hK'=>?_
 obtain⟨kl,hkl⟩:=hkey;have hrun:=h.look K ht hz hkl c;unfold Oper.wp;simp[execOp,hop,hm,hx,hrun,Result.andThen];exact hK' _ _ (by simpa using hK)
theorem ku(hg:o.guard=none)(m x v:Operand)(t:TypeId)(hop:o.op=Op.mapUpdate t m x v)(k e:TypeId)(K:Keyed P k)(ht:P.underlying t=some (.map k e))(b n:Nat)(f:Value->Option Value)
 (hm:a.eval m=.map (some b)) (h:jb P k w b n f) (hn:n<maxLen) (key val:Value) (hx:a.eval x=key) (hv:a.eval v=val) (hkey:∃kl,keyOf P k key=some kl)
 (hK:∀w',jb P k w' b (n+1) (upd (λ_ _=>Classical.propDecidable _) f key val)->w.grownBy w' (some b)->wpList P ops Q rest (a.put o.dst undef) w'):wpList P ops Q (o :: rest) a w:=by
 refine wpList_plain hg λK' hK'=>?_
 obtain⟨kl,hkl⟩:=hkey;obtain⟨w',hrun,r1,r2⟩:=h.store K ht hn hkl (val:=val);unfold Oper.wp;simp[execOp,hop,hm,hx,hv,hrun,Result.andThen];exact hK' _ _ (hK w' r1 r2)
end
theorem jb.room{P:Program}{k:TypeId}{w:World}{b n:Nat}{f:Value->Option Value}(h:jb P k w b n f)(L:List Value)(hL:∀key v,f key=some v->key∈L):jb P k w b L.length f:=by
 obtain⟨es,c,h1,h2,h3,h4,h5,h6⟩:=h;refine⟨es,c,h1,?_,h3,h4,h5,h6⟩;have hn:(es.toList.map (·.key)).Nodup:=by rw[List.Nodup,gU];exact h6
 have hs:∀x,x∈es.toList.map (·.key)->x∈L:=λx hx=>by
  obtain⟨y,hy,rfl⟩:=az.1 hx;exact hL _ _ (h4 y hy)
 have:=hn.length_le_of_subset hs
 simpa using this
end
