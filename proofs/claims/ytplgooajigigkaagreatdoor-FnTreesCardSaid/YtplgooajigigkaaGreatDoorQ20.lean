/- 20 -/
import Derived.Test.YtplgooajigigkaaGreatDoorQ19
set_option maxRecDepth 100000
set_option maxHeartbeats 4000000
namespace Go.Proofs.YtplgooajigigkaaGreatDoor
open Tryz
section
open Go.RowKit
open aZ (cZ Nd vl Same)
variable {k:Nat}
theorem DF{l:List Nat}(ha:aZ.Asc l)(hl:∀x,x∈l->x<k):rises (bV l) 0 ((k:Int)-1)=true:=by
 rw[ve];intro j hj;rw[aP]at hj;rw[fD hj];have h1:=hl _ (aj hj);refine⟨by omega,by omega,λh0=>?_⟩;rw[fD (by omega)];have:=bP.1 ha (j-1) j (by omega) hj (by omega);omega
theorem Kk{F:cZ}(hF:aZ.Good F)(hk:k<F.length):rises (bV (F[k]).1) 0 ((k:Int)-1)=true/\rises (bV (F[k]).2) 0 ((k:Int)-1)=true:=by
 have h:=hF.yL _ (aj hk);have hw:=hF.wf k _ (ae hk);exact⟨DF h.1 hw.1,DF h.2 hw.2⟩
end
section
open Go.RowKit
open aZ (cZ Nd vl Same)
variable {Fs:List cZ} {i:Nat} {D:cZ}
def Forms(w:World)(v:Value)(Fs:List cZ):Prop:=∃a cap,v=.slice a Fs.length cap/\Fs.length<=cap/\Fs.length<=maxLen/\
 (0<Fs.length->∃b,a=some ⟨b,0,none⟩/\∀i (h:i<Fs.length),∃aN cN,w.cell? ⟨b,i,none⟩=some (.slice aN (Fs[i]).length cN)/\eZ w 0 (.slice aN (Fs[i]).length cN) Fs[i])
theorem Forms.ext{w w':World}{v:Value}{Fs:List cZ}(h:Forms w v Fs)(hx:Ext w w'):Forms w' v Fs:=by
 obtain⟨a,cap,rfl,h1,h2,h3⟩:=h;refine⟨a,cap,rfl,h1,h2,λh0=>?_⟩;obtain⟨b,rfl,hc⟩:=h3 h0;refine⟨b,rfl,λi hi=>?_⟩;obtain⟨aN,cN,c1,c2⟩:=hc i hi;exact⟨aN,cN,dP hx c1,c2.ext hx⟩
theorem Forms.at{w:World}{v:Value}(h:Forms w v Fs)(hi:i<Fs.length):
 ∃b cap aN cN,v=.slice (some ⟨b,0,none⟩) Fs.length cap/\Fs.length<=cap/\w.cell? ⟨b,i,none⟩=some (.slice aN (Fs[i]).length cN)/\eZ w 0 (.slice aN (Fs[i]).length cN) Fs[i]:=by
 obtain⟨a,cap,rfl,h1,h2,h3⟩:=h;obtain⟨b,rfl,hc⟩:=h3 (by omega);obtain⟨aN,cN,c1,c2⟩:=hc i hi;exact⟨b,cap,aN,cN,rfl,h1,c1,c2⟩
def sizes(Fs:List cZ):Nat:=(Fs.map List.length).sum
theorem rR{k:Nat}(h:k<Fs.length):sizes (Fs.take (k+1))=sizes (Fs.take k)+(Fs[k]).length:=by
 rw[aW h,sizes,bz,List.sum_append];simp[sizes]
theorem GQ(Fs:List cZ)(k:Nat):sizes (Fs.take k)<=sizes Fs:=by
 conv=>rhs;rw[<-jw k Fs]
 rw[sizes,sizes,bz,List.sum_append];omega
theorem XO{F':cZ}{root:Nat}(g:aZ.Good D)(hr:root<D.length)(hF:aZ.eD F')(hs:Same (aZ.eQ F') (vl D root)):F'.length<=D.length:=by
 have h:=Cf (at_:=List.range D.length) g hr hF hs (dJ.2 hr) (λj side x hj hx=>dJ.2 (by have:=jU g.wf hx;have:=dJ.1 hj;omega))
 simpa using h
theorem Oz{D':cZ}{ls rs:List Nat}{Ls Rs:List cZ}(g:aZ.WF D)(g':aZ.WF D')(hl:ls.length=Ls.length)(hr:rs.length=Rs.length)(sl:∀j (h:j<ls.length),ls[j]<D.length/\Same (vl D ls[j]) (aZ.eQ (Ls.getD j [])))(sr:∀j (h:j<rs.length),rs[j]<D.length/\Same (vl D rs[j]) (aZ.eQ (Rs.getD j [])))
 (hp:jA D ls rs D' i):Same (vl D' i) (.mk (Ls.map aZ.eQ) (Rs.map aZ.eQ)):=by
 have key:∀{ls:List Nat} {Ls:List cZ},ls.length=Ls.length->(∀j (h:j<ls.length),ls[j]<D.length/\Same (vl D ls[j]) (aZ.eQ (Ls.getD j [])))->
  (∀y,y∈(aS ls).map (vl D')->∃z,z∈Ls.map aZ.eQ/\Same y z)/\(∀z,z∈Ls.map aZ.eQ->∃y,y∈(aS ls).map (vl D')/\Same y z):=by
  intro ls Ls he hs;refine⟨λy hy=>?_,λz hz=>?_⟩
  .obtain⟨x,hx,rfl⟩:=ay.1 hy
   obtain⟨j,hj,rfl⟩:=aH.1 (bU.1 hx);obtain⟨h1,h2⟩:=hs j hj;refine⟨_,bD (aj (l:=Ls) (n:=j) (by omega)),?_⟩;rw[hp.vl g g' h1];rw[aO,ae (by omega),gM]at h2;exact h2
  .obtain⟨F,hF,rfl⟩:=ay.1 hz
   obtain⟨j,hj,rfl⟩:=aH.1 hF;obtain⟨h1,h2⟩:=hs j (by omega);refine⟨_,bD (bU.2 (aj (by omega:j<ls.length))),?_⟩;rw[hp.vl g g' h1];rw[aO,ae hj,gM]at h2;exact h2
 obtain⟨a,b⟩:=key hl sl;obtain⟨c,d⟩:=key hr sr;rw[aZ.same_iff,aZ.oN g' hp.1,aZ.oK g' hp.1];exact⟨a,b,c,d⟩
end
section
open Go.RowKit
open aZ (cZ Nd vl Same)
variable {S T:Nat->Prop} {A:World->Prop} {w w':World} {v:Value} {base size e n i:Nat} {α:Type} {xs ys:List Value}
def nN(S:Nat->Prop)(A:World->Prop)(w:World):Prop:=(∀b,S b->b<w.heap.size)/\∀w',(∀b,S b->w'.heap[b]?=w.heap[b]?)->A w'
theorem nN.out(h:nN S A w):A w:=h.2 w λ_ _=>rfl
theorem nN.keep{G:Nat->Prop}(h:nN S A w)(hk:dW G w w')(hd:∀b,S b->¬G b):nN S A w':=
 ⟨λb hb=>aJ (h.1 b hb) hk.size,λw2 h2=>h.2 w2 λb hb=>(h2 b hb).trans (hk.block b (h.1 b hb) (hd b hb))⟩
theorem nN.ext(h:nN S A w)(hk:Ext w w'):nN S A w':=h.keep (iM (F:=λ_=>False) hk) λ_ _=>id
theorem nN.mono{B:World->Prop}(h:nN S A w)(hS:∀b,S b->T b)(hT:∀b,T b->b<w.heap.size)(hA:∀W,A W->B W):nN T B w:=
 ⟨hT,λw2 h2=>hA _ (h.2 w2 λb hb=>h2 b (hS b hb))⟩
theorem Ints.sup{l:List Int}(h:Ints w v l)(hS:∀b,S b->b<w.heap.size)(hv:∀b,v.ownBlock=some b->S b):nN S (λW=>Ints W v l) w:=
 ⟨hS,λ_ h2=>h.keep λb _ hb=>h2 b (hv b hb)⟩
theorem eZ.sup{F:cZ}(h:eZ w base v F)(hS:∀b,S b->b<w.heap.size)(hv:∀b,base<=b->b<w.heap.size->S b):nN S (λW=>eZ W 0 v F) w:=by
 refine⟨hS,λw2 h2=>?_⟩;obtain⟨a,cap,rfl,h1,h3,h4⟩:=h;refine⟨a,cap,rfl,h1,h3,λh0=>?_⟩;obtain⟨b,rfl,hb,hc⟩:=h4 h0;refine⟨b,rfl,az _,λi hi=>?_⟩;obtain⟨L,R,c1,c2,c3,c4,c5,c6⟩:=hc i hi;have e:=h2 b (hv b hb (lt_of_cell c1));have key:∀{v:Value} {l:List Int},Ints w v l->(∀b,v.ownBlock=some b->base<=b/\b<w.heap.size)->Ints w2 v l/\∀b,v.ownBlock=some b->l≠[]->b<w2.heap.size:=λhI hb=>by
  have k:=hI.keep (w':=w2) λb _ he=>h2 b (hv b (hb b he).1 (hb b he).2)
  exact⟨k,λb he hl=>k.blk hl he⟩
 have hlt:∀b,base<=b/\b<w.heap.size->b<w2.heap.size:=λb hb=>by
  have:=h2 b (hv b hb.1 hb.2);rw[mV hb.2]at this;exact(fC.1 this).1
 exact⟨L,R,by rw[lh (w:=w) e];exact c1,by rw[lh (w:=w) e];exact c2,(key c3 c5).1,(key c4 c6).1,λb hb=>⟨az _,hlt b (c5 b hb)⟩,λb hb=>⟨az _,hlt b (c6 b hb)⟩⟩
def Items{α:Type}(R:World->List Value->α->Prop)(S:Nat->Prop)(size:Nat)(xs:List Value)(Ts:List α)(w:World):Prop:=
 xs.length=Ts.length*size/\nN S (λW=>∀i (h:i<Ts.length),R W ((xs.drop (i*size)).take size) Ts[i]) w
theorem Items.nil{R:World->List Value->α->Prop}(hS:∀b,S b->b<w.heap.size):Items R S size [] [] w:=
 ⟨by simp,hS,λ_ _ i h=>absurd h (by simp)⟩
theorem Items.keep{α:Type}{R:World->List Value->α->Prop}{S G:Nat->Prop}{size:Nat}{xs:List Value}{Ts:List α}{w w':World}(h:Items R S size xs Ts w)(hk:dW G w w')(hd:∀b,S b->¬G b):Items R S size xs Ts w':=⟨h.1,h.2.keep hk hd⟩
theorem Items.ext{α:Type}{R:World->List Value->α->Prop}{S:Nat->Prop}{size:Nat}{xs:List Value}{Ts:List α}{w w':World}(h:Items R S size xs Ts w)(hk:Ext w w'):Items R S size xs Ts w':=⟨h.1,h.2.ext hk⟩
theorem Items.mono{α:Type}{R:World->List Value->α->Prop}{S T:Nat->Prop}{size:Nat}{xs:List Value}{Ts:List α}{w:World}(h:Items R S size xs Ts w)(hS:∀b,S b->T b)(hT:∀b,T b->b<w.heap.size):Items R T size xs Ts w:=
 ⟨h.1,h.2.mono hS hT λ_ h=>h⟩
theorem Items.snoc{R:World->List Value->α->Prop}{Ts:List α}{t:α}(h:Items R S size xs Ts w)(hy:ys.length=size)(k:nN S (λW=>R W ys t) w):Items R S size (xs++ys) (Ts++[t]) w:=by
 refine⟨by simp[h.1,hy,rJ],h.2.1,λw2 h2 i hi=>?_⟩;by_cases c:i<Ts.length
 .rw[dN c]
  have hm:i*size+size<=Ts.length*size:=by rw[<-Nat.succ_mul];exact kV _ c
  rw[List.drop_append_of_le_length (by rw[h.1];omega),List.take_append_of_le_length (by rw[ug,h.1];omega)];exact h.2.2 w2 h2 i c
 .have e:i=Ts.length:=by simp at hi;omega
  subst e;rw[fO (ax _),<-h.1,List.drop_left,dH (by omega)]
  simpa using k.2 w2 h2
def KS(w wr:World)(v:Value)(b:Nat):Prop:=w.heap.size<=b/\b<wr.heap.size/\v.ownBlock≠some b
theorem Items.push{R:World->List Value->α->Prop}{wr w1 w5:World}{v5:Value}{zs:List Value}{Ts:List α}{t:α}{X:Obj}(hit:Items R (KS w wr v) size xs Ts wr)(hE:Ext w wr)(hx:Ext wr w1)(ho:wr.ownsRow base e size v n zs)(hy:ys.length=size)
 (hn:nN (λb=>wr.heap.size<=b/\b<w1.heap.size) (λW=>R W ys t) w1) (hg:(w1.alloc X).grownBy w5 v.ownBlock) (hl:lY (w1.alloc X) v v5):Items R (KS w w5 v5) size (xs++ys) (Ts++[t]) w5:=by
 have z0:=hE.size;have z1:=hx.size;have z5:=hg.size;rw[eX]at z5;have key:∀b,KS w w1 v b->KS w w5 v5 b:=λb hb=>⟨hb.1,by have:=hb.2.1;omega,λe=>by
  rcases hl with h|⟨q,h,h2⟩
  .exact hb.2.2 (by rw[<-h];exact e)
  .rw[h]at e;injection e with e;rw[eX]at h2;have:=hb.2.1;omega⟩
 have h1:Items R (KS w w1 v) size (xs++ys) (Ts++[t]) w1:=
  Items.snoc ((hit.ext hx).mono (λb hb=>⟨hb.1,by have:=hb.2.1;omega,hb.2.2⟩) (λb hb=>hb.2.1)) hy (hn.mono (λb hb=>⟨by omega,hb.2,λe=>by have:=(ho.lt b e).2;omega⟩) (λb hb=>hb.2.1) (λ_ h=>h))
 exact((h1.ext (bJ (fJ _ _) X)).keep (G:=λb=>v.ownBlock=some b) ⟨hg.os,hg.tape,hg.output,hg.size,λk hk hn=>hg.block k hk (λe=>hn e.symm)⟩ (λb hb=>hb.2.2)).mono key (λb hb=>hb.2.1)
def Rows{α:Type}(R:World->List Value->α->Prop)(size:Nat)(S:Nat->Prop)(w:World)(v:Value)(Ts:List α):Prop:=
 ∃xs a cap,v=.slice a Ts.length cap/\Ts.length<=cap/\cap<=maxLen/\Items R S size xs Ts w/\(0<Ts.length->∃b,a=some ⟨b,0,none⟩/\S b/\∀j,j<Ts.length*size->w.cell? ⟨b,j,none⟩=xs[j]?)
theorem Rows.keep{α:Type}{R:World->List Value->α->Prop}{S G:Nat->Prop}{size:Nat}{v:Value}{Ts:List α}{w w':World}(h:Rows R size S w v Ts)(hk:dW G w w')(hd:∀b,S b->¬G b):Rows R size S w' v Ts:=by
 obtain⟨xs,a,cap,rfl,h1,h2,h3,h4⟩:=h;refine⟨xs,a,cap,rfl,h1,h2,h3.keep hk hd,λh0=>?_⟩;obtain⟨b,rfl,hb,hc⟩:=h4 h0;exact⟨b,rfl,hb,λj hj=>by rw[lh (w:=w) (hk.block b (h3.2.1 b hb) (hd b hb))];exact hc j hj⟩
theorem Rows.ext{R:World->List Value->α->Prop}{Ts:List α}(h:Rows R size S w v Ts)(hk:Ext w w'):Rows R size S w' v Ts:=h.keep (iM (F:=λ_=>False) hk) λ_ _=>id
theorem Rows.dX{R:World->List Value->α->Prop}{Ts:List α}(h:w.ownsRow base e size v n xs)(hn:n=Ts.length)(hi:Items R S size xs Ts w)(hS:∀b,S b->T b)(hv:∀b,v.ownBlock=some b->T b)(hT:∀b,T b->b<w.heap.size):Rows R size T w v Ts:=by
 subst hn;obtain⟨a,cap,rfl,h1,h2⟩:=bu h;refine⟨xs,a,cap,rfl,h1,h2,hi.mono hS hT,λh0=>?_⟩;obtain⟨g,cap',he,_,_,hc⟩:=gY h h0;simp only[gz]at he;obtain⟨rfl,-,rfl⟩:=he;exact⟨g,rfl,hv g rfl,hc⟩
def Cw(W:World)(ys:List Value)(t:List Int × ByteArray):Prop:=∃aU cU,ys=[.slice aU t.1.length cU,.string t.2]/\Ints W (.slice aU t.1.length cU) t.1
def tY(W:World)(ys:List Value)(F:cZ):Prop:=∃aN cN,ys=[.slice aN F.length cN]/\eZ W 0 (.slice aN F.length cN) F
theorem take_at{m j:Nat}(h:(xs.drop i).take m=ys)(hj:j<m):xs[i+j]?=ys[j]?:=by rw[<-h,kK,if_pos hj,List.getElem?_drop]
theorem Rows.forms{Fs:List cZ}(h:Rows tY 1 S w v Fs):Forms w v Fs:=by
 obtain⟨xs,a,cap,rfl,h1,h2,h3,h4⟩:=h;refine⟨a,cap,rfl,h1,by omega,λh0=>?_⟩;obtain⟨b,rfl,hb,hc⟩:=h4 h0;refine⟨b,rfl,λi hi=>?_⟩;obtain⟨aN,cN,e,hN⟩:=h3.2.out i hi;refine⟨aN,cN,?_,hN⟩;have k:=take_at e (j:=0) (by omega);rw[jo]at k;rw[hc i (by omega)];exact k
theorem Rows.tree{Ts:List (List Int × ByteArray)}(h:Rows Cw 2 S w v Ts)(hi:i<Ts.length):
 ∃b cap aU cU,v=.slice (some ⟨b,0,none⟩) Ts.length cap/\S b/\w.cell? ⟨b,i*2,none⟩=some (.slice aU (Ts[i]).1.length cU)/\w.cell? ⟨b,i*2+1,none⟩=some (.string (Ts[i]).2)/\nN S (λW=>Ints W (.slice aU (Ts[i]).1.length cU) (Ts[i]).1) w:=by
 obtain⟨xs,a,cap,rfl,h1,h2,h3,h4⟩:=h;obtain⟨b,rfl,hb,hc⟩:=h4 (by omega);obtain⟨aU,cU,e,hN⟩:=h3.2.out i hi;have k0:=take_at e (j:=0) (by omega);have k1:=take_at e (j:=1) (by omega);refine⟨b,cap,aU,cU,rfl,hb,by rw[hc _ (by omega)];exact k0,by rw[hc _ (by omega)];exact k1,h3.2.1,λw2 h2=>?_⟩;obtain⟨aU',cU',e',hN'⟩:=h3.2.2 w2 h2 i hi;rw[e]at e';simp only[iZ,gz,true_and,and_true]at e';obtain⟨rfl,rfl⟩:=e';exact hN'
theorem QO(h:(xs.drop (i*1)).take 1=[v]):xs[i]?=some v:=by
 have k:=take_at h (j:=0) (by omega);rw[jo]at k;exact k
end
section
open Go.RowKit
open Go.Maps (Keyed)
open Go.ChangeMaps (setBlock heap_setBlock_same heap_setBlock_other)
variable {f:Value->Option Value} {key val:Value} {w:World} {b n:Nat} {P:Program} {k e t:TypeId} {kl:Lit}
def upd(dq:∀a b:Value,Decidable (a=b))(f:Value->Option Value)(key val:Value):Value->Option Value:=λx=>match dq x key with | .isTrue _=>some val | .isFalse _=>f x
theorem upd_same{dq:∀a b:Value,Decidable (a=b)}(f:Value->Option Value)(key val:Value):upd dq f key val key=some val:=by
 unfold upd;cases dq key key with|isTrue _=>rfl|isFalse h=>exact absurd rfl h
theorem upd_ne{dq:∀a b:Value,Decidable (a=b)}{x:Value}(h:x≠key):upd dq f key val x=f x:=by
 unfold upd;cases dq x key with|isTrue e=>exact absurd e h|isFalse _=>rfl
def fM(P:Program)(k:TypeId)(w:World)(b n:Nat)(f:Value->Option Value):Prop:=
 ∃es clock,w.heap[b]?=some (.map es clock)/\es.size<=n/\(∀x∈es.toList,∃l,keyOf P k x.key=some l)/\(∀x∈es.toList,f x.key=some x.val)/\(∀key v,f key=some v->(∃x∈es.toList,x.key=key/\x.val=v))/\es.toList.Pairwise (λx y=>x.key≠y.key)
theorem fM.made(P:Program)(k:TypeId){c:Nat}(h:w.heap[b]?=some (.map #[] c)):fM P k w b 0 λ_=>none:=
 ⟨#[],c,h,ax _,by simp,by simp,(λ_ _ h=>by cases h),by simp⟩
theorem fM.lt(h:fM P k w b n f):b<w.heap.size:=by
 obtain⟨es,c,hb,_⟩:=h;exact(fC.1 hb).1
theorem fM.keep{w':World}(h:fM P k w b n f)(hb:w'.heap[b]?=w.heap[b]?):fM P k w' b n f:=by
 obtain⟨es,c,h1,h2⟩:=h;exact⟨es,c,hb.trans h1,h2⟩
theorem fM.mono{m:Nat}(h:fM P k w b n f)(hn:n<=m):fM P k w b m f:=by
 obtain⟨es,c,h1,h2,h3⟩:=h;exact⟨es,c,h1,by omega,h3⟩
theorem fM.look(h:fM P k w b n f)(K:Keyed P k)(ht:P.underlying t=some (.map k e)){z:Value}(hz:(zeroValue e).run P w=.ok z w)(hkey:keyOf P k key=some kl)(c:Bool):
 (Instr.lookup t (.map (some b)) key c).run P w=.ok (if c then .tuple #[(f key).getD z,.bool (f key).isSome]else(f key).getD z) w:=by
 obtain⟨es,clock,hb,_,hk,h1,h2,_⟩:=h;rcases K.find w hkey es.toList hk with⟨e1,e2⟩|⟨j,x,e1,e2,e3⟩
 .have hn:f key=none:=by
   cases hf:f key with
   |none=>rfl
   |some v=>obtain⟨x,hx,hxk,_⟩:=h2 key v hf;exact absurd hxk (e2 x hx)
  simp[Instr.lookup,run_underlying ht,MapKept.run_getObj_map hb,K.check w _ hkey,e1,hz,Result.andThen,hn]
 .have hm:x∈es.toList:=fq e2
  have hf:=h1 x hm;rw[e3]at hf;simp[Instr.lookup,run_underlying ht,MapKept.run_getObj_map hb,K.check w _ hkey,e1,Result.andThen,hf]
theorem fM.store(h:fM P k w b n f)(K:Keyed P k)(ht:P.underlying t=some (.map k e))(hn:n<maxLen)(hkey:keyOf P k key=some kl):
 ∃w',(Instr.mapUpdate t (.map (some b)) key val).run P w=.ok () w'/\fM P k w' b (n+1) (upd (λ_ _=>Classical.propDecidable _) f key val)/\w.grownBy w' (some b):=by
 obtain⟨es,clock,hb,hs,hk,h1,h2,h3⟩:=h;have hroom:es.size<maxLen:=by omega
 rcases K.find w hkey es.toList hk with⟨e1,e2⟩|⟨j,x,e1,e2,e3⟩
 .refine⟨setBlock w b (.map (es.push ⟨key,val,clock⟩) (clock+1)),?_,⟨es.push ⟨key,val,clock⟩,clock+1,heap_setBlock_same hb _,by simp;omega,λx hx=>?_,λx hx=>?_,λky v hv=>?_,?_⟩,⟨rfl,rfl,rfl,by simp[setBlock],λi _ hi=>heap_setBlock_other hb _ (λe=>hi (by rw[e]))⟩⟩
  .simp[Instr.mapUpdate,run_underlying ht,MapKept.run_getObj_map hb,K.check w false hkey,e1,MapKept.run_setObj_map _ hb,Result.andThen,setBlock]
  .simp only[Array.toList_push,aM,dB]at hx
   rcases hx with hx|rfl
   .exact hk x hx
   .exact⟨kl,hkey⟩
  .simp only[Array.toList_push,aM,dB]at hx
   rcases hx with hx|rfl
   .rw[upd_ne (e2 x hx)];exact h1 x hx
   .exact upd_same _ _ _
  .by_cases c:ky=key
   .subst c;rw[upd_same]at hv;injection hv with hv;subst hv
    exact⟨⟨_,_,clock⟩,by simp,rfl,rfl⟩
   .rw[upd_ne c]at hv
    obtain⟨x,hx,a,d⟩:=h2 ky v hv;exact⟨x,by simp only[Array.toList_push,aM];exact .inl hx,a,d⟩
  .rw[Array.toList_push,rM]
   exact⟨h3,by simp,λx hx y hy=>by simp only[dB]at hy;subst hy;exact e2 x hx⟩
 .have hjl:j<es.toList.length:=(cK.1 e2).1
  have hxe:es.toList[j]=x:=by rw[ae hjl]at e2;injection e2
  have hlist:(es.modify j (λe'=>{ e' with key:=key,val:=val })).toList=es.toList.set j { x with key:=key,val:=val }:=by
   apply qQ;intro i;rw[ik,Array.getElem?_modify,jR,ik];by_cases c:j=i
   .subst c
    have:es[j]?=some x:=(by simpa using e2);simp[this];omega
   .simp[c]
  have hmem:∀y,y∈es.toList.set j { x with key:=key,val:=val }->(y.key=key/\y.val=val)\/(y∈es.toList/\y.key≠key):=by
   intro y hy;obtain⟨i,hi,rfl⟩:=aH.1 hy;rw[List.getElem_set];split
   .exact .inl ⟨rfl,rfl⟩
   .rename_i c
    rw[ql]at hi;refine .inr ⟨aj _,λe=>?_⟩;rcases fe i j with l|l
    .exact bP.1 h3 i j hi hjl l (by rw[hxe,e3];exact e)
    .exact bP.1 h3 j i hjl hi (by omega) (by rw[hxe,e3];exact e.symm)
  have acN:∀y,y∈es.toList->y.key≠key->y∈es.toList.set j { x with key:=key,val:=val }:=by
   intro y hy hne;obtain⟨i,hi,rfl⟩:=aH.1 hy;have c:j≠i:=λc=>by subst c;exact hne (by rw[hxe];exact e3)
   refine aH.2 ⟨i,by rw[ql];exact hi,?_⟩;rw[List.getElem_set_ne c]
  refine⟨setBlock w b (.map (es.modify j (λe'=>{ e' with key:=key,val:=val })) clock),?_,⟨es.modify j (λe'=>{ e' with key:=key,val:=val }),clock,heap_setBlock_same hb _,by simp;omega,?_,?_,?_,?_⟩,⟨rfl,rfl,rfl,by simp[setBlock],λi _ hi=>heap_setBlock_other hb _ (λe=>hi (by rw[e]))⟩⟩
  .have hj:es[j]?=some x:=by simpa using e2
   simp[Instr.mapUpdate,run_underlying ht,MapKept.run_getObj_map hb,K.check w false hkey,e1,hj,e3,K.stays w hkey,MapKept.run_setObj_map _ hb,Result.andThen,setBlock]
  .rw[hlist];intro y hy
   rcases hmem y hy with h|h
   .exact⟨kl,by rw[h.1];exact hkey⟩
   .exact hk y h.1
  .rw[hlist];intro y hy
   rcases hmem y hy with h|h
   .rw[h.1,h.2];exact upd_same _ _ _
   .rw[upd_ne h.2];exact h1 y h.1
  .rw[hlist];intro ky v hv
   by_cases c:ky=key
   .subst c;rw[upd_same]at hv;injection hv with hv;subst hv
    exact⟨_,aH.2 ⟨j,by rw[ql];exact hjl,rfl⟩,by rw[List.getElem_set_self],by rw[List.getElem_set_self]⟩
   .rw[upd_ne c]at hv
    obtain⟨y,hy,a,d⟩:=h2 ky v hv;exact⟨y,acN y hy (by rw[a];exact c),a,d⟩
  .rw[hlist,bP]
   intro a c ha hc hac;rw[ql]at ha hc;have hne:=bP.1 h3 a c ha hc hac;rw[List.getElem_set,List.getElem_set];by_cases d1:j=a
   .subst d1
    rw[if_pos rfl,if_neg (by omega)];rw[hxe,e3]at hne;exact hne
   .rw[if_neg d1]
    by_cases d2:j=c
    .subst d2
     rw[if_pos rfl];rw[hxe,e3]at hne;exact hne
    .rw[if_neg d2];exact hne
end
section
open Go.RowKit
open Go.Maps (Keyed)
theorem BM:Keyed prog 9:=Go.Maps.string_keyed underlying9
theorem oz:Keyed prog 3:=Go.Maps.int_keyed underlying3
theorem YH:laidOutB prog=true:=by kernel_rfl
theorem rowP:(219:TypeId)<(prog).types.size:=of_decide_eq_true (by kernel_rfl)
theorem Zr:∃m,(prog).types.size=m+1:=by
 have h:=rowP
 revert h
 generalize (prog).types.size=q;intro h;cases q with
 |zero=>exact absurd h (Nat.not_lt_zero _)
 |succ m=>exact⟨m,rfl⟩
theorem KR:(prog).keyTypeAt 2 219=true:=by kernel_rfl
theorem Fq:Keyed prog 219:=Keyed.of_law (deep_law_laid YH (m:=2) (by decide) rowP KR (by rw[underlying219]))
theorem Ud:(prog).cellsOf 219=2:=by kernel_rfl
theorem aaZ:(prog).cellsOf 3=1:=by kernel_rfl
theorem R4:(prog).keyType 219=true:=by kernel_rfl
theorem R9{i:Nat}(h:i<1000000000):(Lit.int .i64 (i:Int)).wf=true:=by
 have h1:IntKind.min .i64=-9223372036854775808:=by rfl
 have h2:IntKind.max .i64=9223372036854775807:=by rfl
 simp only[Lit.wf,dS,decide_eq_true_eq,h1,h2];omega
theorem R5(s:ByteArray)(h:s.size<=maxLen):∃l,keyOf prog 9 (.string s)=some l:=by
 exact⟨_,by simp[keyOf,underlying9,mapKey,h];rfl⟩
theorem qN(i:Nat)(h:i<1000000000):∃l,keyOf prog 3 (.int .i64 (i:Int))=some l:=
 ⟨_,Go.Maps.keyOf_int_mk underlying3 (R9 h)⟩
theorem Ng(d:Nat)(i:Nat)(h:i<1000000000):(prog).keyLits (d+1) 3 [.int .i64 (i:Int)]=some [.int .i64 (i:Int)]:=by
 simp[Program.keyLits,underlying3,R9 h]
theorem ZH(a b:Nat)(ha:a<1000000000)(hb:b<1000000000):∃l,keyOf prog 219 (.agg #[.int .i64 (a:Int),.int .i64 (b:Int)])=some l:=by
 have hf:(Value.agg #[.int .i64 (a:Int),.int .i64 (b:Int)]).formed prog 219=true:=by simp[Value.formed,underlying219,Ud]
 obtain⟨m,hm⟩:=Zr;have hl:(prog).keyLits (m+1+1) 219 [.int .i64 (a:Int),.int .i64 (b:Int)]=some [.int .i64 (a:Int),.int .i64 (b:Int)]:=by
  unfold Program.keyLits;simp only[underlying219,Ud,aaZ,l9,List.length_nil];simp[List.range,List.range.loop,Ng m a ha,Ng m b hb]
 exact⟨_,by simp only[keyOf,underlying219,hf,R4,Value.cells,hm,hl];rfl⟩
section
variable {P:Program} {w:World} {ops:Array Oper} {rest:List Oper} {o:Oper} {a:Act} {Q:Exit->Act->World->Prop}
theorem vI(hg:o.guard=none)(m x:Operand)(t:TypeId)(c:Bool)(hop:o.op=Op.lookup t m x c)(k e:TypeId)(K:Keyed P k)(ht:P.underlying t=some (.map k e))(z:Value)(hz:(zeroValue e).run P w=.ok z w)(b n:Nat)(f:Value->Option Value)
 (hm:a.eval m=.map (some b)) (h:fM P k w b n f) (key:Value) (hx:a.eval x=key) (hkey:∃kl,keyOf P k key=some kl)
 (hK:wpList P ops Q rest (a.put o.dst (if c then .tuple #[(f key).getD z,.bool (f key).isSome]else(f key).getD z)) w):wpList P ops Q (o :: rest) a w:=by
 refine wpList_plain hg λK' hK'=>?_
 obtain⟨kl,hkl⟩:=hkey;have hrun:=h.look K ht hz hkl c;unfold Oper.wp;simp[execOp,hop,hm,hx,hrun,Result.andThen];exact hK' _ _ (by simpa using hK)
theorem iO(hg:o.guard=none)(m x v:Operand)(t:TypeId)(hop:o.op=Op.mapUpdate t m x v)(k e:TypeId)(K:Keyed P k)(ht:P.underlying t=some (.map k e))(b n:Nat)(f:Value->Option Value)
 (hm:a.eval m=.map (some b)) (h:fM P k w b n f) (hn:n<maxLen) (key val:Value) (hx:a.eval x=key) (hv:a.eval v=val) (hkey:∃kl,keyOf P k key=some kl)
 (hK:∀w',fM P k w' b (n+1) (upd (λ_ _=>Classical.propDecidable _) f key val)->w.grownBy w' (some b)->wpList P ops Q rest (a.put o.dst undef) w'):wpList P ops Q (o :: rest) a w:=by
 refine wpList_plain hg λK' hK'=>?_
 obtain⟨kl,hkl⟩:=hkey;obtain⟨w',hrun,r1,r2⟩:=h.store K ht hn hkl (val:=val);unfold Oper.wp;simp[execOp,hop,hm,hx,hv,hrun,Result.andThen];exact hK' _ _ (hK w' r1 r2)
end
theorem fM.room{P:Program}{k:TypeId}{w:World}{b n:Nat}{f:Value->Option Value}(h:fM P k w b n f)(L:List Value)(hL:∀key v,f key=some v->key∈L):fM P k w b L.length f:=by
 obtain⟨es,c,h1,h2,h3,h4,h5,h6⟩:=h;refine⟨es,c,h1,?_,h3,h4,h5,h6⟩;have hn:(es.toList.map (·.key)).Nodup:=by rw[List.Nodup,gP];exact h6
 have hs:∀x,x∈es.toList.map (·.key)->x∈L:=λx hx=>by
  obtain⟨y,hy,rfl⟩:=ay.1 hx;exact hL _ _ (h4 y hy)
 have:=hn.length_le_of_subset hs
 simpa using this
end
