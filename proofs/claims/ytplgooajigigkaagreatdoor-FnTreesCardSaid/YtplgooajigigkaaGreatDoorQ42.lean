/- 42 -/
import Derived.Test.YtplgooajigigkaaGreatDoorQ22
import Derived.Test.YtplgooajigigkaaGreatDoorQ26
import Derived.Test.YtplgooajigigkaaGreatDoorQ41
set_option maxRecDepth 100000
set_option maxHeartbeats 4000000
namespace Go.Proofs.YtplgooajigigkaaGreatDoor
open Tryz
section
open Go.RowKit
open aZ (cZ Nd vl Same)
variable {us:List Int} {sg:List UInt8} {left:Bool} {Ts:List (List Int × ByteArray)}
theorem Wq{s:ByteArray}:∀u∈([Value.string s]:List Value),u.oneCell'=true:=by
 intro u hu;simp at hu;subst hu;rfl
def JV(t:List Int × List UInt8):List UInt8:=t.2++txt 32 t.1
def UT(us:List Int)(sg:List UInt8)(left:Bool)(w:World)(en:Ending)(w':World):Prop:=
 ∃(v:Value) (ss:List ByteArray),en=.returned v/\w'.ownsRow w.heap.size 9 1 v ss.length (ss.map Value.string)/\ss.map (·.data.toList)=((dU sg left us.length).map λe=>JV (iJ us sg e,lW us sg e))/\Ext w w'
theorem KQ{k:Nat}(h:kE us sg left k Ts):Ts.map (λt=>JV (t.1,t.2.data.toList))=(dU sg left k).map λe=>JV (iJ us sg e,lW us sg e):=by
 have:=congrArg (λl=>l.map JV) h
 simpa [eP,Function.comp_def]using this
theorem O1(g:GT us sg)(h:kE us sg left us.length Ts){i:Nat}(hi:i<Ts.length):GT (Ts[i]).1 (Ts[i]).2.data.toList:=by
 obtain⟨e,h1,h2,h3⟩:=h.at hi;rw[h2,h3];exact(qh g (uR (fq h1))).1
theorem Iz(s:ByteArray)(us:List Int)(sg:List UInt8)(left:Bool)(g:GT us sg)(hs:s.data.toList=sg++txt 32 us)(w:World)(hG:Qp w):
 Calls prog 44 #[.string s,.bool left] w (UT us sg left w):=by
 obtain⟨i0,hi0,hz0,hz1,hz2⟩:=info_parts zO;have Pj:=g.small;have hx0:Ext w (w.alloc (.cells #[] 9)):=by go_grown
 have hr0:(w.alloc (.cells #[] 9)).ownsRow w.heap.size 9 1 (.slice (some ⟨w.heap.size,0,none⟩) 0 0) 0 []:=World.ownsRow_made w #[] 0 (by omega) (by decide) (by simp);have Vr:(w.alloc (.cells #[] 9)).heap.size=w.heap.size+1:=by simp
 go_enter Tryz.func44,Tryz.ntmps44
 go_wp2_with (first
  |(go_at_call 45;refine(JX s us sg g hs _ (hG.ext hx0)).mono ?_;rintro e w1 ⟨vo,so,rfl,hI,hso,hfr,hx1⟩;have hGs:GT us so.data.toList:=by rw[hso];exact g)
  |(go_at_call 46;refine(TT _ us so left _ hI hGs).mono ?_;rintro e w2 ⟨v,Ts,rfl,hR,hC,hx2⟩;obtain⟨xsT,aT,cT,rfl,hT1⟩:=id hR))
 generalize w.alloc (.cells #[] 9)=W0 at *;clear hT1;rw[hso]at hC;have hE1:=ah hx0 hx1;have hE2:=ah hE1 hx2;have hz1':=hx1.size;have hr2:=bW (bW hr0 hx1) hx2;have hTl:Ts.length<=8:=by have:=hC.len;have h2:=lV sg us.length;cases left <;> omega
 have HC:=aI hC;clear hC hr0;go_loopw [5,7,14] (λov _ ii wr=>∃(k:Nat) (ss:List ByteArray),k<=Ts.length/\ii=.int .i64 ((k:Nat):Int)/\Ext w wr/\wr.ownsRow w.heap.size 9 1 ov ss.length (ss.map Value.string)/\(∀b,ov.ownBlock=some b->b<w1.heap.size\/w2.heap.size<=b)/\w2.heap.size<=wr.heap.size/\Rows Cw 2 (λb=>w1.heap.size<=b/\b<w2.heap.size) wr (.slice aT Ts.length cT) Ts/\Hid (ss.map (·.data.toList)=(Ts.take k).map (λt=>JV (t.1,t.2.data.toList)))) (λ_ _ ii _=>Ts.length-(intOf ii).toNat)
 case atStart=>exact⟨0,[],az _,rfl,hE2,hr2,λb hb=>by simp[Value.ownBlock]at hb;omega,ax _,hR,by simp[Hid]⟩
 case round=>
  clear hr2 hR hE2;obtain⟨k,ss,hk,rfl,hE,hown,hsep,hzr,hR,HS⟩:=hrel;by_cases hlt:k<Ts.length
  .have h1:((k:Nat):Int)<((Ts.length:Nat):Int):=by omega
   obtain⟨b,cap,aU,cU,e1,hSb,c0,c1,WW⟩:=hR.tree hlt;simp only[gz,true_and]at e1;obtain⟨rfl,rfl⟩:=e1;have FH:=O1 g HC.out hlt;have hsl:ss.length<=8:=(by have:=congrArg List.length HS.out;simp at this;omega);obtain⟨ao,co,rfl,hco,_⟩:=bu hown;have hgl:=hG.ext hE;have htk:Ts.take (k+1)=Ts.take k++[Ts[k]]:=aW hlt;have NQ:=aI htk;clear htk;generalize Ts[k]=tk at *;have hIk:=WW.out;have hx3:Ext wr (wr.alloc (.cells #[.slice aU tk.1.length cU,.string tk.2] 43)):=(by go_grown);have aho:=hIk.ext hx3;have agM:=hgl.1.ext hx3
   go_wp2_with (first
    |(go_at_call 43;refine(Gz _ tk.1 tk.2 _ aho FH agM).mono ?_;rintro e w3 ⟨st,rfl,hst,hx4⟩;have hx34:=ah hx3 hx4;have hown3:=bW hown hx34;have pG:=ah hE hx34;have hz3:=pG.size)
    |(at_builtin;refine dm rfl (.tmp 18) (.tmp 21) 74 rfl w.heap.size 9 i0 (.string ⟨#[]⟩) 1 16 underlying74 hi0 hz0 hz1 hz2 rfl (by decide) (.slice ao ss.length co) ss.length (ss.map Value.string) rfl (hown3.alloc _) _ 1 _ [.string st] rfl rfl (.inr ⟨_,rfl,dA (bY _ _ _)⟩) Wq (by unfold maxLen;omega) (by omega) (by rw[eX];omega) ?_;intro v5 w5 ji hg5 hl5))
   go_roundw
   case rel=>
    have z5:=hg5.size;rw[eX]at z5;have z34:=hx34.size;have zU:Ext w w5:=dw (bJ pG _) hg5 (λb hb=>(hown.lt b hb).1);have IQ:∀b,v5.ownBlock=some b->b<w1.heap.size\/w2.heap.size<=b:=λb hb=>by
     rcases hl5 with h|⟨q,h,h2⟩
     .exact hsep b (by rw[<-h];exact hb)
     .rw[h]at hb;injection hb with hb;subst hb;rw[eX]at h2;omega
    have Nu:=((hR.ext hx34).ext (bJ (fJ _ _) (.cells #[.string st] 9))).keep (G:=λb=>(Value.slice ao ss.length co).ownBlock=some b) ⟨hg5.os,hg5.tape,hg5.output,hg5.size,λk hk hn=>hg5.block k hk (λe=>hn e.symm)⟩ (λb hb e=>by have:=hsep b e;omega);refine⟨k+1,ss++[st],by omega,by go_num,zU,by rw[aK,bz];exact ji,IQ,by omega,Nu,?_⟩;show _=_;rw[NQ.out,bz,bz,HS.out];simp[JV,hst]
   case measure=>simp[intOf];omega
  .have h1:¬(((k:Nat):Int)<((Ts.length:Nat):Int)):=by omega
   have hke:k=Ts.length:=(by omega);have Mr:=aI hke;clear hke;go_wp2
   go_ret
   exact⟨_,ss,rfl,hown,by rw[HS.out,Mr.out,cO];exact KQ HC.out,hE⟩
end
section
open Go.RowKit
open aZ (cZ Nd vl Gm Canon eU)
variable {pp h kb b m i f:Nat} {s s':iK} {w w' w0:World} {D E:cZ} {fk:Value->Option Value} {us:List Int} {sg:List UInt8} {sb:ByteArray} {left:Bool} {l r:List Nat}
def Told(us:List Int)(sg:List UInt8)(sb:ByteArray):Prop:=GT us sg/\sb.data.toList=sg++txt 32 us
def oZ(D:cZ)(fk:Value->Option Value):Prop:=∀key v,fk key=some v->∃us sg sb i,key=.string sb/\Told us sg sb/\v=.int .i64 ((i:Nat):Int)/\i<D.length/\Canon (vl D i)/\eU (vl D i) (tg us sg)
structure CE(w0 w:World)(pp h kb:Nat)(s:iK)(m:Nat):Prop where
 pool:bX w pp h s
 all:∀x,x<s.D.length->(s.cn x).isSome
 kn:∃fk,fM prog 9 w kb m fk/\oZ s.D fk
 kb1:¬jI pp h s kb
 Vq:¬s.S kb
 kb0:w0.heap.size<=kb
 base:∀b,jI pp h s b->w0.heap.size<=b
 ext:Ext w0 w
structure tK(pp h kb:Nat)(s:iK)(w:World)(s':iK)(w':World):Prop where
 keep:dW (λb=>jI pp h s b\/b=kb) w w'
 own:∀b,jI pp h s' b->jI pp h s b\/w.heap.size<=b
 lists:∀b,s'.S b->s.S b\/w.heap.size<=b
 more:∃E,s'.D=s.D++E
theorem tK.ext(hx:Ext w w'):tK pp h kb s w s w':=⟨iM hx,λ_ h=>.inl h,λ_ h=>.inl h,⟨[],by simp⟩⟩
theorem tK.trans{pp h kb:Nat}{s1 s2 s3:iK}{w1 w2 w3:World}(k:tK pp h kb s1 w1 s2 w2)(m:tK pp h kb s2 w2 s3 w3)(hk:kb<w1.heap.size):tK pp h kb s1 w1 s3 w3:=by
 have hz:=k.keep.size;refine⟨k.keep.trans m.keep (λx hx hi=>?_),λx hx=>?_,λx hx=>?_,?_⟩
 .rcases hi with h|h
  .rcases k.own x h with h|h
   .exact .inl h
   .omega
  .exact .inr h
 .rcases m.own x hx with h1|h1
  .exact k.own x h1
  .exact .inr (by omega)
 .rcases m.lists x hx with h1|h1
  .exact k.lists x h1
  .exact .inr (by omega)
 .obtain⟨E,e⟩:=k.more
  obtain⟨F,f⟩:=m.more;exact⟨E++F,by rw[f,e,dh]⟩
theorem tK.pool(k:jd pp h s w s' w'):tK pp h kb s w s' w':=
 ⟨⟨k.keep.os,k.keep.tape,k.keep.output,k.keep.size,λb hb hn=>k.keep.block b hb (λh=>hn (.inl h))⟩,k.own,k.lists,k.more⟩
def Aside(pp h kb:Nat)(s:iK)(w:World)(b:Nat):Prop:=b<w.heap.size/\¬jI pp h s b/\¬s.S b/\b≠kb
theorem Aside.go(a:Aside pp h kb s w b)(k:tK pp h kb s w s' w'):Aside pp h kb s' w' b/\w'.heap[b]?=w.heap[b]?:=by
 have hz:=k.keep.size;obtain⟨a1,a2,a3,a4⟩:=a;refine⟨⟨by omega,λh1=>?_,λh1=>?_,a4⟩,k.keep.block b a1 (λh1=>?_)⟩
 .rcases k.own b h1 with h|h
  .exact a2 h
  .omega
 .rcases k.lists b h1 with h|h
  .exact a3 h
  .omega
 .rcases h1 with h|h
  .exact a2 h
  .exact a4 h
theorem CE.aside(k:CE w0 w pp h kb s m)(h1:w.heap.size<=b)(h2:b<w'.heap.size):Aside pp h kb s w' b:=by
 obtain⟨fk,hM,_⟩:=k.kn;refine⟨h2,λh=>?_,λh=>?_,λh=>?_⟩
 .have:=k.pool.Bq h;omega
 .have:=k.pool.uI h;omega
 .have:=hM.lt;omega
theorem CE.ext'(k:CE w0 w pp h kb s m)(hx:Ext w w'):CE w0 w' pp h kb s m:=by
 obtain⟨fk,hM,hO⟩:=k.kn;exact⟨k.pool.ext hx,k.all,⟨fk,hM.keep (hx.block _ hM.lt),hO⟩,k.kb1,k.Vq,k.kb0,k.base,ah k.ext hx⟩
theorem CE.side{G:Nat->Prop}(k:CE w0 w pp h kb s m)(hk:dW G w w')(hG:∀b,G b->Aside pp h kb s w b)(hb:∀b,G b->w0.heap.size<=b):CE w0 w' pp h kb s m:=by
 obtain⟨fk,hM,hO⟩:=k.kn;exact⟨k.pool.keep hk (λb h1 h2=>(hG b h2).2.1 h1) (λb h1 h2=>(hG b h2).2.2.1 h1),k.all,⟨fk,hM.keep (hk.block _ hM.lt (λh=>(hG _ h).2.2.2 rfl)),hO⟩,k.kb1,k.Vq,k.kb0,k.base,jQ k.ext hk hb⟩
theorem oZ.more(h:oZ D fk)(g:aZ.WF D)(g':aZ.WF (D++E)):oZ (D++E) fk:=by
 intro key v hv;obtain⟨us,sg,sb,i,h1,h2,h3,h4,h5,h6⟩:=h key v hv;refine⟨us,sg,sb,i,h1,h2,h3,by rw[aK];omega,?_,?_⟩
 .rw[aZ.gV g g' i h4];exact h5
 .rw[aZ.gV g g' i h4];exact h6
theorem oZ.add(h:oZ D fk)(ht:Told us sg sb)(hi:i<D.length)(hc:Canon (vl D i))(he:eU (vl D i) (tg us sg)):oZ D (upd (λ_ _=>Classical.propDecidable _) fk (.string sb) (.int .i64 ((i:Nat):Int))):=by
 intro key v hv;rcases xA hv with⟨rfl,rfl⟩|hv
 .exact⟨us,sg,sb,i,rfl,ht,rfl,hi,hc,he⟩
 .exact h key v hv
theorem VW{Yu:List Int}{Vl:List UInt8}(h:Told us sg sb)(k:Told Yu Vl sb):us=Yu/\sg=Vl:=
 Gy (by decide) h.1 k.1 (h.2.symm.trans k.2)
def F5(D:cZ)(us:List Int)(sg:List UInt8)(left:Bool)(l:List Nat):Prop:=(∀j (h:j<l.length),∃e,(dU sg left us.length)[j]?=some e/\l[j]<D.length/\eU (vl D l[j]) (tg (iJ us sg e) (lW us sg e)))
theorem F5.nil(D:cZ)(us:List Int)(sg:List UInt8)(left:Bool):F5 D us sg left []:=λj h=>absurd h (by simp)
theorem F5.more(h:F5 D us sg left l)(g:aZ.WF D)(g':aZ.WF (D++E)):F5 (D++E) us sg left l:=λj hj=>by
 obtain⟨e,h1,h2,h3⟩:=h j hj;exact⟨e,h1,by rw[aK];omega,by rw[aZ.gV g g' _ h2];exact h3⟩
theorem F5.add(h:F5 D us sg left l){e:Nat}(he:(dU sg left us.length)[l.length]?=some e)(hi:i<D.length)(hv:eU (vl D i) (tg (iJ us sg e) (lW us sg e))):F5 D us sg left (l++[i]):=λj hj=>by
 by_cases c:j<l.length
 .rw[dN c];exact h j c
 .have hj':j=l.length:=by simp at hj;omega
  subst hj';simp only[fO (ax _),Nat.sub_self,l5];exact⟨e,he,hi,hv⟩
theorem F5.lt(h:F5 D us sg left l):∀x,x∈l->x<D.length:=λx hx=>by
 obtain⟨j,hj,rfl⟩:=aH.1 hx;obtain⟨e,_,h2,_⟩:=h j hj;exact h2
theorem RX{D':cZ}(g:GT us sg)(hw:aZ.WF D)(hw':aZ.WF D')(hl:F5 D us sg true l)(hr:F5 D us sg false r)(nl:l.length=(dU sg true us.length).length)(nr:r.length=(dU sg false us.length).length)(p:jA D l r D' i):eU (vl D' i) (tg us sg):=by
 obtain⟨p1,p2⟩:=p;have hE:∃E,D'=D++E:=by
  rcases p2 with e|e
  .exact⟨[],by rw[e];simp⟩
  .exact⟨_,e⟩
 obtain⟨E,rfl⟩:=hE;have hl:=hl.more hw hw';have hr:=hr.more hw hw';rw[aZ.mK hw' p1,MI g]
 have side:∀{left:Bool} {q:List Nat},F5 (D++E) us sg left q->q.length=(dU sg left us.length).length->
  (∀x,x∈(aS q).map (vl (D++E))->∃y,y∈(dU sg left us.length).map (λe=>tg (iJ us sg e) (lW us sg e))/\eU x y)/\(∀y,y∈(dU sg left us.length).map (λe=>tg (iJ us sg e) (lW us sg e))->∃x,x∈(aS q).map (vl (D++E))/\eU x y):=by
  intro left q hq hn;refine⟨λx hx=>?_,λy hy=>?_⟩
  .obtain⟨a,ha,rfl⟩:=ay.1 hx
   obtain⟨j,hj,rfl⟩:=aH.1 (bU.1 ha);obtain⟨e,h1,h2,h3⟩:=hq j hj;exact⟨_,ay.2 ⟨e,fq h1,rfl⟩,h3⟩
  .obtain⟨e,he,rfl⟩:=ay.1 hy
   obtain⟨j,hj,rfl⟩:=aH.1 he;obtain⟨e',h1,h2,h3⟩:=hq j (by omega);rw[ae hj]at h1;injection h1 with h1;rw[<-h1]at h3;exact⟨_,ay.2 ⟨_,bU.2 (aj (by omega)),rfl⟩,h3⟩
 exact RN (side hl nl).1 (side hl nl).2 (side hr nr).1 (side hr nr).2
theorem Ie{N:Nat}{cn:Nat->Option Nat}(h:∀x,x<N->x≠f->(cn x).isSome):miss N cn<=1:=by
 unfold miss;have key:∀l:List Nat,l.Nodup->(∀x,x∈l->x<N)->(l.filter λx=>(cn x).isNone).length<=1:=by
  intro l hn hl;have hs:∀x,x∈l.filter (λx=>(cn x).isNone)->x=f:=λx hx=>by
   obtain⟨h1,h2⟩:=iY.1 hx;by_cases c:x=f
   .exact c
   .have:=h x (hl x h1) c
    cases e:cn x with
    |none=>rw[e]at this;cases this
    |some j=>simp[e]at h2
  have hd:(l.filter λx=>(cn x).isNone).Nodup:=hn.sublist List.filter_sublist
  match hq:l.filter (λx=>(cn x).isNone)with
  |[]=>simp
  |[a]=>simp
  |a :: b :: t=>
   rw[hq]at hs hd;have h1:=hs a (by simp);have h2:=hs b (by simp);rw[h1,h2]at hd;simp at hd
 exact key _ List.nodup_range (λx hx=>dJ.1 hx)
theorem step_done{w1 w2:World}{s1 s2:iK}{j:Nat}(K:CE w0 w pp h kb s m)(k1:jd pp h s w s1 w1)(p:jA s.D l r s1.D f)(hc:s1.cn=s.cn)(k2:jd pp h s1 w1 s2 w2)(hj:s2.cn f=some j)(G:Grow s1 f s2):
 CE w0 w2 pp h kb s2 m/\tK pp h kb s w s2 w2/\s2.D.length<=s.D.length+2/\j<s2.D.length/\Canon (vl s2.D j)/\eU (vl s2.D j) (vl s1.D f):=by
 have k:=k1.trans k2;have hl1:s1.D.length<=s.D.length+1:=by
  rcases p.2 with e|e
  .rw[e];omega
  .rw[e];simp
 have hf:f<s1.D.length:=by
  rcases fe f s1.D.length with h|h
  .exact h
  .have:=p.1;rw[ic h]at this;cases this
 have hk1:∀x,x<s1.D.length->x≠f->(s1.cn x).isSome:=by
  intro x hx hxf;rw[hc];by_cases c:x<s.D.length
  .exact K.all x c
  .exfalso
   rcases p.2 with e|e
   .rw[e]at hx;omega
   .have hxe:x=s.D.length:=by rw[e]at hx;simp at hx;omega
    have h1:s1.D[x]?=some (aS l,aS r):=(by rw[e,hxe,dC (ax _)];simp);exact hxf ((List.getElem?_inj hx k1.pool.good.nodup).1 (h1.trans p.1.symm))
 have hm:=Ie hk1;have hg:=G.1 s1.D.length hf (ax _);obtain⟨c1,c2,-⟩:=k2.pool.uT.ok f j hj;have hjl:=(k2.pool.uT.lt f j hj).2;obtain⟨fk,hM,hO⟩:=K.kn;have hkl:=hM.lt;obtain⟨E,hE⟩:=k.more;have hw2:=k.pool.good.wf;have hO2:oZ s2.D fk:=by rw[hE]at hw2 ⊢;exact hO.more K.pool.good.wf hw2
 refine⟨⟨k.pool,λx hx=>?_,⟨fk,hM.keep (k.keep.block _ hkl K.kb1),hO2⟩,λh1=>?_,λh1=>?_,K.kb0,λb hb=>?_,jQ K.ext k.keep K.base⟩,tK.pool k,by omega,hjl,c1,?_⟩
 .by_cases c:x<s1.D.length
  .by_cases e:x=f
   .rw[e,hj];rfl
   .have:=hk1 x c e
    cases e2:s1.cn x with
    |none=>rw[e2]at this;cases this
    |some y=>rw[k2.known x y e2];rfl
  .exact G.2.2 x (by omega) hx
 .rcases k.own kb h1 with h|h
  .exact K.kb1 h
  .omega
 .rcases k.lists kb h1 with h|h
  .exact K.Vq h
  .omega
 .rcases k.own b hb with h|h
  .exact K.base b h
  .have:=K.ext.size;omega
 .rw[k2.vl k1.pool.good.wf hf]at c2;exact c2
end
section
open Go.RowKit
open aZ (cZ Nd vl Gm Canon eU)
theorem tK.side{pp h kb:Nat}{s s1:iK}{w w1 w3:World}{G:Nat->Prop}(k:tK pp h kb s w s1 w1)(hk:dW G w1 w3)(hG:∀b,G b->w.heap.size<=b):tK pp h kb s w s1 w3:=
 ⟨k.keep.trans (G:=G) (F:=λb=>jI pp h s b\/b=kb) hk (λx hx hg=>by have:=hG x hg;omega),k.own,k.lists,k.more⟩
structure GM(w wr:World)(pp h kb:Nat)(s:iK)(ab:Nat)(v0 v1:Value)(l0 l1:List Nat)(X:Nat->Prop):Prop where
 arr:wr.heap[ab]?=some (.cells #[v0,v1] 117 (0,0))
 r0:wr.ownsRow w.heap.size 3 1 v0 l0.length ((bV l0).map (Value.int .i64))
 r1:wr.ownsRow w.heap.size 3 1 v1 l1.length ((bV l1).map (Value.int .i64))
 a0:∀b,v0.ownBlock=some b->Aside pp h kb s wr b/\b≠ab
 a1:∀b,v1.ownBlock=some b->Aside pp h kb s wr b/\b≠ab
 a01:∀b,v0.ownBlock=some b->v1.ownBlock≠some b
 UF:Aside pp h kb s wr ab
 X9:w.heap.size<=ab
 qw:∀b,X b->Aside pp h kb s wr b/\v0.ownBlock≠some b/\v1.ownBlock≠some b/\b≠ab
section
variable {w0 w wr w2 w3 wa:World} {pp h kb m ab:Nat} {s s':iK} {v0 v1 v':Value} {l0 l1:List Nat} {X Y:Nat->Prop}
variable {i n:Nat} {ys:List Value}
theorem GM.go(g:GM w wr pp h kb s ab v0 v1 l0 l1 X)(k:tK pp h kb s wr s' w2):GM w w2 pp h kb s' ab v0 v1 l0 l1 X/\(∀b,X b->w2.heap[b]?=wr.heap[b]?):=by
 have hG:∀b,Aside pp h kb s wr b->¬(jI pp h s b\/b=kb):=λb a h1=>by
  rcases h1 with h1|h1
  .exact a.2.1 h1
  .exact a.2.2.2 h1
 refine⟨⟨((g.UF.go k).2).trans g.arr,aV g.r0 k.keep (λb hb=>hG b (g.a0 b hb).1),aV g.r1 k.keep (λb hb=>hG b (g.a1 b hb).1),λb hb=>⟨((g.a0 b hb).1.go k).1,(g.a0 b hb).2⟩,λb hb=>⟨((g.a1 b hb).1.go k).1,(g.a1 b hb).2⟩,g.a01,(g.UF.go k).1,g.X9,λb hb=>⟨((g.qw b hb).1.go k).1,(g.qw b hb).2⟩⟩,λb hb=>((g.qw b hb).1.go k).2⟩
theorem GM.mono(g:GM w wr pp h kb s ab v0 v1 l0 l1 X)(hX:∀b,Y b->X b):GM w wr pp h kb s ab v0 v1 l0 l1 Y:=
 ⟨g.arr,g.r0,g.r1,g.a0,g.a1,g.a01,g.UF,g.X9,λb hb=>g.qw b (hX b hb)⟩
theorem GM.ad6(g:GM w wr pp h kb s ab v0 v1 l0 l1 X)(K:CE w0 wr pp h kb s m)(hx:Ext wr w2)(hY:∀b,Y b->X b\/(wr.heap.size<=b/\b<w2.heap.size)):GM w w2 pp h kb s ab v0 v1 l0 l1 Y:=by
 obtain⟨g2,-⟩:=g.go (tK.ext hx);refine⟨g2.arr,g2.r0,g2.r1,g2.a0,g2.a1,g2.a01,g2.UF,g2.X9,λb hb=>?_⟩;rcases hY b hb with h1|⟨h1,h2⟩
 .exact g2.qw b h1
 .refine⟨K.aside h1 h2,λe=>?_,λe=>?_,λe=>?_⟩
  .have:=(g.a0 b e).1.1;omega
  .have:=(g.a1 b e).1.1;omega
  .have:=g.UF.1;omega
theorem GM.Zw(g:GM w wr pp h kb s ab v0 v1 l0 l1 X)(hx:Ext wr wa)(hz:wr.heap.size<=wa.heap.size)(K:CE w0 wr pp h kb s m)(hg:wa.grownBy w2 v0.ownBlock)(ho:w2.ownsRow w.heap.size 3 1 v' n ys)(hn:n=(l0++[i]).length)(hy:ys=(bV (l0++[i])).map (Value.int .i64))(hl:lY wa v0 v'):
 GM w (w2.setCell ⟨ab,0,none⟩ v') pp h kb s ab v' v1 (l0++[i]) l1 X/\dW (λb=>v0.ownBlock=some b\/b=ab) wr (w2.setCell ⟨ab,0,none⟩ v')/\(∀b,X b->(w2.setCell ⟨ab,0,none⟩ v').heap[b]?=wr.heap[b]?)/\w2.cell? ⟨ab,0,none⟩=some v0/\w2.frozen? ⟨ab,0,none⟩=false:=by
 have hkg:=gN hg;have hk1:dW (λb=>v0.ownBlock=some b\/b=ab) wr w2:=(iM hx).trans hkg (λx _ h=>.inl h);have hks:dW (λb=>v0.ownBlock=some b\/b=ab) w2 (w2.setCell ⟨ab,0,none⟩ v'):=by
  have:=dx (w:=w2) (p:=⟨ab,0,none⟩) (v:=v');exact⟨this.os,this.tape,this.output,this.size,λb hb hn=>this.block b hb (λh=>hn (.inr h))⟩
 have hk:=hk1.trans hks (λx _ h=>h);have hxz:=hkg.size;have hab:=g.UF.1;have harr:w2.heap[ab]?=some (.cells #[v0,v1] 117 (0,0)):=(hkg.block ab (by omega) (λe=>(g.a0 ab e).2 rfl)).trans ((hx.block ab hab).trans g.arr);have hL:∀b,v'.ownBlock=some b->v0.ownBlock=some b\/wr.heap.size<=b:=λb hb=>by
  rcases hl with e|⟨c,e,k⟩
  .exact .inl (e ▸ hb)
  .rw[e]at hb;injection hb with hb;exact .inr (by omega)
 have hup:∀b,Aside pp h kb s wr b->Aside pp h kb s (w2.setCell ⟨ab,0,none⟩ v') b:=λb a=>⟨aJ a.1 hk.size,a.2⟩
 have hv':∀b,v'.ownBlock=some b->Aside pp h kb s (w2.setCell ⟨ab,0,none⟩ v') b/\b≠ab:=λb hb=>by
  rcases hL b hb with e|e
  .exact⟨hup b (g.a0 b e).1,(g.a0 b e).2⟩
  .exact⟨K.aside e (aJ (ho.lt b hb).2 hks.size),by omega⟩
 subst hn hy;have Tu:∀b,v'.ownBlock=some b->¬b=ab:=λb hb=>(hv' b hb).2
 refine⟨⟨?_,aV ho (dx (p:=⟨ab,0,none⟩)) Tu,aV g.r1 hk (λb hb e=>?_),hv',λb hb=>⟨hup b (g.a1 b hb).1,(g.a1 b hb).2⟩,λb hb e=>?_,hup ab g.UF,g.X9,λb hb=>⟨hup b (g.qw b hb).1,λe=>?_,(g.qw b hb).2.2⟩⟩,hk,λb hb=>hk.block b (g.qw b hb).1.1 (λe=>?_),bI w2 ab 0 _ _ _ harr,iW w2 ab 0 _ _ harr⟩
 .have:=iV w2 ab 0 _ _ v' harr;exact this
 .rcases e with e|e
  .exact g.a01 b e hb
  .exact(g.a1 b hb).2 e
 .rcases hL b hb with h1|h1
  .exact g.a01 b h1 e
  .have:=(g.a1 b e).1.1;omega
 .rcases hL b e with h1|h1
  .exact(g.qw b hb).2.1 h1
  .have:=(g.qw b hb).1.1;omega
 .rcases e with e|e
  .exact(g.qw b hb).2.1 e
  .exact(g.qw b hb).2.2.2 e
theorem GM.Hm(g:GM w wr pp h kb s ab v0 v1 l0 l1 X)(hx:Ext wr wa)(hz:wr.heap.size<=wa.heap.size)(K:CE w0 wr pp h kb s m)(hg:wa.grownBy w2 v1.ownBlock)(ho:w2.ownsRow w.heap.size 3 1 v' n ys)(hn:n=(l1++[i]).length)(hy:ys=(bV (l1++[i])).map (Value.int .i64))(hl:lY wa v1 v'):
 GM w (w2.setCell ⟨ab,1,none⟩ v') pp h kb s ab v0 v' l0 (l1++[i]) X/\dW (λb=>v1.ownBlock=some b\/b=ab) wr (w2.setCell ⟨ab,1,none⟩ v')/\(∀b,X b->(w2.setCell ⟨ab,1,none⟩ v').heap[b]?=wr.heap[b]?)/\w2.cell? ⟨ab,1,none⟩=some v1/\w2.frozen? ⟨ab,1,none⟩=false:=by
 have hkg:=gN hg;have hk1:dW (λb=>v1.ownBlock=some b\/b=ab) wr w2:=(iM hx).trans hkg (λx _ h=>.inl h);have hks:dW (λb=>v1.ownBlock=some b\/b=ab) w2 (w2.setCell ⟨ab,1,none⟩ v'):=by
  have:=dx (w:=w2) (p:=⟨ab,1,none⟩) (v:=v');exact⟨this.os,this.tape,this.output,this.size,λb hb hn=>this.block b hb (λh=>hn (.inr h))⟩
 have hk:=hk1.trans hks (λx _ h=>h);have hxz:=hkg.size;have hab:=g.UF.1;have harr:w2.heap[ab]?=some (.cells #[v0,v1] 117 (0,0)):=(hkg.block ab (by omega) (λe=>(g.a1 ab e).2 rfl)).trans ((hx.block ab hab).trans g.arr);have hL:∀b,v'.ownBlock=some b->v1.ownBlock=some b\/wr.heap.size<=b:=λb hb=>by
  rcases hl with e|⟨c,e,k⟩
  .exact .inl (e ▸ hb)
  .rw[e]at hb;injection hb with hb;exact .inr (by omega)
 have hup:∀b,Aside pp h kb s wr b->Aside pp h kb s (w2.setCell ⟨ab,1,none⟩ v') b:=λb a=>⟨aJ a.1 hk.size,a.2⟩
 have hv':∀b,v'.ownBlock=some b->Aside pp h kb s (w2.setCell ⟨ab,1,none⟩ v') b/\b≠ab:=λb hb=>by
  rcases hL b hb with e|e
  .exact⟨hup b (g.a1 b e).1,(g.a1 b e).2⟩
  .exact⟨K.aside e (aJ (ho.lt b hb).2 hks.size),by omega⟩
 subst hn hy;have Tu:∀b,v'.ownBlock=some b->¬b=ab:=λb hb=>(hv' b hb).2
 refine⟨⟨?_,aV g.r0 hk (λb hb e=>?_),aV ho (dx (p:=⟨ab,1,none⟩)) Tu,λb hb=>⟨hup b (g.a0 b hb).1,(g.a0 b hb).2⟩,hv',λb hb e=>?_,hup ab g.UF,g.X9,λb hb=>⟨hup b (g.qw b hb).1,(g.qw b hb).2.1,λe=>?_,(g.qw b hb).2.2.2⟩⟩,hk,λb hb=>hk.block b (g.qw b hb).1.1 (λe=>?_),bI w2 ab 1 _ _ _ harr,iW w2 ab 1 _ _ harr⟩
 .have:=iV w2 ab 1 _ _ v' harr;exact this
 .rcases e with e|e
  .exact g.a01 b hb e
  .exact(g.a0 b hb).2 e
 .rcases hL b e with h1|h1
  .exact g.a01 b hb h1
  .have:=(g.a0 b hb).1.1;omega
 .rcases hL b e with h1|h1
  .exact(g.qw b hb).2.2.1 h1
  .have:=(g.qw b hb).1.1;omega
 .rcases e with e|e
  .exact(g.qw b hb).2.2.1 e
  .exact(g.qw b hb).2.2.2 e
end
end
