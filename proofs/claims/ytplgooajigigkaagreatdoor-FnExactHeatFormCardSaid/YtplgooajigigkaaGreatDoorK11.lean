/- 11 -/
import Derived.Test.YtplgooajigigkaaGreatDoorK10
import Derived.Lib.SlicesS
import Derived.Deep.DeepCutAuto
import Derived.Deep.CutBlock
set_option maxRecDepth 100000
set_option maxHeartbeats 4000000
namespace Go.Proofs.YtplgooajigigkaaGreatDoor
open Tryz
section
open Go.RowKit
open bE (dh Nd vl)
variable {w w' wr:World} {B e size n o sP root:Nat} {v vN:Value} {xs:List Value} {F:dh} {at_:List Nat}
theorem bS{G:Nat->Prop}(h:w.ownsRow B e size v n xs)(hk:fJ G w w')(hn:∀b,v.ownBlock=some b->¬G b):w'.ownsRow B e size v n xs:=by
 obtain⟨hl,h⟩:=h;refine⟨hl,?_⟩;rcases h with h|⟨g,cap,cur,rfl,hb,hg,h1⟩
 .exact .inl h
 .exact .inr ⟨g,cap,cur,rfl,hb,by rw[hk.block g (iV.1 hg).1 (hn g rfl)];exact hg,h1⟩
def KF(w:World)(o sP:Nat)(vN:Value)(b:Nat):Prop:=b=o\/b=sP\/b=w.heap.size\/vN.ownBlock=some b
structure zF(w wr:World)(o sP:Nat)(vN:Value)(root:Nat)(F:dh)(at_:List Nat):Prop where
 ext:Ext w wr
 res:wr.heap[w.heap.size]?=some (.cells #[.slice none 0 0] 30 (0,0))
 atr:wr.ownsRow w.heap.size 3 1 (.slice (some ⟨sP,0,none⟩) (root+1) (root+1)) (root+1) ((dB at_).map (Value.int .i64))
 out:wr.heap[o]?=some (.cells #[vN] 30 (0,0))
 nodes:∃xs,wr.ownsRow w.heap.size 91 2 vN F.length xs/\jE wr xs F w.heap.size (KF w o sP vN)
 a1:vN.ownBlock≠some o
 a2:vN.ownBlock≠some sP
 a3:vN.ownBlock≠some w.heap.size
 a4:o≠sP
 a5:o≠w.heap.size
 a6:sP≠w.heap.size
 a7:w.heap.size<=o
theorem bW{b:Nat}{x:Obj}(h:w.heap[b]?=some x):b<w.heap.size:=(iV.1 h).1
theorem zF.ext'(h:zF w wr o sP vN root F at_)(hx:Ext wr w'):zF w w' o sP vN root F at_:=by
 obtain⟨xs,h1,h2⟩:=h.nodes;exact⟨ah h.ext hx,by rw[hx.block _ (bW h.res)];exact h.res,dD h.atr hx,by rw[hx.block _ (bW h.out)];exact h.out,⟨xs,dD h1 hx,h2.ext hx⟩,h.a1,h.a2,h.a3,h.a4,h.a5,h.a6,h.a7⟩
theorem dH{p:Addr}:fJ (λb=>b=p.block) w (w.setCell p v):=⟨rfl,rfl,rfl,by simp,λk _ hn=>tQ _ _ _ _ hn⟩
theorem zF.setAt(h:zF w wr o sP vN root F at_)(k x:Nat):
 zF w (wr.setCell ⟨sP,k,none⟩ (.int .i64 (x:Int))) o sP vN root F (at_.set k x)/\fJ (KF w o sP vN) wr (wr.setCell ⟨sP,k,none⟩ (.int .i64 (x:Int))):=by
 have hk:=dH (w:=wr) (p:=⟨sP,k,none⟩) (v:=.int .i64 (x:Int));obtain⟨xs,h1,h2⟩:=h.nodes;have hs:=h.atr.stored k (.int .i64 (x:Int));have hge:=(h.atr.lt sP rfl).1;refine⟨⟨h.ext.setCell (p:=⟨sP,k,none⟩) hge _,?_,?_,?_,⟨xs,bS h1 hk (λb hb e=>h.a2 (by rw[hb,e])),h2.keep hk (λb e=>.inr (.inl e)) (λb k=>.inl k)⟩,h.a1,h.a2,h.a3,h.a4,h.a5,h.a6,h.a7⟩,?_⟩
 .rw[tQ _ _ _ _ (by exact h.a6.symm)];exact h.res
 .have e:(dB (at_.set k x)).map (Value.int .i64)=((dB at_).map (Value.int .i64)).set k (.int .i64 (x:Int)):=by simp[dB,tq]
  rw[e];exact hs.1
 .rw[tQ _ _ _ _ (by exact h.a4)];exact h.out
 .exact⟨hk.os,hk.tape,hk.output,hk.size,λb hb hn=>hk.block b hb (λe=>hn (.inr (.inl e)))⟩
theorem zF.push{wd w1:World}{Zb:Value}{nd:Nd}{L R:Value}(h:zF w wr o sP vN root F at_)
 (h2:jE wr xs F w.heap.size (KF w o sP vN)) (hxl:xs.length=F.length*2) (hd:Ext wr wd) (hdz:wd.heap.size=wr.heap.size)
 (hL:Ints wr L (dB nd.1)) (hR:Ints wr R (dB nd.2)) (bL:∀b,L.ownBlock=some b->w.heap.size<=b/\b<wr.heap.size/\¬KF w o sP vN b) (bR:∀b,R.ownBlock=some b->w.heap.size<=b/\b<wr.heap.size/\¬KF w o sP vN b)
 (hg1:(wd.alloc (.cells #[L,R] 91)).grownBy w1 vN.ownBlock) (ho1:w1.ownsRow w.heap.size 91 2 Zb (F.length+1) (xs++[L,R])) (hl1:pX (wd.alloc (.cells #[L,R] 91)) vN Zb):
 zF w (w1.setCell ⟨o,0,none⟩ Zb) o sP Zb root (F++[nd]) at_/\fJ (KF w o sP vN) wr (w1.setCell ⟨o,0,none⟩ Zb)/\(∀b,KF w o sP Zb b->KF w o sP vN b\/wr.heap.size<=b):=by
 have hgx:Ext wr (wd.alloc (.cells #[L,R] 91)):=ah hd (by go_grown);have z1:=hg1.size;rw[fU,hdz]at z1;have hk1:fJ (KF w o sP vN) wr w1:=by
  refine⟨hg1.os.trans hgx.os,hg1.tape.trans hgx.tape,hg1.output.trans hgx.output,by omega,λk hk hn=>?_⟩;rw[hg1.block k (by rw[fU];omega) (λe=>hn (.inr (.inr (.inr e.symm))))];exact hgx.block k hk
 have hk2:fJ (KF w o sP vN) wr (w1.setCell ⟨o,0,none⟩ Zb):=by
  refine⟨hk1.os,hk1.tape,hk1.output,by rw[World.size_setCell];exact hk1.size,λk hk hn=>?_⟩;rw[tQ _ _ _ _ (λe=>hn (.inl e))];exact hk1.block k hk hn
 have hK:∀b,KF w o sP Zb b->KF w o sP vN b\/wr.heap.size<=b:=by
  rintro b (e|e|e|e)
  .exact .inl (.inl e)
  .exact .inl (.inr (.inl e))
  .exact .inl (.inr (.inr (.inl e)))
  .rcases hl1 with h'|⟨g,h',k⟩
   .exact .inl (.inr (.inr (.inr (by rw[<-h'];exact e))))
   .rw[h']at e;injection e with e;rw[fU,hdz]at k;exact .inr (by omega)
 have zo:=bW h.out;have zr:=bW h.res;have zg:=(h.atr.lt sP rfl);have ap:∀b,b<wr.heap.size->vN.ownBlock≠some b->Zb.ownBlock≠some b:=by
  intro b hb hn e;rcases hl1 with h'|⟨g,h',k⟩
  .exact hn (by rw[<-h'];exact e)
  .rw[h']at e;injection e with e;rw[fU,hdz]at k;omega
 have b1:∀k,k<wr.heap.size->vN.ownBlock≠some k->w1.heap[k]?=wr.heap[k]?:=by
  intro k hk hn;rw[hg1.block k (by rw[fU];omega) (λe=>hn e.symm)];exact hgx.block k hk
 have ho:w1.heap[o]?=some (.cells #[vN] 30 (0,0)):=by rw[b1 o zo h.a1];exact h.out
 have hks:=dH (w:=w1) (p:=⟨o,0,none⟩) (v:=Zb);refine⟨⟨⟨hk2.os.trans h.ext.os,hk2.tape.trans h.ext.tape,hk2.output.trans h.ext.output,bZ h.ext.size hk2.size,λk hk=>?_⟩,?_,?_,?_,⟨xs++[L,R],?_,?_⟩,ap o zo h.a1,ap sP zg.2 h.a2,ap _ zr h.a3,h.a4,h.a5,h.a6,h.a7⟩,hk2,hK⟩
 .have hz:=h.ext.size
  have:¬KF w o sP vN k:=by
   rintro(e|e|e|e)
   .have:=h.a7;omega
   .omega
   .omega
   .obtain⟨xs',ho',_⟩:=h.nodes
    have:=(ho'.lt k e).1;omega
  rw[hk2.block k (by omega) this];exact h.ext.block k hk
 .rw[tQ _ _ _ _ (by exact h.a5.symm),b1 _ zr h.a3];exact h.res
 .refine bS (bS h.atr (w':=w1) (G:=λb=>vN.ownBlock=some b) ⟨hk1.os,hk1.tape,hk1.output,hk1.size,b1⟩ (λb hb e=>?_)) hks (λb hb e=>?_)
  .simp[Value.ownBlock]at hb;subst hb;exact h.a2 e
  .simp[Value.ownBlock]at hb;subst hb;exact h.a4 e.symm
 .exact gK _ _ _ _ _ _ ho
 .refine bS (by simpa using ho1) hks (λb hb e=>ap o zo h.a1 (by rw[hb,e]))
 .have hr2:=h2.insert hxl (aJ _) hL hR bL bR
  rw[dJ (by omega),tu (by omega),gN,dJ (aJ _),tu (aJ _)]at hr2;exact hr2.keep hk2 (λb k=>k) hK
structure Uj(w wr:World)(K:Nat->Prop)(lv fv:Value)(from_:List Nat)(X:Nat->Nd):Prop where
 rows:∃xs,wr.ownsRow w.heap.size 91 2 lv from_.length xs/\jE wr xs (from_.map X) w.heap.size K
 Rn:wr.ownsRow w.heap.size 3 1 fv from_.length ((dB from_).map (Value.int .i64))
 k1:∀b,lv.ownBlock=some b->¬K b
 k2:∀b,fv.ownBlock=some b->¬K b
 s1:∃g cap,lv=.slice (some ⟨g,0,none⟩) from_.length cap
 s2:∃g cap,fv=.slice (some ⟨g,0,none⟩) from_.length cap
theorem Uj.keep{w wr w':World}{K K' G:Nat->Prop}{lv fv:Value}{from_:List Nat}{X:Nat->Nd}(h:Uj w wr K lv fv from_ X)(hk:fJ G wr w')(hG:∀b,G b->K b)(hK:∀b,K' b->K b\/wr.heap.size<=b):Uj w w' K' lv fv from_ X:=by
 obtain⟨xs,h1,h2⟩:=h.rows;refine⟨⟨xs,bS h1 hk (λb hb g=>h.k1 b hb (hG b g)),h2.keep hk hG hK⟩,bS h.Rn hk (λb hb g=>h.k2 b hb (hG b g)),λb hb k=>?_,λb hb k=>?_,h.s1,h.s2⟩
 .rcases hK b k with k|k
  .exact h.k1 b hb k
  .have:=(h1.lt b hb).2;omega
 .rcases hK b k with k|k
  .exact h.k2 b hb k
  .have:=(h.Rn.lt b hb).2;omega
theorem zF.klt(h:zF w wr o sP vN root F at_):∀b,KF w o sP vN b->b<wr.heap.size:=by
 obtain⟨xs,ho,_⟩:=h.nodes;rintro b (rfl|rfl|rfl|e)
 .exact bW h.out
 .exact(h.atr.lt _ rfl).2
 .exact bW h.res
 .exact(ho.lt b e).2
theorem qd{B':Nat}(h:w.ownsRow B e size v n xs)(hb:B'<=B):w.ownsRow B' e size v n xs:=by
 obtain⟨hl,h⟩:=h;refine⟨hl,?_⟩;rcases h with h|⟨g,cap,cur,h1,hb',h2⟩
 .exact .inl h
 .exact .inr ⟨g,cap,cur,h1,by omega,h2⟩
theorem AU{W:World}{g cap:Nat}(h:w.ownsRow B e size (.slice (some ⟨g,0,none⟩) n cap) n xs)(hE:Ext w W)(s m:Nat)(hsm:s+m<=n*size):
 ∀j u,((xs.drop s).take m)[j]?=some u->W.cell? ((⟨g,s,none⟩:Addr).add j)=some u:=by
 intro j u hu;rw[pF]at hu;split at hu
 .rename_i hj
  rw[List.getElem?_drop]at hu;have hc:=(dD h hE).cellAt (s+j) (by omega);have e:(⟨g,s,none⟩:Addr).add j=⟨g,s+j,none⟩:=by simp[Addr.add]
  rw[e,hc,hu]
 .cases hu
theorem jE.one{base:Nat}{K:Nat->Prop}(h:jE w xs F base K)(hx:xs.length=F.length*2):∀u∈xs,u.oneCell'=true:=by
 intro u hu;obtain⟨j,hj,rfl⟩:=aQ.1 hu;obtain⟨L,R,h1,h2,h3,h4,_⟩:=h (j / 2) (by omega);rcases Nat.mod_two_eq_zero_or_one j with c|c
 .rw[show j / 2*2=j by omega,af hj]at h1
  injection h1 with h1;obtain⟨a,cap,e,_⟩:=h3;rw[h1,e];rfl
 .rw[show j / 2*2+1=j by omega,af hj]at h2
  injection h2 with h2;obtain⟨a,cap,e,_⟩:=h4;rw[h2,e];rfl
end
section
open Go.RowKit
open bE (dh Nd vl Same)
variable {w:World} {base e g n cap:Nat} {l:List Int}
theorem Fh(h:w.ownsRow base e 1 (.slice (some ⟨g,0,none⟩) n cap) n (l.map (Value.int .i64))){k:Nat}(hk:k<n):w.cell? ⟨g,k,none⟩=some (.int .i64 (jl l k)):=by
 have hl:=h.1;rw[h.cellAt k (by omega)];have:k<l.length:=by rw[bK]at hl;omega
 simp[jl,this]
theorem QW(h:w.ownsRow base e 1 (.slice (some ⟨g,0,none⟩) n cap) n (l.map (Value.int .i64)))(k:Nat)(x:Int):
 (w.setCell ⟨g,k,none⟩ (.int .i64 x)).ownsRow base e 1 (.slice (some ⟨g,0,none⟩) n cap) n ((l.set k x).map (Value.int .i64)):=by
 have:=(h.stored k (.int .i64 x)).1;rw[tq];exact this
theorem Bo(v:Value)(l:List Int)(k:Int)(B:Nat)(w:World)(h:w.ownsRow B 3 1 v l.length (l.map (Value.int .i64)))(h0:0<=k)(h1:k+l.length<=4611686018427387904):
 Calls prog 81 #[v,.int .i64 k] w λe w'=>e=.returned (.int .i64 (k+l.length))/\w'.ownsRow B 3 1 v l.length ((jK k l.length).map (Value.int .i64))/\fJ (λb=>v.ownBlock=some b) w w':=by
 rcases sV l.length with hz|hz
 .obtain⟨a,cap,rfl,hc,_⟩:=bT h
  have:l=[]:=eP hz;subst this;go_enter Tryz.func81,Tryz.ntmps81
  go_wp2
  go_loopw [1,5] (λkk ii wr=>wr=w/\ii=.int .i64 0/\kk=.int .i64 k) (λ_ _ _=>0)
  case atStart=>exact⟨rfl,rfl,rfl⟩
  case round=>
   obtain⟨rfl,rfl,rfl⟩:=hrel;go_wp2
   go_ret
   exact⟨iW (by simp),h,fJ.refl _ _⟩
 .obtain⟨g,cap,rfl,hc,hcm,-⟩:=iy h hz
  generalize hn:l.length=n at *;go_enter Tryz.func81,Tryz.ntmps81
  go_wp2
  go_loopw [1,5] (λkk ii wr=>∃j,j<=n/\ii=.int .i64 ((j:Nat):Int)/\kk=.int .i64 (k+((j:Nat):Int))/\fJ (λb=>b=g) w wr/\wr.ownsRow B 3 1 (.slice (some ⟨g,0,none⟩) n cap) n ((jK k j++l.drop j).map (Value.int .i64))) (λ_ ii _=>n-(intOf ii).toNat)
  case atStart=>exact⟨0,aU _,rfl,by simp,fJ.refl _ _,by simpa [jK]using h⟩
  case round=>
   obtain⟨j,hj,rfl,rfl,hK,ho⟩:=hrel;by_cases hlt:j<n
   .have h2:((j:Nat):Int)<(n:Int):=by omega
    have cj:=Fh ho hlt;have fj:=ho.frozenAt j;have hs:=QW ho j (k+(j:Int));have hl2:(jK k j++l.drop j).set j (k+(j:Int))=jK k (j+1)++l.drop (j+1):=by
     rw[Ja,pM _ _ (by rw[kN];exact aJ _),kN,qx,kR (by omega),List.set_cons_zero,dY];rfl
    rw[hl2]at hs;have HS:=aW hs;have HX:=aW (hK.trans (dH (w:=wr) (p:=⟨g,j,none⟩) (v:=.int .i64 (k+(j:Int)))) (λx _ e=>e));clear hl2 hs ho hK;go_wp2
    go_roundw
    case rel=>exact⟨j+1,by omega,by go_num,by congr 1;omega,HX.out,HS.out⟩
    case measure=>simp[intOf];omega
   .have h2:¬(((j:Nat):Int)<(n:Int)):=by omega
    have hje:j=n:=(by omega);have ho2:wr.ownsRow B 3 1 (.slice (some ⟨g,0,none⟩) n cap) n ((jK k n).map (Value.int .i64)):=by
     rw[hje,tu (by omega),gN]at ho;exact ho
    have HO:=aW ho2;clear ho ho2 hje;go_wp2
    go_ret
    exact⟨iW (by omega),HO.out,⟨hK.os,hK.tape,hK.output,hK.size,λb hb hn=>hK.block b hb (λe=>hn (by subst e;rfl))⟩⟩
end
section
open Go.RowKit
open bE (dh Nd vl Same)
theorem Px(vl1 vr1 vl2 vr2:Value)(l r:List Int)(w:World)(h1:Ints w vl1 l)(h2:Ints w vr1 r)(h3:Ints w vl2 l)(h4:Ints w vr2 r):
 Calls prog 80 #[.agg #[vl1,vr1],.agg #[vl2,vr2]] w λe w'=>e=.returned (.bool true)/\Ext w w':=by
 obtain⟨a1,c1,rfl,-⟩:=id h1;obtain⟨a2,c2,rfl,-⟩:=id h2;obtain⟨a3,c3,rfl,-⟩:=id h3;obtain⟨a4,c4,rfl,-⟩:=id h4;have hE:Ext w ((w.alloc (.cells #[.slice a1 l.length c1,.slice a2 r.length c2] 91)).alloc (.cells #[.slice a3 l.length c3,.slice a4 r.length c4] 91)):=by go_grown
 have b0:((w.alloc (.cells #[.slice a1 l.length c1,.slice a2 r.length c2] 91)).alloc (.cells #[.slice a3 l.length c3,.slice a4 r.length c4] 91)).heap[w.heap.size]?=some (.cells #[.slice a1 l.length c1,.slice a2 r.length c2] 91 (0,0)):=by
  rw[jo _ _ _ (by simp)];exact eu _ _
 have b1:((w.alloc (.cells #[.slice a1 l.length c1,.slice a2 r.length c2] 91)).alloc (.cells #[.slice a3 l.length c3,.slice a4 r.length c4] 91)).heap[w.heap.size+1]?=some (.cells #[.slice a3 l.length c3,.slice a4 r.length c4] 91 (0,0)):=by
  have h:=eu (w.alloc (.cells #[.slice a1 l.length c1,.slice a2 r.length c2] 91)) (.cells #[.slice a3 l.length c3,.slice a4 r.length c4] 91);rw[fU]at h;exact h
 go_enter Tryz.func80,Tryz.ntmps80
 go_upto_region 1 with fail
 generalize (w.alloc (.cells #[.slice a1 l.length c1,.slice a2 r.length c2] 91)).alloc (.cells #[.slice a3 l.length c3,.slice a4 r.length c4] 91)=W at *;have c00:=bQ W w.heap.size 0 _ _ _ b0;have c01:=bQ W w.heap.size 1 _ _ _ b0;have c10:=bQ W (w.heap.size+1) 0 _ _ _ b1;have c11:=bQ W (w.heap.size+1) 1 _ _ _ b1;go_upto_region 3 with(go_at_call 131;refine(FK _ _ l l _ (h1.ext hE) (h3.ext hE)).mono ?_;rintro e w1 ⟨he,n,rfl⟩;rw[EA]at he;subst he)
 go_wp2_with (go_at_call 131;refine(FK _ _ r r _ (jL (h2.ext hE) _) (jL (h4.ext hE) _)).mono ?_;rintro e w1 ⟨he,m,rfl⟩;rw[EA]at he;subst he)
 go_ret
 exact⟨rfl,by first|exact eH hE _|exact eH (eH hE _) _⟩
end
section
open Go.RowKit
theorem tF(v:Value)(l:List Int)(left:Int)(w:World)(h:Ints w v l)(h0:0<=left)(h1:left<=1048576):
 Calls prog 108 #[v,.int .i64 left] w λe w'=>e=.returned (.int .i64 (if left<l.length then -1 else left-l.length))/\RD w w':=by
 obtain⟨a,cap,rfl,hlc,hcap,hc⟩:=h;by_cases hn:left<l.length
 .go_enter Tryz.func108,Tryz.ntmps108
  go_wp2
  go_ret
  exact⟨iW (by first|rfl|(split <;> omega)),uX _⟩
 .go_enter Tryz.func108,Tryz.ntmps108
  go_wp2
  go_ret
  exact⟨iW (by first|rfl|(split <;> omega)),uX _⟩
end
section
open Go.RowKit
theorem Vj{A:List Int}{n k:Nat}(x:Int)(hA:A.length=k)(hk:k<n):(A++List.replicate (n-k) (0:Int)).set k x=(A++[x])++List.replicate (n-(k+1)) 0:=by
 subst hA;rw[pM _ _ (aJ _),qx,show n-A.length=(n-(A.length+1))+1 by omega,List.replicate_succ,List.set_cons_zero,dY];rfl
theorem Ex(v:Value)(l:List Int)(w:World)(h:Ints w v l)(hl:l.length<=1048576):
 Calls prog 122 #[v] w λe w'=>∃v',e=.returned v'/\w'.ownsRow w.heap.size 3 1 v' l.length (l.map (Value.int .i64))/\Ext w w':=by
 obtain⟨i0,hi0,hz0,hz1,hz2⟩:=info_parts iU;obtain⟨a,cap,rfl,hlc,hcap,hc⟩:=id h;have hmk:=λw:World=>run_make (P:=prog) w 41 3 i0 (.int .i64 0) underlying41 hi0 hz0 .i64 .i64 (l.length:Int) (l.length:Int) (by omega) (by omega) (by rw[hz2];omega) (by omega)
 simp only[hz1,kT,jB]at hmk;go_enter Tryz.func122,Tryz.ntmps122
 go_wp2
 have ho:(w.alloc (.cells (madeCells #[Value.int .i64 0] l.length) 3)).ownsRow w.heap.size 3 1 (.slice (some ⟨w.heap.size,0,none⟩) l.length l.length) l.length ((List.replicate l.length (0:Int)).map (Value.int .i64)):=by
  rw[<-wS];exact World.ownsRow_lit w _ _ (aJ _) (by unfold maxLen;omega) (by rw[size_madeCells];simp)
 have hx:Ext w (w.alloc (.cells (madeCells #[Value.int .i64 0] l.length) 3)):=by go_grown
 generalize w.alloc (.cells (madeCells #[Value.int .i64 0] l.length) 3)=W0 at *;clear hmk;go_loopw [4] (λii wr=>∃k,k<=l.length/\ii=.int .i64 ((k:Nat):Int)/\Ext w wr/\wr.ownsRow w.heap.size 3 1 (.slice (some ⟨w.heap.size,0,none⟩) l.length l.length) l.length ((l.take k++List.replicate (l.length-k) (0:Int)).map (Value.int .i64))) (λii _=>l.length-(intOf ii).toNat)
 case atStart=>exact⟨0,aU _,rfl,hx,by simpa using ho⟩
 case round=>
  clear hx ho;obtain⟨k,hk,rfl,hE,ho⟩:=hrel;by_cases hlt:k<l.length
  .have h1:((k:Nat):Int)<(l.length:Int):=by omega
   obtain⟨b,off,rfl,hcell⟩:=hc (by omega);have hck:=fw hE (hcell k hlt);have cj:=Fh ho hlt;have fj:=ho.frozenAt k;have hs:=QW ho k (jl l k);have hl2:(l.take k++List.replicate (l.length-k) (0:Int)).set k (jl l k)=l.take (k+1)++List.replicate (l.length-(k+1)) 0:=by
    rw[Vj _ (by simp;omega) hlt,oZ hlt]
   rw[hl2]at hs;have HS:=aW hs;have HX:=aW (hE.setCell (p:=⟨w.heap.size,k,none⟩) (aJ _) (.int .i64 (jl l k)));clear hcell hc hl2 hs ho hE;go_wp2
   go_roundw
   case rel=>exact⟨k+1,by omega,by go_num,HX.out,HS.out⟩
   case measure=>simp[intOf];omega
  .have h1:¬(((k:Nat):Int)<(l.length:Int)):=by omega
   have hke:k=l.length:=(by omega);subst hke;have ho2:wr.ownsRow w.heap.size 3 1 (.slice (some ⟨w.heap.size,0,none⟩) l.length l.length) l.length (l.map (Value.int .i64)):=by
    rw[dJ (aJ _),qx,List.replicate_zero,gN]at ho;exact ho
   have HO:=aW ho2;clear ho ho2;go_wp2
   go_ret
   exact⟨_,rfl,HO.out,hE⟩
end
section
open Go.RowKit
open bE (dh Nd vl Same)
theorem Oh(w:World):Calls prog 273 #[] w λe w'=>∃vN,e=.returned (.agg #[vN])/\dI w' w.heap.size vN [([],[])]/\Ext w w':=by
 have hb1:((w.alloc (.cells #[.slice (some ⟨w.heap.size+1,0,none⟩) 1 1] 30)).alloc (.cells #[.slice none 0 0,.slice none 0 0] 91)).heap[w.heap.size]?=some (.cells #[.slice (some ⟨w.heap.size+1,0,none⟩) 1 1] 30 (0,0)):=by
  rw[jo _ _ _ (by simp)];exact eu _ _
 have hb2:((w.alloc (.cells #[.slice (some ⟨w.heap.size+1,0,none⟩) 1 1] 30)).alloc (.cells #[.slice none 0 0,.slice none 0 0] 91)).heap[w.heap.size+1]?=some (.cells #[.slice none 0 0,.slice none 0 0] 91 (0,0)):=by
  have h:=eu (w.alloc (.cells #[.slice (some ⟨w.heap.size+1,0,none⟩) 1 1] 30)) (.cells #[.slice none 0 0,.slice none 0 0] 91);rw[fU]at h;exact h
 have hx:Ext w ((w.alloc (.cells #[.slice (some ⟨w.heap.size+1,0,none⟩) 1 1] 30)).alloc (.cells #[.slice none 0 0,.slice none 0 0] 91)):=by go_grown
 go_enter Tryz.func273,Tryz.ntmps273
 go_wp2
 (try simp only[Exit.inBlock,Exit.then]);refine bodyPost_ret (results_cell_row rfl _ _ w.heap.size 30 _ (0,0) _ rfl hb1 underlying30 rfl (by kernel_rfl)) rfl ?_;refine⟨_,rfl,⟨_,1,rfl,aJ _,by unfold maxLen;simp,λ_=>⟨w.heap.size+1,rfl,by omega,λi hi=>?_⟩⟩,hx⟩;have hi0:i=0:=by simp at hi;omega
 subst hi0;refine⟨.slice none 0 0,.slice none 0 0,bQ _ _ 0 _ _ _ hb2,bQ _ _ 1 _ _ _ hb2,Ints.nil _ _ _,Ints.nil _ _ _,λb hb=>?_,λb hb=>?_⟩
 .simp[Value.ownBlock]at hb
 .simp[Value.ownBlock]at hb
end
