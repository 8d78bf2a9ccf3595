/- 46 -/
import Derived.Test.YtplgooajigigkaaGreatDoorQ45
set_option maxRecDepth 100000
set_option maxHeartbeats 4000000
namespace Go.Proofs.YtplgooajigigkaaGreatDoor
open Tryz
section
open Go.RowKit
open aZ (cZ Nd vl Same Gm Canon eU Ab fo Zg Ren kill qf)
variable {us:List Int} {s:List UInt8} {e k i:Nat} {α:Type}
def mi(us:List Int)(i:Nat):Nat:=if i<us.length then(dD us i+1).toNat else 0
def qo(s:List UInt8)(i:Nat):Bool:=s.getD i 0 == 76
theorem jS(h:GT us s)(i:Nat):mi us i<=i:=by
 unfold mi;split
 .have:=h.up i (by assumption);omega
 .omega
theorem PS{u:Nat->Nat}(hu:∀i,u i<=i)(e:Nat):Ab u 0 e:=by
 induction e using Nat.strongRecOn with
 |ind e ih=>
  by_cases h:u e=0
  .exact .here h
  .have:=hu e
   exact .up (i:=u e-1) (by omega) (ih (u e-1) (by omega))
theorem TS(h:GT us s)(hk:k<us.length):¬kill (mi us) e (λ_=>true) k=true↔k=e\/(0<=dD us k/\¬kill (mi us) e (λ_=>true) (dD us k).toNat=true):=by
 have hu:=jS h;rw[qf hu,qf hu];have hup:=h.up k hk;have e1:mi us k=(dD us k+1).toNat:=by unfold mi;rw[if_pos hk]
 constructor
 .intro q
  by_cases he:k=e
  .exact .inl he
  .have hab:Ab (mi us) (e+1) k:=kF λc=>q ⟨rfl,he,c⟩
   refine .inr ?_;cases hab with
   |here w=>exact⟨by omega,λc=>c.2.1 (by omega)⟩
   | @up i _ w w2=>exact⟨by omega,λc=>c.2.2 (by rw[show(dD us k).toNat=i by omega];exact w2)⟩
 .rintro(rfl|⟨h0,q⟩) c
  .exact c.2.1 rfl
  .refine q ⟨rfl,λw=>c.2.2 (.here (by omega)),λw=>c.2.2 (.up (i:=(dD us k).toNat) (by omega) w)⟩
structure aiH(us:List Int)(s:List UInt8)(e k:Nat)(at_ ou:List Int)(os:List UInt8)(A:List Nat):Prop where
 left:A=(List.range k).filter (kill (mi us) e λ_=>true)
 len:at_.length=k
 ouL:ou.length=A.length
 osL:os.length=A.length
 live:∀j,j<k->kill (mi us) e (λ_=>true) j=true->∃p,p<A.length/\dD at_ j=(p:Int)/\A.getD p 0=j
 dead:∀j,j<k->¬kill (mi us) e (λ_=>true) j=true->dD at_ j=-2
 sign:∀p,p<A.length->os.getD p 0=s.getD (A.getD p 0) 0
 up:∀p,p<A.length->-1<=dD ou p/\Zg A (mi us (A.getD p 0)) (dD ou p+1).toNat
theorem mO{l m:List α}{d:α}(h:i<l.length):(l++m).getD i d=l.getD i d:=by simp[aO,bQ h]
theorem qC{l:List α}{x d:α}(h:i=l.length):(l++[x]).getD i d=x:=by subst h;simp[aO]
theorem Wo{A:List Nat}{x v v':Nat}(h:Zg A v v'):Zg (A++[x]) v v':=by
 rcases h with h|⟨p,h1,h2,h3⟩
 .exact .inl h
 .exact .inr ⟨p,by rw[mO h3];exact h1,h2,by simp;omega⟩
theorem ahJ(h:GT us s)(e:Nat):∀k,k<=us.length->∃A,aiH us s e k (cutAt us s e k).1 (cutAt us s e k).2.1 (cutAt us s e k).2.2 A:=by
 intro k
 induction k with
 |zero=>intro _;exact⟨[],⟨by simp,rfl,rfl,rfl,λj h=>absurd h (by omega),λj h=>absurd h (by omega),λp h=>absurd h (by simp),λp h=>absurd h (by simp)⟩⟩
 |succ k ih=>
  intro hk;obtain⟨A,I⟩:=ih (by omega);have D:=TS h (e:=e) (k:=k) (by omega);have hup:=h.up k (by omega);have e1:mi us k=(dD us k+1).toNat:=by unfold mi;rw[if_pos (by omega)]
  rw[cutAt];generalize (cutAt us s e k).1=at_ at *;generalize (cutAt us s e k).2.1=ou at *;generalize (cutAt us s e k).2.2=os at *;have hl:=I.len;have hq:∀(h0:0<=dD us k),(dD at_ (dD us k).toNat=-2↔¬kill (mi us) e (λ_=>true) (dD us k).toNat=true):=λh0=>by
   constructor
   .intro c q
    obtain⟨p,_,hp,_⟩:=I.live _ (by omega) q;omega
   .exact I.dead _ (by omega)
  have hc:(k=e\/(0<=dD us k/\dD at_ (dD us k).toNat=-2))↔¬kill (mi us) e (λ_=>true) k=true:=by
   rw[D];refine or_congr Iff.rfl ⟨λq=>⟨q.1,(hq q.1).1 q.2⟩,λq=>⟨q.1,(hq q.1).2 q.2⟩⟩
  by_cases ha:kill (mi us) e (λ_=>true) k=true
  .rw[if_neg (λc=>hc.1 c ha)]
   refine⟨A++[k],⟨?_,by simp[hl],by simp[I.ouL],by simp[I.osL],λj hj hja=>?_,λj hj hja=>?_,λp hp=>?_,λp hp=>?_⟩⟩
   .rw[nA,jF,<-I.left];simp[ha]
   .by_cases hjk:j<k
    .obtain⟨p,p1,p2,p3⟩:=I.live j hjk hja
     exact⟨p,by simp;omega,by rw[lC (by omega)];exact p2,by rw[mO p1];exact p3⟩
    .have:j=k:=by omega
     subst this;refine⟨A.length,by simp,?_,qC rfl⟩;have:=nQ (l:=at_) (x:=((ou.length:Nat):Int));rw[hl]at this;rw[this,I.ouL]
   .by_cases hjk:j<k
    .rw[lC (by omega)];exact I.dead j hjk hja
    .have:j=k:=by omega
     subst this;exact absurd ha hja
   .by_cases YR:p<A.length
    .rw[mO (by rw[I.osL];exact YR),mO YR];exact I.sign p YR
    .have:p=A.length:=by simp at hp;omega
     rw[qC (by rw[I.osL];exact this),qC this]
   .by_cases YR:p<A.length
    .rw[lC (by rw[I.ouL];exact YR),mO YR]
     exact⟨(I.up p YR).1,Wo (I.up p YR).2⟩
    .have hp':p=A.length:=by simp at hp;omega
     have z:=nQ (l:=ou) (x:=if 0<=dD us k then dD at_ (dD us k).toNat else -1);rw[I.ouL,<-hp']at z;rw[z,qC hp',e1];by_cases h0:0<=dD us k
     .rw[if_pos h0]
      have hkq:kill (mi us) e (λ_=>true) (dD us k).toNat=true:=kF λc=>D.2 (.inr ⟨h0,c⟩) ha
      obtain⟨q,q1,q2,q3⟩:=I.live _ (by omega) hkq;rw[q2];refine⟨by omega,.inr ⟨q,?_,by omega,by simp;omega⟩⟩;rw[mO q1,q3];omega
     .rw[if_neg h0]
      exact⟨by omega,.inl ⟨by omega,by omega⟩⟩
  .rw[if_pos (hc.2 ha)]
   refine⟨A,⟨?_,by simp[hl],I.ouL,I.osL,λj hj hja=>?_,λj hj hja=>?_,I.sign,I.up⟩⟩
   .rw[nA,jF,<-I.left];simp[ha]
   .have hjk:j<k:=by
     rcases fe j k with c|c
     .exact c
     .have:j=k:=by omega
      subst this;exact absurd hja ha
    obtain⟨p,p1,p2,p3⟩:=I.live j hjk hja;exact⟨p,p1,by rw[lC (by omega)];exact p2,p3⟩
   .by_cases hjk:j<k
    .rw[lC (by omega)];exact I.dead j hjk hja
    .have:j=k:=by omega
     subst this;have:=nQ (l:=at_) (x:=-2);rw[hl]at this;exact this
theorem aaN(h:GT us s)(he:e<us.length):
 fo us.length (mi us) (qo s) (kill (mi us) e λ_=>true) 0=fo (iJ us s e).length (mi (iJ us s e)) (qo (lW us s e)) (λ_=>true) 0:=by
 obtain⟨A,I⟩:=ahJ h e us.length (ax _);have hl:(iJ us s e).length=A.length:=I.ouL;have R:Ren us.length (mi us) (qo s) (kill (mi us) e λ_=>true) (mi (iJ us s e)) (qo (lW us s e)) A:=by
  refine⟨I.left,λj hj=>?_,λj hj=>?_⟩
  .unfold qo lW;rw[I.sign j hj]
  .have:=(I.up j hj).2
   unfold mi at this ⊢;rw[if_pos (show j<(iJ us s e).length by rw[hl];exact hj)];exact this
 have:=aZ.TF (jS h) (jS (qh h he).1) R us.length 0 0 (by omega) (.inl ⟨rfl,rfl⟩);rw[hl];exact this
theorem vG{b:Bool}:e∈dU s b k↔e<k/\qo s e=b:=by
 simp[dU,qo]
theorem Yw:∀(n:Nat) {us:List Int} {s:List UInt8},GT us s->us.length<=n->eU (tg us s) (fo us.length (mi us) (qo s) (λ_=>true) 0)
 |n,us,s,h,hn=>by
  have hu:=jS h;have ih:∀e,e<us.length->eU (tg (iJ us s e) (lW us s e)) (fo us.length (mi us) (qo s) (kill (mi us) e λ_=>true) 0):=λe he=>by
   rw[aaN h he];have hc:=qh h he;cases n with
   |zero=>omega
   |succ n=>exact Yw n hc.1 (by omega)
  have K:=λb e (he:e<us.length) (hs:qo s e=b)=>aZ.Iy hu (qo s) (λ_=>true) b (λ_ _ _ _ _=>rfl) us.length 0 (by omega) e he rfl hs (PS hu e)
  have O:=λb x hx=>aZ.Hw (n:=us.length) hu (qo s) (λ_=>true) b us.length 0 (by omega) x hx
  have tl:(tg us s).l=(dU s true us.length).map λe=>tg (iJ us s e) (lW us s e):=by rw[MI h];rfl
  have tr:(tg us s).r=(dU s false us.length).map λe=>tg (iJ us s e) (lW us s e):=by rw[MI h];rfl
  refine aZ.Cj (λx hx=>?_) (λy hy=>?_) (λx hx=>?_) (λy hy=>?_)
  .rw[tl]at hx
   obtain⟨e,he,rfl⟩:=ay.1 hx;obtain⟨e1,e2⟩:=vG.1 he;obtain⟨y,y1,y2⟩:=K true e e1 e2;exact⟨y,y1,(y2.trans (ih e e1).symm).1⟩
  .obtain⟨e,e1,_,e2,_,e3⟩:=O true y hy
   exact⟨_,by rw[tl];exact ay.2 ⟨e,vG.2 ⟨e1,e2⟩,rfl⟩,((ih e e1).trans e3.symm).1⟩
  .rw[tr]at hx
   obtain⟨e,he,rfl⟩:=ay.1 hx;obtain⟨e1,e2⟩:=vG.1 he;obtain⟨y,y1,y2⟩:=K false e e1 e2;exact⟨y,y1,(y2.trans (ih e e1).symm).2⟩
  .obtain⟨e,e1,_,e2,_,e3⟩:=O false y hy
   exact⟨_,by rw[tr];exact ay.2 ⟨e,vG.2 ⟨e1,e2⟩,rfl⟩,((ih e e1).trans e3.symm).2⟩
end
section
open Go.RowKit
open aZ (cZ Same Gm Canon eU eQ eD nf nC gB Val bG bT kids eg)
variable {us:List Int} {s:List UInt8}
def uo(us:List Int)(s:List UInt8):Int:=nC us.length (mi us) (gB (qo s)) us.length 0
theorem QL(h:GT us s):eU (tg us s) (nf 16 (uo us s)):=
 (Yw us.length h (ax _)).trans (aZ.aaM (jS h) (qo s) h.small us.length 0 (by omega))
theorem QK{F:cZ}{g:Gm}{k:Int}(h:GT us s)(hF:kg F us s)(e:eU g (eQ F))(v:Val g k):k=uo us s:=by
 obtain⟨-,c,s1,-,e1⟩:=hF;exact aZ.kz.1 (v.2.eqv.symm.trans (e.trans (s1.eqv.trans (e1.trans (QL h)))))
def jJ(n:Nat):List Int:=(List.range n).map λi:Nat=>(i:Int)-1
theorem nT(n:Nat):(jJ n).length=n:=by simp[jJ]
theorem Gj{n i:Nat}(h:i<n):dD (jJ n) i=(i:Int)-1:=by simp[dD,jJ,h]
theorem OD(h8:s.length<=8)(hs:∀c,c∈s->c=76\/c=82):GT (jJ s.length) s:=
 ⟨nT _,by rw[nT];exact h8,hs,λi hi=>by rw[nT]at hi;rw[Gj hi];omega⟩
theorem Rk(h8:s.length<=8):uo (jJ s.length) s=aZ.jK (s.map (· == 76)):=by
 rw[aZ.J4 (by rw[bH];exact h8)];have hu:∀i,i<(s.map (· == (76:UInt8))).length->mi (jJ s.length) i=i:=λi hi=>by
  rw[bH]at hi;unfold mi;rw[if_pos (by rw[nT];exact hi),Gj hi];omega
 have hs:∀i,(h:i<(s.map (· == (76:UInt8))).length)->qo s i=(s.map (· == (76:UInt8)))[i]:=λi h=>by
  rw[bH]at h;simp[qo,aO,h]
 have:=aZ.Ho (l:=s.map (· == (76:UInt8))) hu hs s.length 0 (by simp);rw[bH]at this;unfold uo;rw[nT,this];rfl
end
section
open Go.RowKit
open aZ (bG bT oQ Wt gd Ul nC gB kids eg)
variable {K:Int} {w:World} {b:Nat} {x y:Value} {T:TypeId}
def yK(K:Int):Value:=xw (bG 16 K) (bT 16 K)
theorem uA(K:Int):jC (bG 16 K) (bT 16 K)=K:=(aZ.uH 16 K).2.1
theorem Ih(K:Int):bT 16 K<=16:=(aZ.uH 16 K).1
theorem Bb(K:Int):sc (bG 16 K) (bT 16 K)=256*K:=by rw[MP (Ih K),uA,nI]
theorem yn(h:gd K):eG (bG 16 K) (bT 16 K)=true:=by
 have:=aZ.uH 16 K;exact jV.2 ⟨h.1,h.2,by omega,by omega,by omega⟩
theorem MZ{c:Int}(h:Wt c K)(hc:c<=8)(w:World):Calls prog 139 #[yK K] w λe w'=>e=.returned (yK (oQ K))/\Ext w w':=by
 have hg:=aZ.jZ h hc;have hl:=aZ.qd 16 K;have hp:=Ih K;have q:=OZ (bG 16 K) (bT 16 K) w (by omega) (by omega) (by omega) (by rw[Bb];omega) (by rw[Bb];omega);rw[Bb,(Ru h (by omega)).1,(Ru h (by omega)).2]at q;exact q
theorem Ic(K:Int)(h:-524288<=K/\K<=524288)(w:World):Calls prog 138 #[yK K] w λe w'=>e=.returned (yK (-K))/\Ext w w':=by
 have hl:=aZ.qd 16 K;have q:=OX (bG 16 K) (bT 16 K) w (by omega) (by omega);unfold yK;rw[(xU 16 K).1,(xU 16 K).2];exact q
theorem Uy(K L:Int)(h:-524288<=K/\K<=524288)(h2:-524288<=L/\L<=524288)(w:World):Calls prog 98 #[yK K,yK L] w λe w'=>e=.returned (yK (K+L))/\Ext w w':=by
 have hl:=aZ.qd 16 K;have hm:=aZ.qd 16 L;have hp:=Ih K;have hq:=Ih L;have q:=D8 (bG 16 K) (bG 16 L) (bT 16 K) (bT 16 L) w (by omega) (by omega) (by omega) (by omega) (by omega) (by omega);rw[Bb,Bb]at q;have e8:256*K+256*L=(K+L)*2 ^ 8:=by rw[show(2:Int) ^ 8=256 by decide];omega
 have hl1:bG 24 ((K+L)*2 ^ 8)=bG 16 (K+L):=(qc 8 16 (K+L)).1;have hl2:bT 24 ((K+L)*2 ^ 8)=bT 16 (K+L):=(qc 8 16 (K+L)).2;rw[e8,hl1,hl2]at q;exact q
theorem Ei(h:gd K)(w:World):Calls prog 66 #[yK K] w λe w'=>e=.returned (.bool true)/\Ext w w':=by
 have q:=KO (bG 16 K) (bT 16 K) w;rw[yn h]at q;exact q
theorem nW(K:Int):yK K=.agg #[.int .i64 (bG 16 K),.int .i64 ((bT 16 K:Nat):Int)]:=rfl
theorem uS{V:World}(hx:Ext w V)(hb:w.heap.size<=b)(h:V.heap[b]?=some (.cells #[x,y] T (0,0)))(u v:Value):
 ∃W,W=(V.setCell ⟨b,0,none⟩ u).setCell ⟨b,1,none⟩ v/\Ext w W/\W.heap[b]?=some (.cells #[u,v] T (0,0)):=
 ⟨_,rfl,(hx.setCell (p:=⟨b,0,none⟩) hb _).setCell (p:=⟨b,1,none⟩) hb _,(dn h).2.2.2 u v⟩
def GZ:List Row:=[⟨0,[],29,[6]⟩,⟨1,[],30,[6]⟩,⟨2,[1],31,[29]⟩,⟨3,[0,2,0],0,[4,28]⟩,⟨4,[2,3,0,1,2,3],6,[30]⟩]
theorem dM(h:w.heap[b]?=some (.cells #[x,y] T (0,0))):w.cell? ⟨b,0,none⟩=some x/\w.cell? ⟨b,1,none⟩=some y:=⟨bI w b 0 _ _ _ h,bI w b 1 _ _ _ h⟩
theorem XR(a:Option Addr)(m cap:Nat)(sb:ByteArray)(i:Nat)(hi:i<sb.size)(c A E:Int)(w:World)(hA:Wt c A)(hc:c<=7)(hE:E=Ul (sb[i].toNat == 76) A)(hs:sb[i].toNat=76\/sb[i].toNat=82)
 (H:∀V,Ext w V->Calls prog 52 #[.agg #[.slice a m cap,.string sb],.int .i64 (i:Int)] V λe w'=>e=.returned (.tuple #[yK A,.bool true])/\Ext V w'):
 Calls prog 97 #[.agg #[.slice a m cap,.string sb],.int .i64 (i:Int)] w λe w'=>e=.returned (.tuple #[yK E,.bool true])/\Ext w w':=by
 have YZ:=(aZ.NG (b:=sb[i].toNat == 76) hA (by omega)).2;rw[<-hE]at YZ;have hgA:=aZ.jZ hA (by omega);have hgE:=aZ.jZ YZ (by omega);obtain⟨W,hW,hx,b0,b1,hz⟩:=Uv w (.cells #[.slice a m cap,.string sb] 43) (.cells #[.int .i64 0,.int .i64 0] 34);have HH:=aI (H W hx);have HB:=yD hx b0 b1;have hc0:=dM b0;obtain⟨c0,c1⟩:=hc0;have Yh:=aI (λV=>Ei hgE.2.2 V);have hlen:(i:Int)<(sb.size:Int):=by omega
 by_cases Al:sb[i].toNat=76
 .have e1:((sb[i].toNat:Nat):Int)=76:=by omega
  have e2:¬((sb[i].toNat:Nat):Int)=82:=by omega
  have e3:E=oQ A:=by rw[hE,Al];rfl
  have VJ:=aI (λV=>MZ hA (by omega) V);rw[<-e3]at VJ;clear YZ hgA hgE hE hs H b0 b1 hx hz e3 hA Al;simp only[nW]at HH Yh VJ ⊢;go_enter Tryz.func97,Tryz.ntmps97
  go_upto_region 1 with fail
  rw[<-hW];clear hW;go_upto_region 2 with(go_at_call 52;refine HH.out.mono ?_;rintro e w1 ⟨rfl,hx1⟩)
  obtain⟨W2,hW2,hx2,X0,hz2⟩:=xq w1 (.cells #[.int .i64 (bG 16 A),.int .i64 ((bT 16 A:Nat):Int)] 34);rw[<-hW2];obtain⟨b6,hb6⟩:=eu w1.heap.size;rw[<-hb6]at X0;obtain⟨q0,q1⟩:=dM X0;have PY:=JM hx2 X0 hx1 hb6;have d0:=dP (ah hx1 hx2) c0;have d1:=dP (ah hx1 hx2) c1;rw[<-hb6];clear hW2 hx1 hx2 X0 hz2 hb6 c0 c1;go_upto_region 6 with fail
  go_upto_region 7 with(go_at_call 139;refine(VJ.out _).mono ?_;rintro e w4 ⟨rfl,hx4⟩;obtain⟨u0,u1,u2,u3⟩:=dn (kY hx4 PY.out.2.1);have u4:=(u2 (.int .i64 (bG 16 E))).1;have u5:=(u2 (.int .i64 (bG 16 E))).2;clear u2 u3)
  obtain⟨WS,hWS,Si,hbS⟩:=uS (w:=w1) (ah PY.out.1 hx4) (kQ PY.out.2.2.2.symm) (kY hx4 PY.out.2.1) (.int .i64 (bG 16 E)) (.int .i64 ((bT 16 E:Nat):Int));rw[<-hWS];have aa:=dM hbS;have HS:=jW Si hbS;clear Si hbS hWS;refine mQ (λV=>V.cell? ⟨b6,0,none⟩=some (.int .i64 (bG 16 E))/\V.cell? ⟨b6,1,none⟩=some (.int .i64 ((bT 16 E:Nat):Int))) [3,4] GZ (by exact aa) (λai aa=>?_);(refine bg 0 ai aa ?_;refine bg 1 ai aa ?_);(refine kS ai (i:=2) λK hK=>?_;go_simp);refine(Yh.out _).mono ?_;rintro e w5 ⟨rfl,hx5⟩;have zU:=ah (iy WS) hx5;have hb5:=kY zU HS.out.2;refine hK.out _ _ (λ_=>by exact dM hb5) ?_;clear aa hK K;have aa:=dM hb5;(try simp only[nP]);refine mM ai [3,4] [_,_] ?_;clear ai aa;have K7:=ah HS.out.1 zU;have b15:=kY (ah PY.out.2.2.1 K7) HB.out.2.2;obtain⟨u0,u1,u2,u3⟩:=dn b15;have u4:=(u2 (.int .i64 (bG 16 E))).1;have u5:=(u2 (.int .i64 (bG 16 E))).2;have HQ:=jW (u3 (.int .i64 (bG 16 E)) (.int .i64 ((bT 16 E:Nat):Int))) (ah HB.out.1 (ah PY.out.2.2.1 K7));clear u2 u3 b15 K7 zU hb5;go_wp2
  refine tO (w.heap.size+1) 34 #[.int .i64 (bG 16 E),.int .i64 ((bT 16 E:Nat):Int)] HQ.out.1 underlying34 ?_;exact⟨rfl,oG (oG HQ.out.2 (w.heap.size+1) 0 _) (w.heap.size+1) 1 _⟩
 .have VE:sb[i].toNat=82:=hs.resolve_left Al
  have e1:((sb[i].toNat:Nat):Int)=82:=by omega
  have e3:E=-oQ (-A):=by rw[hE,VE];rfl
  have hWN:=aZ.ED hA;have hgO:=aZ.jZ (aZ.DU hWN (by omega)).2 (by omega);have VJ:=aI (λV=>MZ hWN (by omega) V);have HN1:=aI (λV=>Ic A ⟨hgA.1,hgA.2.1⟩ V);have vY:=aI (λV=>Ic (oQ (-A)) ⟨hgO.1,hgO.2.1⟩ V);rw[<-e3]at vY;clear YZ hgA hgE hE hs H b0 b1 hx hz e3 hA Al hWN hgO VE;simp only[nW]at HH Yh VJ HN1 vY ⊢;go_enter Tryz.func97,Tryz.ntmps97
  go_upto_region 1 with fail
  rw[<-hW];clear hW;go_upto_region 2 with(go_at_call 52;refine HH.out.mono ?_;rintro e w1 ⟨rfl,hx1⟩)
  obtain⟨W2,hW2,hx2,X0,hz2⟩:=xq w1 (.cells #[.int .i64 (bG 16 A),.int .i64 ((bT 16 A:Nat):Int)] 34);rw[<-hW2];obtain⟨b6,hb6⟩:=eu w1.heap.size;rw[<-hb6]at X0;obtain⟨q0,q1⟩:=dM X0;have PY:=JM hx2 X0 hx1 hb6;have d0:=dP (ah hx1 hx2) c0;have d1:=dP (ah hx1 hx2) c1;rw[<-hb6];clear hW2 hx1 hx2 X0 hz2 hb6 c0 c1;go_upto_region 5 with fail
  go_upto_region 7 with(first
   |(go_at_call 138;refine(vY.out _).mono ?_;rintro e wn2 ⟨rfl,hx7⟩;have hx4:=ah hx5 (ah hx6 hx7);obtain⟨u0,u1,u2,u3⟩:=dn (kY hx4 PY.out.2.1);have u4:=(u2 (.int .i64 (bG 16 E))).1;have u5:=(u2 (.int .i64 (bG 16 E))).2;clear u2 u3)
   |(go_at_call 139;refine(VJ.out _).mono ?_;rintro e wn1 ⟨rfl,hx6⟩)
   |(go_at_call 138;refine(HN1.out _).mono ?_;rintro e wn0 ⟨rfl,hx5⟩))
  obtain⟨WS,hWS,Si,hbS⟩:=uS (w:=w1) (ah PY.out.1 hx4) (kQ PY.out.2.2.2.symm) (kY hx4 PY.out.2.1) (.int .i64 (bG 16 E)) (.int .i64 ((bT 16 E:Nat):Int));rw[<-hWS];have aa:=dM hbS;have HS:=jW Si hbS;clear Si hbS hWS;refine mQ (λV=>V.cell? ⟨b6,0,none⟩=some (.int .i64 (bG 16 E))/\V.cell? ⟨b6,1,none⟩=some (.int .i64 ((bT 16 E:Nat):Int))) [3,4] GZ (by exact aa) (λai aa=>?_);(refine bg 0 ai aa ?_;refine bg 1 ai aa ?_);(refine kS ai (i:=2) λK hK=>?_;go_simp);refine(Yh.out _).mono ?_;rintro e w5 ⟨rfl,hx5⟩;have zU:=ah (iy WS) hx5;have hb5:=kY zU HS.out.2;refine hK.out _ _ (λ_=>by exact dM hb5) ?_;clear aa hK K;have aa:=dM hb5;(try simp only[nP]);refine mM ai [3,4] [_,_] ?_;clear ai aa;have K7:=ah HS.out.1 zU;have b15:=kY (ah PY.out.2.2.1 K7) HB.out.2.2;obtain⟨u0,u1,u2,u3⟩:=dn b15;have u4:=(u2 (.int .i64 (bG 16 E))).1;have u5:=(u2 (.int .i64 (bG 16 E))).2;have HQ:=jW (u3 (.int .i64 (bG 16 E)) (.int .i64 ((bT 16 E:Nat):Int))) (ah HB.out.1 (ah PY.out.2.2.1 K7));clear u2 u3 b15 K7 zU hb5;go_wp2
  refine tO (w.heap.size+1) 34 #[.int .i64 (bG 16 E),.int .i64 ((bT 16 E:Nat):Int)] HQ.out.1 underlying34 ?_;exact⟨rfl,oG (oG HQ.out.2 (w.heap.size+1) 0 _) (w.heap.size+1) 1 _⟩
end
section
open Go.RowKit
open aZ (bG bT oQ Wt gd Ul nC gB kids eg)
variable {us:List Int} {s:List UInt8} {v k:Nat}
def Mj(us:List Int)(s:List UInt8)(v k:Nat):Int:=(((List.range k).filter λj=>mi us j == v).map (eg us.length (mi us) (gB (qo s)))).sum
theorem UB(us:List Int)(s:List UInt8)(v k:Nat):Mj us s v (k+1)=Mj us s v k+if mi us k=v then eg us.length (mi us) (gB (qo s)) k else 0:=by
 unfold Mj;rw[nA,jF,bz,List.sum_append];by_cases h:mi us k=v
 .rw[if_pos h];simp[h]
 .rw[if_neg h];simp[h]
theorem BJ(n k:Nat)(u:Nat->Nat)(v:Nat)(h:k<=n):kids n u (λ_=>true) v=((List.range k).filter λj=>u j == v)++((List.range' k (n-k)).filter λj=>u j == v):=by
 have e:List.range n=List.range k++List.range' k (n-k):=by
  have:=List.range'_append_1 (s:=0) (m:=k) (n:=n-k);rw[gQ,show k+(n-k)=n by omega]at this;rw[List.range_eq_range',List.range_eq_range',this]
 unfold kids;rw[e,<-jF];simp
theorem UA(g:GT us s)(hv:v<=us.length)(hk:k<=us.length):Wt 8 (Mj us s v k):=
 aZ.Wp (jS g) (qo s) g.small hv (BJ us.length k (mi us) v hk)
theorem NI(g:GT us s)(hv:v<=us.length):Mj us s v us.length=nC us.length (mi us) (gB (qo s)) (us.length-v) v:=by
 rw[aZ.A8 (jS g) _ hv,BJ us.length us.length (mi us) v (ax _)];simp[Mj]
theorem GU{sb:ByteArray}(h:k<sb.size):qo sb.data.toList k=(sb[k].toNat == 76)/\sb.data.toList.getD k 0∈sb.data.toList/\sb[k].toNat=(sb.data.toList.getD k 0).toNat:=by
 have hl:k<sb.data.toList.length:=by rw[ib];exact h
 have e:sb.data.toList.getD k 0=sb[k]:=by rw[aO,ae hl];rfl
 refine⟨?_,by rw[aO,ae hl];exact aj hl,by rw[e]⟩;unfold qo;rw[e,fV,beq_iff_eq,beq_iff_eq,<-UInt8.toNat_inj];rfl
theorem UC(vu:Value)(us:List Int)(sb:ByteArray)(v:Nat)(d:Int)(w:World)(hu:Ints w vu us)(g:GT us sb.data.toList)(hv:v<=us.length)(hd:d=(v:Int)-1)
 (H:∀k V,k<us.length->mi us k=v->Ext w V->Calls prog 97 #[.agg #[vu,.string sb],.int .i64 (k:Int)] V λe w'=>e=.returned (.tuple #[yK (eg us.length (mi us) (gB (qo sb.data.toList)) k),.bool true])/\Ext V w'):
 Calls prog 52 #[.agg #[vu,.string sb],.int .i64 d] w λe w'=>e=.returned (.tuple #[yK (Mj us sb.data.toList v us.length),.bool true])/\Ext w w':=by
 obtain⟨a,cap,rfl,hcap,yH,hcells⟩:=hu;obtain⟨W,hW,hx,b0,b1,hz⟩:=Uv w (.cells #[.slice a us.length cap,.string sb] 43) (.cells #[.int .i64 0,.int .i64 0] 34);obtain⟨W1,hW1,hx1,b2,hz1⟩:=xq W (.cells #[.int .i64 0,.int .i64 0] 34);obtain⟨p2,hp2⟩:=eu W.heap.size;rw[<-hp2]at b2;have HB:=Hi5 hx b0 b1 hx1 hp2;have HG:=aI g;have HV:=jW hv hd;have HH:=aI H;have HC:=aI hcells;obtain⟨n,hn⟩:=eu us.length;have HN:=aI hn;have Pj:n<=8:=by rw[hn];exact g.small
 rw[<-hn]at HH HV HC hcap yH hW b0 HB ⊢;clear g hv hd H hcells hx b0 b1 hx1 hz hz1 hn;simp only[nW]at HH ⊢;go_enter Tryz.func52,Tryz.ntmps52
 go_upto_region 1 with fail
 rw[<-hW];clear hW;go_upto_region 2 with fail
 rw[<-hW1,<-hp2];clear hW1 hp2;go_wp2
 go_loopw [7] (λii wr=>∃k:Nat,k<=n/\ii=.int .i64 ((k:Nat):Int)/\Hid (Ext W wr)/\Hid (wr.heap[p2]?=some (.cells #[.int .i64 (bG 16 (Mj us sb.data.toList v k)),.int .i64 ((bT 16 (Mj us sb.data.toList v k):Nat):Int)] 34 (0,0)))) (λii _=>n-(intOf ii).toNat)
 case atStart=>exact⟨0,az _,rfl,aI HB.out.2.2.2.1,aI b2⟩
 case round=>
  clear b2;obtain⟨k,hk,rfl,HE,HS⟩:=hrel;have e0:=kY HE.out HB.out.2.1;obtain⟨c0,c1⟩:=dM e0;obtain⟨s0,s1⟩:=dM HS.out;have s6:=iW wr p2 0 _ _ HS.out;clear e0;by_cases hlt:k<n
  .have h1:((k:Nat):Int)<((n:Nat):Int):=by omega
   obtain⟨b,off,rfl,hcell⟩:=HC.out (by omega);have hck:=hcell k hlt;have lK:=dP (ah HB.out.1 HE.out) hck;clear hcell hck;have hup:=HG.out.up k (by have:=HN.out;omega);have hiff:dD us k=d↔mi us k=v:=by
    have:=HV.out.2;unfold mi;rw[if_pos (by have:=HN.out;omega)];omega
   have hab:=UB us sb.data.toList v k;have hw0:=aZ.jZ (UA HG.out (v:=v) (k:=k) (by have:=HV.out.1;have:=HN.out;omega) (by have:=HN.out;omega)) (by omega);have hw1:=aZ.jZ (UA HG.out (v:=v) (k:=k+1) (by have:=HV.out.1;have:=HN.out;omega) (by have:=HN.out;omega)) (by omega);obtain⟨z,hz⟩:=eu (dD us k);rw[<-hz]at lK hiff;by_cases hne:z=d
   .subst hne
    have hpl:mi us k=v:=hiff.1 rfl;rw[if_pos hpl]at hab;rw[<-HN.out]at hab;obtain⟨X,hX⟩:=eu (eg n (mi us) (gB (qo sb.data.toList)) k);obtain⟨Y,hY⟩:=eu (Mj us sb.data.toList v (k+1));obtain⟨Z,hZ⟩:=eu (Mj us sb.data.toList v k);have hXB:-524288<=X/\X<=524288:=by
     have:=(aZ.TL (jS HG.out) (qo sb.data.toList) HG.out.small (i:=k) (by have:=HN.out;omega)).2;have hle:=aZ.rQ (jS HG.out) (n:=us.length) (k:=us.length-1-k) (v:=k+1) (by omega) (by have:=HN.out;omega);have h8:=HG.out.small;have hww:=aZ.jZ (aZ.Gl this (d:=8) (by show 1+_<=(8:Int);omega)) (by omega);rw[hX,HN.out];exact⟨hww.1,hww.2.1⟩
    have U7:=aI (λV hV=>HH.out k V hlt hpl hV);have tH:=aI (λV=>Uy Z X ⟨by rw[hZ];exact hw0.1,by rw[hZ];exact hw0.2.1⟩ hXB V);have Zl:=aI (λV=>Ei (K:=Y) (by rw[hY];exact hw1.2.2) V);rw[<-hX]at U7 hab;rw[<-hY,<-hZ]at hab;rw[<-hab]at tH;rw[<-hZ]at s0 s1 HS;have HYY:=aI hY;have HS2:=aI HS.out;simp only[nW]at tH Zl U7;clear hiff hw0 hw1 hab hup hz hpl hX hY hZ hXB HS;have hEk:=ah HB.out.1 HE.out;have hq0:Ext wr wr:=fJ _ _;have hnb:(z != z)=false:=(by simp);go_upto_region 6 with fail
    go_upto_region 7 with(go_at_call 97;refine(U7.out _ hEk).mono ?_;rintro e w1 ⟨rfl,hx1⟩)
    obtain⟨W2,hW2,hx2,b8,hz2⟩:=xq w1 (.cells #[.int .i64 (bG 16 X),.int .i64 ((bT 16 X:Nat):Int)] 34);rw[<-hW2];obtain⟨p8,hp8⟩:=eu w1.heap.size;rw[<-hp8]at b8;rw[<-hp8];obtain⟨x0,x1⟩:=dM b8;have ze:=ah hx1 hx2;have t0:=dP ze s0;have t1:=dP ze s1;have HX2:=aI ze;clear hW2 hx1 hx2 ze hz2 hp8 b8 s0 s1 s6 c0 c1 lK hEk;go_upto_region 10 with(go_at_call 98;refine(tH.out _).mono ?_;rintro e w3 ⟨rfl,hx3⟩;obtain⟨u0,u1,u2,u3⟩:=dn (kY (ah HX2.out hx3) HS2.out);have u4:=(u2 (.int .i64 (bG 16 Y))).1;have u5:=(u2 (.int .i64 (bG 16 Y))).2;clear u2 u3)
    obtain⟨WS,hWS,Si,hbS⟩:=uS (w:=W) (ah HE.out (ah HX2.out hx3)) (kQ HB.out.2.2.2.2.symm) (kY (ah HX2.out hx3) HS2.out) (.int .i64 (bG 16 Y)) (.int .i64 ((bT 16 Y:Nat):Int));rw[<-hWS];obtain⟨v0,v1⟩:=dM hbS;have HSS:=jW Si hbS;clear hWS Si hbS hx3 t0 t1 x0 x1 u0 u1 u4 u5;go_wp2_with (go_at_call 66;refine(Zl.out _).mono ?_;rintro e w4 ⟨rfl,hx4⟩)
    go_roundw
    case rel=>exact⟨k+1,by omega,by go_num,aI (ah HSS.out.1 hx4),aI (by rw[<-HYY.out];exact kY hx4 HSS.out.2)⟩
    case measure=>simp[intOf];omega
   .have hnb:(z != d)=true:=by simpa using hne
    have HS2:=aI HS.out;rw[if_neg (λq=>hne (hiff.2 q)),Int.add_zero]at hab;rw[<-hab]at HS2;clear hiff hw0 hw1 hab hup hz;go_wp2
    go_roundw
    case rel=>exact⟨k+1,by omega,by go_num,HE,HS2⟩
    case measure=>simp[intOf];omega
  .have h1:¬(((k:Nat):Int)<((n:Nat):Int)):=by omega
   obtain rfl:k=n:=(by omega);have hr1:=kY HE.out HB.out.2.2.1;have Pf:=ah HB.out.1 HE.out;obtain⟨X,hX⟩:=eu (Mj us sb.data.toList v k);rw[<-hX]at s0 s1;have HXQ:=aI hX;obtain⟨u0,u1,u2,u3⟩:=dn hr1;have u4:=(u2 (.int .i64 (bG 16 X))).1;have u5:=(u2 (.int .i64 (bG 16 X))).2;have HQ:=jW (u3 (.int .i64 (bG 16 X)) (.int .i64 ((bT 16 X:Nat):Int))) Pf;clear u2 u3 hr1 Pf hX HS;go_wp2
   refine tO (w.heap.size+1) 34 #[.int .i64 (bG 16 X),.int .i64 ((bT 16 X:Nat):Int)] HQ.out.1 underlying34 ?_;exact⟨by rw[HXQ.out];rfl,oG (oG HQ.out.2 (w.heap.size+1) 0 _) (w.heap.size+1) 1 _⟩
theorem XZ(vu:Value)(us:List Int)(sb:ByteArray)(g:GT us sb.data.toList):∀m v,us.length=v+m->∀w,Ints w vu us->
 Calls prog 52 #[.agg #[vu,.string sb],.int .i64 ((v:Int)-1)] w λe w'=>e=.returned (.tuple #[yK (Mj us sb.data.toList v us.length),.bool true])/\Ext w w':=by
 intro m
 induction m using Nat.strongRecOn with
 |ind m ih=>
  intro v hv w hu;refine UC vu us sb v _ w hu g (by omega) rfl λk V hk hkv hV=>?_
  have hle:=jS g k;have hsz:sb.size=sb.data.toList.length:=by rw[ib];rfl
  have hks:k<sb.size:=by have:=g.len;omega
  obtain⟨a,cap,rfl,-⟩:=id hu;have hb:=GU hks;have hA:=NI g (v:=k+1) (by omega);have hsg:(sb[k].toNat == 76)=qo sb.data.toList k:=hb.1.symm;refine XR a us.length cap sb k hks (7:Int) (Mj us sb.data.toList (k+1) us.length) _ V ?_ (by omega) ?_ ?_ ?_
  .rw[hA]
   have h1:=aZ.pQ (jS g) (qo sb.data.toList) g.small (us.length-(k+1)) (by omega) (k+1) (by omega);have h2:=aZ.rQ (jS g) (n:=us.length) (k:=us.length-(k+1)) (v:=k+1) (by omega) (by omega);have h8:=g.small;exact aZ.Gl h1 (by omega)
  .rw[hsg,hA]
   show gB (qo sb.data.toList) k (nC us.length (mi us) (gB (qo sb.data.toList)) (us.length-1-k) (k+1))=_;rw[show us.length-1-k=us.length-(k+1) by omega];rfl
  .rcases g.sign _ hb.2.1 with e|e
   .exact .inl (by rw[hb.2.2,e];rfl)
   .exact .inr (by rw[hb.2.2,e];rfl)
  .intro V2 hV2
   have:=ih (us.length-(k+1)) (by omega) (k+1) (by omega) V2 (hu.ext (ah hV hV2));rw[show(((k+1:Nat):Int)-1)=(k:Int) by omega]at this;exact this
def CL(us:List Int)(sb:ByteArray):Int:=if jY us sb=true then uo us sb.data.toList else 0
theorem xS:bG 16 0=0/\bT 16 0=0:=⟨by decide,by decide⟩
theorem J7(vu:Value)(us:List Int)(sb:ByteArray)(w:World)(hu:Ints w vu us)(hs:sb.size<=2000000):Calls prog 18 #[.agg #[vu,.string sb]] w λe w'=>e=.returned (.tuple #[yK (CL us sb),.bool (jY us sb)])/\Ext w w':=by
 obtain⟨a,cap,rfl,-⟩:=id hu;obtain⟨W,hW,hx,b0,b1,hz⟩:=Uv w (.cells #[.slice a us.length cap,.string sb] 43) (.cells #[.int .i64 0,.int .i64 0] 34);have HG:=aI (tJ _ us sb W (hu.ext hx) hs);obtain⟨c0,c1⟩:=dM b0;have HB:=jW hx b1;cases hg:jY us sb with
 |false=>
  have hk:CL us sb=0:=by unfold CL;rw[hg];rfl
  rw[hk,yK,xS.1,xS.2];rw[hg]at HG;clear hu hx b0 b1 hz hg hk;go_enter Tryz.func18,Tryz.ntmps18
  go_upto_region 1 with fail
  rw[<-hW];clear hW;go_upto_region 2 with(go_at_call 47;refine HG.out.mono ?_;rintro e w1 ⟨rfl,hx1⟩)
  obtain⟨u0,u1,u2,u3⟩:=dn (kY hx1 HB.out.2);have u4:=(u2 (.int .i64 0)).1;have u5:=(u2 (.int .i64 0)).2;have HQ:=jW (u3 (.int .i64 0) (.int .i64 0)) (ah HB.out.1 hx1);clear u2 u3 hx1 c0 c1;go_wp2
  refine tO (w.heap.size+1) 34 #[.int .i64 0,.int .i64 0] HQ.out.1 underlying34 ?_;exact⟨rfl,oG (oG HQ.out.2 (w.heap.size+1) 0 _) (w.heap.size+1) 1 _⟩
 |true=>
  have hk:CL us sb=uo us sb.data.toList:=by unfold CL;rw[hg];rfl
  have g:=pI.1 hg;have hab:Mj us sb.data.toList 0 us.length=uo us sb.data.toList:=NI g (az _);have HA:=aI (λV (hV:Ext w V)=>XZ _ us sb g us.length 0 (by omega) V (hu.ext hV));rw[hab,<-hk]at HA;obtain⟨X,hX⟩:=eu (CL us sb);rw[<-hX]at HA ⊢;rw[hg]at HG;simp only[nW]at HA ⊢;clear hu hx b0 b1 hz hg hk g hab hX;go_enter Tryz.func18,Tryz.ntmps18
  go_upto_region 1 with fail
  rw[<-hW];clear hW;go_upto_region 3 with(go_at_call 47;refine HG.out.mono ?_;rintro e w1 ⟨rfl,hx1⟩;have d0:=dP hx1 c0;have d1:=dP hx1 c1)
  have hE1:=ah HB.out.1 hx1;go_upto_region 4 with(go_at_call 52;refine(HA.out _ hE1).mono ?_;rintro e w2 ⟨rfl,hx2⟩)
  obtain⟨W3,hW3,hx3,b3,hz3⟩:=xq w2 (.cells #[.int .i64 (bG 16 X),.int .i64 ((bT 16 X:Nat):Int)] 34);rw[<-hW3];obtain⟨x0,x1⟩:=dM b3;have pG:=ah hx1 (ah hx2 hx3);obtain⟨u0,u1,u2,u3⟩:=dn (kY pG HB.out.2);have u4:=(u2 (.int .i64 (bG 16 X))).1;have u5:=(u2 (.int .i64 (bG 16 X))).2;have HQ:=jW (u3 (.int .i64 (bG 16 X)) (.int .i64 ((bT 16 X:Nat):Int))) (ah HB.out.1 pG);clear u2 u3 hx1 hx2 hx3 hE1 pG hW3 hz3 b3 c0 c1 d0 d1;go_wp2
  refine tO (w.heap.size+1) 34 #[.int .i64 (bG 16 X),.int .i64 ((bT 16 X:Nat):Int)] HQ.out.1 underlying34 ?_;exact⟨rfl,oG (oG HQ.out.2 (w.heap.size+1) 0 _) (w.heap.size+1) 1 _⟩
end
