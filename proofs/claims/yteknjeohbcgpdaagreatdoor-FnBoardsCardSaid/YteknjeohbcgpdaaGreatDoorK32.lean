/-
  Plain law: what hangs together with a cell; the parts of a set of cells in the order of their first cells; no condition. (3 texts.)
-/
import Derived.Test.YteknjeohbcgpdaaGreatDoorK22
set_option maxRecDepth 100000
namespace Go.Proofs.YteknjeohbcgpdaaGreatDoor
open Tryz
section
open Go.RowKit
open bO (fw GB fD Cs fr)
variable {S:Cs} {hh ww t f o k bo:Nat} {D D':Nat->Nat->Prop} {b:Int}
def qH(S:Cs)(hh ww:Nat)(D:Nat->Nat->Prop)(t b f o:Int):Prop:=
 (∀r c,D r c->S r c=true->t<=(r:Int)/\(r:Int)<=b/\f<=(c:Int)/\(c:Int)<=o)/\
 ((t=hh/\b=-1/\f=ww/\o=-1/\∀r c,D r c->S r c=false)\/∃r1 c1 r2 c2 r3 c3 r4 c4:Nat,S r1 c1=true/\t=r1/\S r2 c2=true/\b=r2/\S r3 c3=true/\f=c3/\S r4 c4=true/\o=c4)
theorem qH.skip{t f o:Int}(h:qH S hh ww D t b f o)(hD:∀r c,D' r c->S r c=true->D r c):qH S hh ww D' t b f o:=by
 refine⟨λr c d s=>h.1 r c (hD r c d s) s,?_⟩;rcases h.2 with⟨h1,h2,h3,h4,h5⟩|h
 .refine .inl ⟨h1,h2,h3,h4,λr c d=>?_⟩
  cases s:S r c with
  |false=>rfl
  |true=>rw[h5 r c (hD r c d s)]at s;cases s
 .exact .inr h
theorem qH.take{t f o:Int}{i:Nat}(h:qH S hh ww D t b f o)(hi:i<hh)(hk:k<ww)(hs:S i k=true)(hD:∀r c,D' r c->D r c\/(r=i/\c=k)):
 qH S hh ww D' (if t<(i:Int)then t else(i:Int)) (max b (i:Int)) (if f<(k:Int)then f else(k:Int)) (max o (k:Int)):=by
 refine⟨λr c d s=>?_,.inr ?_⟩
 .rcases hD r c d with d|⟨rfl,rfl⟩
  .have:=h.1 r c d s
   refine⟨?_,by omega,?_,by omega⟩
   .split <;> omega
   .split <;> omega
  .refine⟨?_,by omega,?_,by omega⟩
   .split <;> omega
   .split <;> omega
 .rcases h.2 with⟨h1,h2,h3,h4,-⟩|⟨r1,c1,r2,c2,r3,c3,r4,c4,s1,e1,s2,e2,s3,e3,s4,e4⟩
  .refine⟨i,k,i,k,i,k,i,k,hs,?_,hs,by omega,hs,?_,hs,by omega⟩
   .rw[if_neg (by omega)]
   .rw[if_neg (by omega)]
  .refine⟨if t<(i:Int)then r1 else i,if t<(i:Int)then c1 else k,if b<(i:Int)then i else r2,if b<(i:Int)then k else c2,if f<(k:Int)then r3 else i,if f<(k:Int)then c3 else k,if o<(k:Int)then i else r4,if o<(k:Int)then k else c4,?_,?_,?_,?_,?_,?_,?_,?_⟩
   .split <;> assumption
   .split <;> omega
   .split <;> assumption
   .split <;> omega
   .split <;> assumption
   .split <;> omega
   .split <;> assumption
   .split <;> omega
structure yf(S:Cs)(t b f o:Nat):Prop where
 all:∀r c,S r c=true->t<=r/\r<=b/\f<=c/\c<=o
 top:∃c,S t c=true
 bot:∃c,S b c=true
 from_:∃r,S r f=true
 upto:∃r,S r o=true
theorem yf.unique{b t' b' f' o':Nat}(h:yf S t b f o)(k:yf S t' b' f' o'):t=t'/\b=b'/\f=f'/\o=o':=by
 obtain⟨c1,h1⟩:=h.top;obtain⟨c2,h2⟩:=h.bot;obtain⟨c3,h3⟩:=h.from_;obtain⟨c4,h4⟩:=h.upto;obtain⟨d1,k1⟩:=k.top;obtain⟨d2,k2⟩:=k.bot;obtain⟨d3,k3⟩:=k.from_;obtain⟨d4,k4⟩:=k.upto;have:=k.all _ _ h1;have:=k.all _ _ h2;have:=k.all _ _ h3;have:=k.all _ _ h4;have:=h.all _ _ k1;have:=h.all _ _ k2;have:=h.all _ _ k3;have:=h.all _ _ k4;omega
theorem qH.box{t f o:Int}(h:qH S hh ww (λ_ _=>True) t b f o)(hS:∃r c,S r c=true):∃tn bn fn on:Nat,t=tn/\b=bn/\f=fn/\o=on/\yf S tn bn fn on:=by
 obtain⟨r,c,hs⟩:=hS;rcases h.2 with⟨_,_,_,_,h5⟩|⟨r1,c1,r2,c2,r3,c3,r4,c4,s1,rfl,s2,rfl,s3,rfl,s4,rfl⟩
 .rw[h5 r c trivial]at hs;cases hs
 .exact⟨r1,r2,c3,c4,rfl,rfl,rfl,rfl,λr c s=>by have:=h.1 r c trivial s;omega,⟨_,s1⟩,⟨_,s2⟩,⟨_,s3⟩,⟨_,s4⟩⟩
def oz(b:fw)(t bo f o:Nat):fw:=((b.drop t).take (bo+1-t)).map λr=>(r.drop f).take (o+1-f)
theorem Zv(b:fw)(t bo f o r c:Nat)(hr:r<bo+1-t)(hc:c<o+1-f):bO.at_ (oz b t bo f o) r c=bO.at_ b (r+t) (c+f):=by
 unfold bO.at_ oz;rw[aj (l:=List.map _ _),dm,il,if_pos hr,ym,aj (l:=b),Nat.add_comm t r];cases b[r+t]? with
 |none=>simp
 |some x=>
  simp only[jP,bW];rw[aj,aj,il,if_pos hc,ym,Nat.add_comm f c]
theorem Po{b:fw}(hB:yf (fr b) t bo f o)(r c:Nat):fr (oz b t bo f o) r c=fr b (r+t) (c+f):=by
 by_cases h:r<bo+1-t/\c<o+1-f
 .unfold fr;rw[Zv b t bo f o r c h.1 h.2]
 .have e1:fr b (r+t) (c+f)=false:=by
   cases s:fr b (r+t) (c+f)with
   |false=>rfl
   |true=>have:=hB.all _ _ s;omega
  have e2:fr (oz b t bo f o) r c=false:=by
   cases s:fr (oz b t bo f o) r c with
   |false=>rfl
   |true=>
    exfalso;unfold fr bO.at_ oz at s;rw[aj (l:=List.map _ _),dm,il]at s;by_cases hr:r<bo+1-t
    .rw[if_pos hr]at s
     have hc:¬c<o+1-f:=λk=>h ⟨hr,k⟩
     cases hx:(b.drop t)[r]? with
     |none=>rw[hx]at s;simp at s
     |some x=>
      rw[hx]at s;simp only[jP,bW]at s;rw[aj,il,if_neg hc]at s;exact absurd s (by decide)
    .rw[if_neg hr]at s;simp at s
  rw[e1,e2]
theorem zT{b:fw}(g:GB b hh ww)(hB:yf (fr b) t bo f o):GB (oz b t bo f o) (bo+1-t) (o+1-f)/\t<=bo/\bo<hh/\f<=o/\o<ww:=by
 obtain⟨c1,h1⟩:=hB.top;obtain⟨c2,h2⟩:=hB.bot;obtain⟨c3,h3⟩:=hB.from_;obtain⟨c4,h4⟩:=hB.upto;have:=hB.all _ _ h1;have:=hB.all _ _ h2;have:=hB.all _ _ h3;have:=hB.all _ _ h4;have:=g.Az h2;have:=g.Az h4;have g1:=g.h1;have g2:=g.w1;refine⟨⟨?_,by omega,by omega,λr hr=>?_⟩,by omega,by omega,by omega,by omega⟩
 .unfold oz;rw[bD,dI,iB,g.hgt];omega
 .unfold oz at hr
  obtain⟨x,hx,rfl⟩:=aH.1 hr;have hm:=g.row x (jq (dY hx));refine⟨by rw[dI,iB,hm.1];omega,λc hc=>hm.2 c (jq (dY hc))⟩
theorem BS(s:ByteArray)(i j:Nat):ll (s.extract i j)=((ll s).drop i).take (j-i):=by
 unfold ll;rw[ByteArray.data_extract,Array.toList_extract]
theorem Gc{b:fw}(hk:t+k<b.length):((b.drop t).take (k+1)).map (λr:List UInt8=>(r.drop f).take (o+1-f))=((b.drop t).take k).map (λr:List UInt8=>(r.drop f).take (o+1-f))++[(b[t+k].drop f).take (o+1-f)]:=by
 rw[bg (by rw[iB];omega),bG,rT];rfl
end
section
open Go.RowKit
open bO (fw GB fD Cs fr)
def Qc:List Row:=[⟨0,[],15,[3]⟩,⟨1,[0],16,[14]⟩,⟨2,[],17,[3]⟩,⟨3,[2],18,[16]⟩,⟨4,[3],19,[17]⟩,⟨5,[4],20,[18]⟩,⟨6,[1,0,1],5,[15]⟩,⟨7,[6,0,1,6],6,[]⟩,⟨8,[5,7,0,1,2,3,4,5,6,7],7,[19]⟩,⟨9,[8,0,1,2,3,4,5,6,7,8],8,[]⟩]
def LZ:List Row:=[⟨0,[],66,[10]⟩,⟨1,[0],67,[65]⟩,⟨2,[],68,[1]⟩,⟨3,[2],69,[67]⟩,⟨4,[],70,[11]⟩,⟨5,[3,4],71,[68,69]⟩,⟨6,[5],72,[70]⟩,⟨7,[],73,[6]⟩,⟨8,[],74,[7]⟩,⟨9,[8],75,[73]⟩,⟨10,[6,7,9],76,[71,72,74]⟩,⟨11,[10],77,[75]⟩,⟨12,[1,11],78,[66,76]⟩,⟨13,[0,1,2,3,4,5,6,7,8,9,10,11,12],79,[10]⟩,⟨14,[13,12,12,0,1,2,3,4,5,6,7,8,9,10,11,12],0,[78,77]⟩]
def WR(b:fw)(w:World)(e:Ending)(w':World):Prop:=
 ∃v' ss' t bo f o,e=.returned (.agg #[v'])/\w'.ownsRow w.heap.size 9 1 v' ss'.length (ss'.map Value.string)/\yf (fr b) t bo f o/\bd ss'=oz b t bo f o/\Ext w w'
set_option maxHeartbeats 4000000 in
theorem JW(v:Value)(ss:List ByteArray)(hh ww:Nat)(w:World)(h:Strs w v ss)(g:GB (bd ss) hh ww)(hfree:∃r c,fr (bd ss) r c=true):
 Calls prog 126 #[.agg #[v]] w (WR (bd ss) w):=by
 obtain⟨a,cap,rfl,hcap,p8⟩:=h.open;obtain⟨i0,hi0,hz0,hz1,hz2⟩:=info_parts pY;have h8:=g.h1;have w8:=g.w1;have hbb:((w.alloc (.cells #[.slice a ss.length cap] 31)).alloc (.cells #[.slice none 0 0] 31)).heap[w.heap.size]?=some (.cells #[.slice a ss.length cap] 31 (0,0)):=by
  rw[Below.heap_alloc _ _ _ (by simp)];exact heap_alloc_new _ _
 have hrr:((w.alloc (.cells #[.slice a ss.length cap] 31)).alloc (.cells #[.slice none 0 0] 31)).heap[w.heap.size+1]?=some (.cells #[.slice none 0 0] 31 (0,0)):=by
  have h:=heap_alloc_new (w.alloc (.cells #[.slice a ss.length cap] 31)) (.cells #[.slice none 0 0] 31);rw[eQ]at h;exact h
 have hx0:Ext w ((w.alloc (.cells #[.slice a ss.length cap] 31)).alloc (.cells #[.slice none 0 0] 31)):=by go_grown
 have hzb:((w.alloc (.cells #[.slice a ss.length cap] 31)).alloc (.cells #[.slice none 0 0] 31)).heap.size=w.heap.size+2:=by rw[eQ,eQ]
 have hcell:∀W,Ext w W->Calls prog 75 #[.agg #[.slice a ss.length cap]] W λe w'=>∃v' sl,e=.returned v'/\Gr w' W.heap.size v' sl (gK ss)/\Ext W w':=λW hW=>pW _ ss hh ww W (h.ext hW) g
 have HG:=aQ g;have uB:=aQ (nL g);have HF:=aQ hfree;have hnn:=(nL g).hgt;have qJ:=aQ (oh g);clear g hfree p8;go_enter Tryz.func126,Tryz.ntmps126
 go_upto_region 2 with(go_at_call 75;refine(hcell _ hx0).mono ?_;rintro e w1 ⟨vc,sl,rfl,hG,hx1⟩;obtain⟨gc,cc,rfl,-,-⟩:=hG.len)
 have HX0:=aQ hx0;have HE1:=aQ (ax hx0 hx1);have HB1:=aQ ((hx1.block _ (bu hbb)).trans hbb);have HR1:=aQ ((hx1.block _ (bu hrr)).trans hrr);have HZ1:Hid (w.heap.size+2<=w1.heap.size):=aQ (by have:=hx1.size;omega);rw[hzb]at hG;rw[hnn]at hG;have X5:=aQ hG;clear hbb hrr hx0 hx1 hcell hzb hnn;obtain⟨gt,ct,a0,c0,et,-,htop⟩:=hG.rowAt uB.out (show 0<hh by omega);simp only[Value.slice.injEq,true_and]at et;obtain⟨rfl,rfl⟩:=et;clear hG;have h0:0<hh:=by omega
 refine bV (λW=>W.cell? ⟨gt,0,none⟩=some (.slice a0 ww c0)) [] Qc (by kernel_rfl) ⟨by kernel_rfl,by kernel_rfl,by kernel_rfl⟩ htop (λaz ah=>?_);(refine bT 0 az ah ?_;refine bT 1 az ah ?_;refine bT 2 az ah ?_;refine bT 3 az ah ?_;refine bT 4 az ah ?_;refine bT 5 az ah ?_;refine bT 6 az ah ?_;refine bT 7 az ah ?_;refine bT 8 az ah ?_;refine bT 9 az ah ?_);refine nU az [] [] ?_ (hm:=rfl);go_wp2
 clear htop az ah h0;go_loopw [4,5,6,7,8,9] (λtv bv fv ov ii _ wr=>∃(i:Nat) (t b f o:Int),ii=.int .i64 ((i:Nat):Int)/\i<=hh/\tv=.int .i64 t/\bv=.int .i64 b/\fv=.int .i64 f/\ov=.int .i64 o/\Ext w1 wr/\Hid (qH (lK (gK ss)) hh ww (λr _=>r<i) t b f o)) (λ_ _ _ _ ii _ _=>hh-(intOf ii).toNat)
 case atStart=>exact⟨0,_,_,_,_,rfl,aJ _,rfl,rfl,rfl,rfl,(by exact⟨rfl,rfl,rfl,ay _,λ_ _=>rfl⟩),aQ ⟨λr c d=>absurd d (by omega),.inl ⟨rfl,rfl,rfl,rfl,λr c d=>absurd d (by omega)⟩⟩⟩
 case round=>
  obtain⟨i,t,b,f,o,rfl,hi,rfl,rfl,rfl,rfl,hx,yh⟩:=hrel;have uh:=X5.out.ext hx;by_cases hlt:i<hh
  .have hil:((i:Nat):Int)<((hh:Nat):Int):=by omega
   have fJ:=aQ hlt;obtain⟨gt',ct',ar,cr,et,er,hct⟩:=uh.rowAt uB.out hlt;simp only[Value.slice.injEq,true_and,bN,Addr.mk.injEq,and_true]at et;obtain⟨rfl,rfl⟩:=et;have HX:=aQ hx;clear er hlt uh hx;go_wp2
   obtain⟨wo,hwo⟩:∃wo,wo=wr:=⟨_,rfl⟩;rw[<-hwo]at HX ⊢;clear hct hwo;go_loopw [4,5,6,7,9] (λtv bv fv ov kk wr=>∃(k:Nat) (t b f o:Int),kk=.int .i64 ((k:Nat):Int)/\k<=ww/\tv=.int .i64 t/\bv=.int .i64 b/\fv=.int .i64 f/\ov=.int .i64 o/\Ext w1 wr/\Hid (qH (lK (gK ss)) hh ww (λr c=>r<i\/(r=i/\c<k)) t b f o)) (λ_ _ _ _ kk _=>ww-(intOf kk).toNat)
   case atStart=>exact⟨0,t,b,f,o,rfl,aJ _,rfl,rfl,rfl,rfl,HX.out,aQ (yh.out.skip λr c d _=>by omega)⟩
   case round=>
    obtain⟨k,t,b,f,o,rfl,hk,rfl,rfl,rfl,rfl,hx,yh⟩:=hrel;have uh:=X5.out.ext hx;by_cases hkl:k<ww
    .have hkl':((k:Nat):Int)<((ww:Nat):Int):=by omega
     have jl:=aQ hkl;obtain⟨gt2,ct2,g2,c2,Kz,Zu,htop,hbit,hfz⟩:=uh.at2 uB.out fJ.out hkl;simp only[Value.slice.injEq,true_and,bN,Addr.mk.injEq,and_true]at Kz;obtain⟨rfl,rfl⟩:=Kz;have HX:=aQ hx;clear Zu hkl hfz uh hx;cases hg0:jk (gK ss) i k with
     |false=>
      rw[hg0]at hbit;have HN:=aQ (yh.out.skip (D':=λr c=>r<i\/(r=i/\c<k+1)) λr c d s=>by
       by_cases e:r=i/\c=k
       .obtain⟨rfl,rfl⟩:=e;unfold lK at s;rw[hg0]at s;cases s
       .omega)
      clear hg0;go_wp2
      go_roundw
      case rel=>exact⟨k+1,t,b,f,o,by go_num,jl.out,rfl,rfl,rfl,rfl,HX.out,HN⟩
      case measure=>have:=jl.out;simp[intOf];omega
     |true=>
      rw[hg0]at hbit;have HN:=aQ (yh.out.take (D':=λr c=>r<i\/(r=i/\c<k+1)) fJ.out jl.out hg0 λr c d=>by omega);clear hg0
      go_wp2_with (first
       |(go_at_call 159;refine(JZ _ _ _).mono ?_;rintro e wz ⟨rfl,rfl⟩)
       |(go_at_call 158;refine(qy _ _ _).mono ?_;rintro e wz ⟨rfl,nz,rfl⟩))
      go_roundw
      case rel=>exact⟨k+1,_,_,_,_,by go_num,jl.out,rfl,rfl,rfl,rfl,ax HX.out (by exact⟨rfl,rfl,rfl,ay _,λ_ _=>rfl⟩),HN⟩
      case measure=>have:=jl.out;simp[intOf];omega
    .have hkl':¬(((k:Nat):Int)<((ww:Nat):Int)):=by omega
     have hke:k=ww:=(by omega);have Er:=aQ hke;obtain⟨gt2,ct2,ar2,cr2,Kz,er2,hct⟩:=uh.rowAt uB.out fJ.out;simp only[Value.slice.injEq,true_and,bN,Addr.mk.injEq,and_true]at Kz;obtain⟨rfl,rfl⟩:=Kz;have HX:=aQ hx;clear hke hkl er2 uh hx;go_wp2
     go_roundw
     case rel=>exact⟨i+1,t,b,f,o,by go_num,fJ.out,rfl,rfl,rfl,rfl,HX.out,aQ (yh.out.skip λr c d s=>by
      have:=uj uB.out s;have:=Er.out;by_cases e:r=i
      .exact .inr ⟨e,by omega⟩
      .exact .inl (by omega))⟩
     case measure=>have:=fJ.out;simp[intOf];omega
  .have hil:¬(((i:Nat):Int)<((hh:Nat):Int)):=by omega
   have hie:i=hh:=(by omega);obtain⟨tn,bn,fn,on,rfl,rfl,rfl,rfl,jF⟩:=qH.box (yh.out.skip (D':=λ_ _=>True) λr c _ s=>by have:=(uj uB.out s).1;omega) (by rw[Hr];exact HF.out);rw[Hr]at jF;obtain⟨hgb,hb1,hb2,hb3,hb4⟩:=zT HG.out jF;have Bf:=aQ jF;have hneg:¬(((bn:Nat):Int)<0):=(by omega);clear hie hlt hgb jF uh;have hq3:=heap_alloc_new wr (.cells #[.slice none 0 0] 31);have hx3:=bS (Below.refl wr.heap.size wr) (.cells #[.slice none 0 0] 31);have PO:=aQ (ax HE1.out hx);have hbx:=(hx.block _ (bu HB1.out)).trans HB1.out;have hrx:=(hx.block _ (bu HR1.out)).trans HR1.out;have Xq:=aQ hbx;have HRX:=aQ hrx;have OU:=hx.size;have apT:=HZ1.out;clear hx hbx hrx;go_upto_region 18 with fail
   obtain⟨wq,hwq⟩:∃wq,wq=wr:=⟨_,rfl⟩;rw[<-hwq]at PO Xq HRX hq3 hx3 OU ⊢;clear hwq;generalize wq.alloc (.cells #[.slice none 0 0] 31)=W3 at *;go_loopw [11] (λii wr=>∃(m:Nat) (ov:Value) (sb:List ByteArray),ii=.int .i64 ((m:Nat):Int)/\(tn<=m/\m<=bn+1)/\wr.heap[wq.heap.size]?=some (.cells #[ov] 31 (0,0))/\wr.ownsRow (wq.heap.size+1) 9 1 ov sb.length (sb.map Value.string)/\Ext wq wr/\Hid (bd sb=((((bd ss).drop tn).take (m-tn)).map λr:List UInt8=>(r.drop fn).take (on+1-fn)))) (λii _=>bn+1-(intOf ii).toNat)
   case atStart=>exact⟨tn,_,[],rfl,⟨ay _,by omega⟩,hq3,⟨by simp,.inl ⟨rfl,rfl⟩⟩,hx3,aQ (by simp[bd])⟩
   case round=>
    clear hq3 hx3;obtain⟨m,ov,sb,rfl,⟨hj0,hj⟩,hbo,ho,hx,HSB⟩:=hrel;have hlen:sb.length=m-tn:=by
     have h2:=congrArg List.length HSB.out;rw[iy,bD,dI,iB,iy]at h2;have:=qJ.out;omega
    have hpq:=bu HRX.out;have hpb:=bu Xq.out;have hbx:=(hx.block _ hpb).trans Xq.out;have hrx:=(hx.block _ hpq).trans HRX.out;have cO:=cell_of_row wr wq.heap.size 0 _ _ _ hbo;have cB:=cell_of_row wr w.heap.size 0 _ _ _ hbx;simp only[gE]at cO cB;have hEr:=ax PO.out hx;by_cases hlt:m<=bn
    .have h1:((m:Nat):Int)<=((bn:Nat):Int):=by omega
     have sJ:m<ss.length:=(by have:=qJ.out;omega);obtain⟨b,off,rfl,hc⟩:=(h.ext hEr).at sJ;have cS:=hc _ sJ;have hsz:=og HG.out sJ;have wH:=aQ (Gc (f:=fn) (o:=on) (b:=bd ss) (t:=tn) (k:=m-tn) (by rw[iy];omega));simp only[show tn+(m-tn)=m by omega,show m-tn+1=m+1-tn by omega]at wH;rw[uH sJ]at wH;obtain⟨si,rU⟩:∃si:ByteArray,ss[m]=si:=⟨_,rfl⟩;rw[rU]at cS hsz wH;have fJ:=aQ hlt;have HLEN:=aQ hlen;have HX:=aQ hx;obtain⟨ao,co,rfl,-,-⟩:=bH ho;have hn8:sb.length<=8:=(by omega);have hzx:=hx.size;have XQ:=λ(w5:World) (v5:Value) (n:Nat) (ys:List Value) (X:Obj) (wz:World) (hb':wz.heap[wq.heap.size]?=some (.cells #[.slice ao sb.length co] 31 (0,0))) (h1:w5.ownsRow (wq.heap.size+1) 9 1 v5 n ys) (h2:(wz.alloc X).grownBy w5 (Value.slice ao sb.length co).ownBlock)=>Ih hb' (λb hb=>by have:=(ho.lt b hb).1;omega) (by omega) h1 h2
     have hfo:((fn:Nat):Int)<=((on:Nat):Int)+1:=(by omega);have hos:((on:Nat):Int)+1<=((si.size:Nat):Int):=(by omega);have hwo:IntKind.i64.wrap (((on:Nat):Int)+1)=((on:Nat):Int)+1:=(by rw[IntKind.wrap_i64];omega);have hsl:=λW:World=>run_slice_string (P:=prog) (w:=W) 9 si .i64 .i64 ((fn:Nat):Int) (((on:Nat):Int)+1) underlying9 (by omega) (by omega) (by omega)
     have HRR:=aQ hrx;clear hc hEr rU hlt hlen hx hbx hrx OU;go_upto_region 20 with fail
     refine bV (λW=>W.cell? ⟨wq.heap.size,0,none⟩=some (.slice ao sb.length co)/\W.cell? ⟨w.heap.size,0,none⟩=some (.slice (some ⟨b,off,none⟩) ss.length cap)/\W.cell? ⟨b,off+m,none⟩=some (.string si)) [12,13,14] LZ (by kernel_rfl) ⟨by kernel_rfl,by kernel_rfl,by kernel_rfl⟩ ⟨cO,cB,cS⟩ (λaz ah=>?_);(refine bT 0 az ah ?_;refine bT 1 az ah ?_;refine bT 2 az ah ?_;refine bT 3 az ah ?_;refine bT 4 az ah ?_;refine bT 5 az ah ?_;refine bT 6 az ah ?_;refine bT 7 az ah ?_;refine bT 8 az ah ?_;refine bT 9 az ah ?_;refine bT 10 az ah ?_);(refine nM az (i:=11) λK hK=>?_;go_simp);have hxd:Ext wr wr.drew:=⟨rfl,rfl,rfl,ay _,λ_ _=>rfl⟩;have afN:wr.drew.heap[wq.heap.size]?=some (.cells #[.slice ao sb.length co] 31 (0,0)):=hbo;have ho':=bY ho hxd;obtain⟨z1,z2,z3⟩:=ah;(refine hK.out _ _ (λ_=>?_) ?_)
     .exact⟨bK z1 _,bK z2 _,bK z3 _⟩
     clear hK K;(try simp only[nP]);refine nM az (i:=12) λK hK=>?_
     refine gY rfl (.tmp 66) (.tmp 76) 22 rfl (wq.heap.size+1) 9 i0 (.string ⟨#[]⟩) 1 16 underlying22 hi0 hz0 hz1 hz2 rfl (by decide) (.slice ao sb.length co) sb.length _ rfl (by exact ho'.alloc (.cells #[.string (si.extract fn (on+1))] 9)) _ 1 _ [.string (si.extract fn (on+1))] rfl rfl (.inr ⟨_,rfl,dJ (by exact dh wr.drew _ _)⟩) JK (by unfold maxLen;omega) (by omega) (by show _<=(wr.alloc _).heap.size;rw[eQ];omega) ?_;intro v6 w6 OZ Km YX;obtain⟨x6,y6,rfl,-,-⟩:=bH OZ;obtain⟨q1,q2,q3,q4,q5⟩:=XQ w6 _ _ _ _ wr.drew afN OZ Km;(refine hK.out _ _ (λ_=>?_) ?_)
     .rename_i hT;exact absurd hT (by decide)
     clear hK K;(try simp only[nP]);refine nU az [13,14] [_,_] ?_;have HHO:=aQ ho;clear XQ az z1 z2 z3 cO cB cS ho ho' OZ Km YX hbo afN;go_wp2
     go_roundw
     case rel=>
      refine⟨m+1,_,sb++[si.extract fn (on+1)],by go_num,⟨by omega,by have:=fJ.out;omega⟩,q1,by rw[aK,bG];exact q2,jw (ax HX.out hxd) q5 (λx hx=>?_),aQ ?_⟩
      .rcases hx with hx|hx
       .omega
       .have:=(HHO.out.lt _ hx).1;omega
      .rw[wH.out,<-HSB.out]
       unfold bd;rw[bG];congr 1;simp only[lM,qm,BS]
     case measure=>have:=fJ.out;simp[intOf];omega
    .have h1:¬(((m:Nat):Int)<=((bn:Nat):Int)):=by omega
     obtain⟨ao,co,rfl,-,-⟩:=bH ho;have r0:=cell_of_row wr (w.heap.size+1) 0 _ _ _ hrx;have hr1:=frozen_of_row wr (w.heap.size+1) 0 _ _ hrx;simp only[gE]at r0;have HH:=aQ (heap_setCell_same wr (w.heap.size+1) 0 _ _ (.slice ao sb.length co) hrx);have hks:=aQ (dV (w:=wr) (p:=⟨w.heap.size+1,0,none⟩) (v:=.slice ao sb.length co));have hme:m=bn+1:=(by omega);have HME:=aQ hme;have HO:=aQ ho;have HER:=aQ hEr;clear hme hlt hlen ho hx hEr hbx;go_wp2
     (try simp only[Exit.inBlock,Exit.then]);refine bodyPost_ret (results_cell_row rfl _ _ (w.heap.size+1) 31 #[.slice ao sb.length co] (0,0) _ rfl HH.out underlying31 rfl (by kernel_rfl)) rfl ?_;refine⟨_,sb,tn,bn,fn,on,rfl,jV (bI HO.out hks.out (λb hb q=>?_)) (by omega),Bf.out,?_,HER.out.setCell (p:=⟨w.heap.size+1,0,none⟩) (by show w.heap.size<=w.heap.size+1;omega) _⟩
     .have:=(HO.out.lt b hb).1;have q':b=w.heap.size+1:=q;omega
     .rw[HSB.out,HME.out];rfl
end
section
open bO
variable {S P U:Cs} {hh ww i k:Nat} {D D':Nat->Nat->Prop} {ks:List Nat} {ys:List fw}
def First(S:Cs)(r c:Nat):Prop:=S r c=true/\∀x y,kZ S r c x y->r<x\/(r=x/\c<=y)
theorem First.unique{r c x y:Nat}(h:First S r c)(k:First S x y)(j:kZ S r c x y):r=x/\c=y:=by
 have h1:=h.2 _ _ j;have h2:=k.2 _ _ j.symm;omega
def BV(hh ww:Nat)(P:Cs)(y:fw):Prop:=∃b t bo f o,GB b hh ww/\fr b=P/\yf P t bo f o/\y=oz b t bo f o
theorem ZE{b b':fw}{h w:Nat}(g:GB b h w)(g':GB b' h w)(e:fr b=fr b'):b=b':=by
 have key:∀{b:fw},GB b h w->∀i (hi:i<b.length) k (hk:k<b[i].length),(b[i][k]=46↔fr b i k=true)/\(b[i][k]=46\/b[i][k]=35):=λ{b} g i hi k hk=>by
  have hm:=(g.row _ (ai hi)).2 _ (ai hk);refine⟨?_,hm⟩;unfold fr at_;rw[aj (l:=b),aa hi,bW,aj,aa hk,bW];simp
 have h1:=g.hgt;have h2:=g'.hgt;refine lD (by omega) λi hi hi'=>?_
 have r1:=(g.row _ (ai hi)).1;have r2:=(g'.row _ (ai hi')).1;refine lD (by omega) λk hk hk'=>?_
 obtain⟨a1,a2⟩:=key g i hi k hk;obtain⟨b1,b2⟩:=key g' i hi' k hk';rw[e]at a1;rcases a2 with q|q <;> rcases b2 with q'|q'
 .rw[q,q']
 .have:=b1.2 (a1.1 q);rw[q']at this;exact absurd this (by decide)
 .have:=a1.2 (b1.1 q');rw[q]at this;exact absurd this (by decide)
 .rw[q,q']
theorem BV.unique{hh ww:Nat}{P:Cs}{y z:fw}(h:BV hh ww P y)(k:BV hh ww P z):y=z:=by
 obtain⟨b,t,bo,f,o,g,e,hb,rfl⟩:=h;obtain⟨b',t',bo',f',o',g',e',hb',rfl⟩:=k;obtain⟨rfl,rfl,rfl,rfl⟩:=hb.unique hb';rw[ZE g g' (e.trans e'.symm)]
def jL(S:Cs)(hh ww:Nat)(D:Nat->Nat->Prop)(ks:List Nat)(ys:List fw):Prop:=
 Asc ks/\(∀k,k∈ks↔First S (k / 8) (k % 8)/\D (k / 8) (k % 8))/\ks.length=ys.length/\
 ∀j (_:j<ks.length) (_:j<ys.length),∃P:Cs,(∀x y,P x y=true↔kZ S (ks[j] / 8) (ks[j] % 8) x y)/\BV hh ww P ys[j]
theorem jL.unique{S:Cs}{hh ww:Nat}{ks ls:List Nat}{ys zs:List fw}(h:jL S hh ww (λ_ _=>True) ks ys)(k:jL S hh ww (λ_ _=>True) ls zs):ys=zs:=by
 obtain⟨h1,h2,h3,h4⟩:=h;obtain⟨k1,k2,k3,k4⟩:=k;have e:ks=ls:=ru h1 k1 λx=>by rw[h2,k2]
 subst e;refine lD (by omega) λj hj hj'=>?_
 obtain⟨P,p1,p2⟩:=h4 j (by omega) hj;obtain⟨Q,q1,q2⟩:=k4 j (by omega) hj';have:P=Q:=AQ λx y=>(p1 x y).trans (q1 x y).symm
 subst this;exact p2.unique q2
theorem jL.nil(S:Cs)(hh ww:Nat):jL S hh ww (λ_ _=>False) [] []:=
 ⟨List.Pairwise.nil,λk=>by simp,rfl,λj h=>absurd h (by simp)⟩
theorem jL.skip(h:jL S hh ww D ks ys)(hD:∀r c,D r c->D' r c)(hn:∀r c,D' r c->First S r c->D r c):jL S hh ww D' ks ys:=by
 obtain⟨h1,h2,h3⟩:=h;exact⟨h1,λk=>(h2 k).trans ⟨λe=>⟨e.1,hD _ _ e.2⟩,λe=>⟨e.1,hn _ _ e.2 e.1⟩⟩,h3⟩
theorem jL.add{y:fw}(h:jL S hh ww D ks ys)(hk:k<8)(hf:First S i k)(hD:∀r c,D r c->c<8->r<i\/(r=i/\c<k))(hP:∀x y,P x y=true↔kZ S i k x y)(hy:BV hh ww P y):
 jL S hh ww (λr c=>D r c\/(r=i/\c=k)) (ks++[8*i+k]) (ys++[y]):=by
 obtain⟨h1,h2,h3,h4⟩:=h;have e1:(8*i+k) / 8=i:=by omega
 have e2:(8*i+k) % 8=k:=by omega
 refine⟨?_,λq=>?_,by simp[h3],λj hj hj'=>?_⟩
 .unfold Asc
  rw[oo];refine⟨h1,List.pairwise_singleton _ _,λa ha b hb=>?_⟩;obtain rfl:b=8*i+k:=by simpa using hb
  have:=hD _ _ ((h2 a).1 ha).2 (by omega);omega
 .rw[bq,h2,lC]
  constructor
  .rintro(⟨a,b⟩|rfl)
   .exact⟨a,.inl b⟩
   .rw[e1,e2];exact⟨hf,.inr ⟨rfl,rfl⟩⟩
  .rintro⟨a,b|⟨b,c⟩⟩
   .exact .inl ⟨a,b⟩
   .exact .inr (by omega)
 .by_cases c:j<ks.length
  .rw[dw c,dw (by omega)];exact h4 j c (by omega)
  .have ej:j=ks.length:=by simp at hj;omega
   subst ej;rw[dU (by omega),dU (by omega)];simp only[List.getElem_singleton];rw[e1,e2];exact⟨P,hP,hy⟩
structure Seen(S U:Cs)(D:Nat->Nat->Prop):Prop where
 Az:∀x y,U x y=true->S x y=true
 shut:∀x y u v,U x y=true->IA x y u v->S u v=true->U u v=true
 done:∀x y,D x y->S x y=true->U x y=true
 from_:∀x y,U x y=true->∃r c,D r c/\kZ S r c x y
theorem Seen.nil(S:Cs):Seen S none_ (λ_ _=>False):=⟨λ_ _ h=>(by cases h),λ_ _ _ _ h=>(by cases h),λ_ _ h=>h.elim,λ_ _ h=>(by cases h)⟩
theorem Seen.skip(h:Seen S U D)(h1:∀r c,D r c->D' r c)(h2:∀r c,D' r c->S r c=true->D r c\/U r c=true):Seen S U D':=
 ⟨h.Az,h.shut,λx y d s=>(h2 x y d s).elim (λe=>h.done x y e s) id,λx y u=>by obtain⟨r,c,d,k⟩:=h.from_ x y u;exact⟨r,c,h1 _ _ d,k⟩⟩
theorem Seen.first(h:Seen S U (λr c=>r<i\/(r=i/\c<k)))(hs:S i k=true)(hu:U i k=false):First S i k:=by
 refine⟨hs,λx y hc=>?_⟩;by_cases d:x<i\/(x=i/\y<k)
 .have h1:=h.done x y d hc.cell
  have:=Hy h.shut hc.symm h1;rw[hu]at this;cases this
 .omega
theorem Seen.TY(h:Seen S U (λr c=>r<i\/(r=i/\c<k)))(hu:U i k=true):¬First S i k:=λhf=>by
 obtain⟨r,c,d,hc⟩:=h.from_ i k hu;have:=hf.2 r c hc.symm;omega
theorem Seen.add{U':Cs}(h:Seen S U D)(hg:Grown S U U')(hik:U' i k=true)(hc:∀x y,U' x y=true->U x y=true\/kZ S i k x y)(h1:∀r c,D r c->D' r c)(h2:∀r c,D' r c->D r c\/(r=i/\c=k))(h3:D' i k):Seen S U' D':=by
 refine⟨λx y u=>?_,λx y a b u n s=>?_,λx y d s=>?_,λx y u=>?_⟩
 .rcases hg.only x y u with e|e
  .exact h.Az x y e
  .exact e
 .cases q:U x y with
  |true=>exact hg.more _ _ (h.shut _ _ _ _ q n s)
  |false=>exact hg.shut _ _ _ _ u q n s
 .rcases h2 x y d with e|⟨rfl,rfl⟩
  .exact hg.more _ _ (h.done x y e s)
  .exact hik
 .rcases hc x y u with e|e
  .obtain⟨r,c,d,q⟩:=h.from_ x y e;exact⟨r,c,h1 _ _ d,q⟩
  .exact⟨i,k,h3,e⟩
theorem Qs(hg:Grown S none_ P)(hik:P i k=true)(hc:∀x y,P x y=true->none_ x y=true\/kZ S i k x y)(x y:Nat):P x y=true↔kZ S i k x y:=by
 refine⟨λh=>?_,λh=>Hy (λx y u v a n s=>hg.shut _ _ _ _ a rfl n s) h hik⟩;rcases hc x y h with e|e
 .cases e
 .exact e
theorem Seen.part(h:Seen S U D)(hP:∀x y,P x y=true↔kZ S i k x y)(h1:∀r c,D r c->D' r c)(h2:∀r c,D' r c->D r c\/(r=i/\c=k))(h3:D' i k)(hs:S i k=true):Seen S (uL U P) D':=by
 refine⟨λx y u=>?_,λx y a b u n s=>?_,λx y d s=>?_,λx y u=>?_⟩
 .rcases jY.1 u with e|e
  .exact h.Az x y e
  .exact((hP x y).1 e).cell
 .rcases jY.1 u with e|e
  .exact jY.2 (.inl (h.shut _ _ _ _ e n s))
  .exact jY.2 (.inr ((hP _ _).2 (.step ((hP _ _).1 e) n s)))
 .rcases h2 x y d with e|⟨rfl,rfl⟩
  .exact jY.2 (.inl (h.done x y e s))
  .exact jY.2 (.inr ((hP _ _).2 (.here hs)))
 .rcases jY.1 u with e|e
  .obtain⟨r,c,d,q⟩:=h.from_ x y e;exact⟨r,c,h1 _ _ d,q⟩
  .exact⟨i,k,h3,(hP _ _).1 e⟩
theorem QF{C:Cs}(h:Seen S U D)(e:C=sub S U)(hg:Grown C none_ P)(hik:P i k=true)(hc:∀x y,P x y=true->none_ x y=true\/kZ C i k x y)(hu:U i k=false)(x y:Nat):P x y=true↔kZ S i k x y:=by
 subst e;refine⟨λhp=>?_,λhp=>?_⟩
 .rcases hc x y hp with q|q
  .cases q
  .clear hp
   induction q with
   |here s=>exact .here (mo.1 s).1
   |step _ n s ih=>exact .step ih n (mo.1 s).1
 .have key:∀u v,kZ S i k u v->U u v=false:=λu v q=>by
   cases e:U u v with
   |false=>rfl
   |true=>have:=Hy h.shut q.symm e;rw[hu]at this;cases this
  induction hp with
  |here _=>exact hik
  |step q n s ih=>exact hg.shut _ _ _ _ ih rfl n (mo.2 ⟨s,key _ _ (.step q n s)⟩)
end
end Go.Proofs.YteknjeohbcgpdaaGreatDoor