/-
  The parts of a board: plain law of what was seen; the memory of the program's (Board).parts; no condition. (4 texts.)
-/
import Derived.Test.YteknjeohbcgpdaaGreatDoorK48
set_option maxRecDepth 100000
namespace Go.Proofs.YteknjeohbcgpdaaGreatDoor
open Tryz
section
open Go.RowKit
open bO (fw GB fD Cs Grown ad qD sub mo cnt rm Bd IA fr)
structure om(w:World)(C:Nat)(bv:Value)(ss:List ByteArray)(pv:Value)(ps:Nat->Value)(pl:Cl)(hh ww:Nat):Prop where
 Ad:Strs w bv ss
 part:Gr w C pv ps pl
 sz:Sz pl hh ww
 ap:∀b,Lg ps hh b->bv.ownBlock≠some b
def Li(w:World)(C:Nat)(bv:Value)(ss:List ByteArray)(pv:Value)(ps:Nat->Value)(pl:Cl)(hh ww:Nat)(i k:Int)(e:Ending)(w':World):Prop:=
 ∃Ak,e=.returned (.tuple #[])/\om w' C bv ss pv ps Ak hh ww/\dX (Lg ps hh) w w'/\Grown (fr (bd ss)) (lK pl) (lK Ak)/\(Hd (bd ss) i k=true->jk Ak i.toNat k.toNat=true)/\∀x y,lK Ak x y=true->lK pl x y=true\/kZ (fr (bd ss)) i.toNat k.toNat x y
section
variable {w w':World} {C:Nat} {bv:Value} {ss:List ByteArray} {pv:Value} {ps:Nat->Value} {pl:Cl} {hh ww:Nat}
theorem om.rd(h:om w C bv ss pv ps pl hh ww)(hx:Ext w w'):om w' C bv ss pv ps pl hh ww:=⟨h.Ad.ext hx,h.part.ext hx,h.sz,h.ap⟩
theorem om.set(h:om w C bv ss pv ps pl hh ww){i k g c:Nat}(hi:i<hh)(hk:k<ww)(e:ps i=.slice (some ⟨g,0,none⟩) ww c):
 om (w.setCell ⟨g,k,none⟩ (.bool true)) C bv ss pv ps (pG pl i k true) hh ww/\dX (Lg ps hh) w (w.setCell ⟨g,k,none⟩ (.bool true)):=by
 have hl:=h.sz.hgt;have hi':i<pl.length:=by omega
 have hw:=h.sz.at hi';have hB:Lg ps hh g:=⟨i,hi,by rw[e];rfl⟩;have hks:=dV (w:=w) (p:=⟨g,k,none⟩) (v:=.bool true);have hkk:dX (Lg ps hh) w (w.setCell ⟨g,k,none⟩ (.bool true)):=⟨hks.os,hks.tape,hks.output,hks.size,λb hb hn=>hks.block b hb λq=>hn (by rw[show b=g from q];exact hB)⟩;refine⟨⟨lN.keep h.Ad λb hl hb=>hkk.block b (lN.blk h.Ad hl hb) λhn=>h.ap b hn hb,h.part.set hi' (by rw[hw];exact hk) (by rw[e,hw]) true,h.sz.set i k true,h.ap⟩,hkk⟩
end
def Oc(n:Nat):Prop:=∀(w:World) (C:Nat) (bv:Value) (ss:List ByteArray) (pv:Value) (ps:Nat->Value) (pl:Cl) (hh ww:Nat) (i k:Int),om w C bv ss pv ps pl hh ww->GB (bd ss) hh ww->-1<=i/\i<=8->-1<=k/\k<=8->
 cnt (sub (fr (bd ss)) (lK pl))<n->Calls prog 123 #[.agg #[bv],.int .i64 i,.int .i64 k,pv] w (Li w C bv ss pv ps pl hh ww i k)
set_option maxHeartbeats 4000000 in
theorem Q9{n:Nat}(ih:Oc n):Oc (n+1):=by
 intro w C bv ss pv ps pl hh ww i k hP g hi8 hk8 hn;obtain⟨av,cv,rfl,-,-⟩:=hP.part.len;obtain⟨a,cap,rfl,-,-⟩:=hP.Ad.open;have hxb:Ext w (w.alloc (.cells #[.slice a ss.length cap] 31)):=by go_grown
 have hbx:=heap_alloc_new w (.cells #[.slice a ss.length cap] 31);have hfr:∀W,Ext w W->Calls prog 109 #[.agg #[.slice a ss.length cap],.int .i64 i,.int .i64 k] W λe w'=>e=.returned (.bool (Hd (bd ss) i k))/\Ext W w':=λW hW=>zO _ ss hh ww i k W (hP.Ad.ext hW) g (by omega) (by omega)
 have hpl:=hP.sz.hgt;have h1:=g.h1;have w1:=g.w1;rw[hpl]at hP ⊢;cases hc:Hd (bd ss) i k with
 |false=>
  have HP:=aQ hP;have HC:=aQ hc;clear hP;go_enter Tryz.func123,Tryz.ntmps123
  go_upto_region 1 with fail
  generalize w.alloc (.cells #[.slice a ss.length cap] 31)=W at *;have c0:=cell_of_row W w.heap.size 0 _ _ _ hbx;simp only[gE]at c0;go_wp2_with (go_at_call 109;refine(hfr W hxb).mono ?_;rintro e w2 ⟨he,hx2⟩;rw[hc]at he;subst he)
  ((try simp only[Exit.inBlock,Exit.then]);refine bodyPost_ret (results_none rfl _ _ _) rfl ?_);have hx:=ax hxb hx2;exact⟨pl,rfl,HP.out.rd hx,fq hx,Grown.refl _ _,(λh=>by rw[HC.out]at h;cases h),λ_ _ h=>.inl h⟩
 |true=>
  have hin:=hc;unfold Hd at hin;simp only[dK,decide_eq_true_eq]at hin;obtain⟨⟨hi,hk⟩,hcell⟩:=hin;obtain⟨iN,rfl⟩:∃iN:Nat,i=(iN:Int):=⟨i.toNat,by omega⟩;obtain⟨kN,rfl⟩:∃kN:Nat,k=(kN:Int):=⟨k.toNat,by omega⟩;simp only[dP]at hcell;obtain⟨RS,hkN⟩:=g.Az hcell;have sJ:iN<pl.length:=by omega
  have hw:=hP.sz.at sJ;obtain⟨gt,ct,et,htop⟩:=hP.part.top sJ;rw[hpl]at et;simp only[Value.slice.injEq,true_and]at et;obtain⟨rfl,rfl⟩:=et;obtain⟨gg,c,eg,hb,hf⟩:=hP.part.cell sJ (show kN<pl[iN].length by omega);rw[eg,hw]at htop;rw[hw]at eg;have hga:jk pl iN kN=pl[iN][kN]:=Ht sJ (by omega);rw[<-hga]at hb;have hil:((iN:Nat):Int)<((hh:Nat):Int):=by omega
  have hkl:((kN:Nat):Int)<((ww:Nat):Int):=by omega
  have hlt:=λb (hb:Lg ps hh b)=>(hP.part.lt (b:=b) (.inr (by rw[hpl];exact hb))).2
  have fJ:=aQ hlt;clear hlt;cases hpb:jk pl iN kN with
  |true=>
   rw[hpb]at hb;have HP:=aQ hP;have HPB:=aQ hpb;clear hP eg hga hpb sJ hw hi hk hf;go_enter Tryz.func123,Tryz.ntmps123
   go_upto_region 1 with fail
   generalize w.alloc (.cells #[.slice a ss.length cap] 31)=W at *;have c0:=cell_of_row W w.heap.size 0 _ _ _ hbx;simp only[gE]at c0;go_wp2_with (go_at_call 109;refine(hfr W hxb).mono ?_;rintro e w2 ⟨he,hx2⟩;rw[hc]at he;subst he;have hx:=ax hxb hx2;have m1:=(hx.cell (lt_of_cell htop)).trans htop;have m2:=(hx.cell (lt_of_cell hb)).trans hb)
   ((try simp only[Exit.inBlock,Exit.then]);refine bodyPost_ret (results_none rfl _ _ _) rfl ?_);exact⟨pl,rfl,HP.out.rd hx,fq hx,Grown.refl _ _,(λ_=>HPB.out),λ_ _ h=>.inl h⟩
  |false=>
   rw[hpb]at hb;have hS:=g.bd;have HW1:=λW (hW:Ext w W)=>(hP.rd hW).set RS hkN eg
   have hgs:=Ph hP.sz RS hkN;have hless:∀Ak,Grown (fr (bd ss)) (lK (pG pl iN kN true)) (lK Ak)->cnt (sub (fr (bd ss)) (lK Ak))<n:=λAk hg=>by
    have:=Jg (P:=lK pl) hS (r:=iN) (c:=kN) hcell hpb (P':=lK Ak) λx y h=>hg.more _ _ (by rw[hgs];exact h)
    omega
   have Z4:=aQ hless;have HPB:=aQ hpb;have HGS:=aQ hgs;have HCE:=aQ hcell;have HGG:Hid (gg<w.heap.size):=aQ (fJ.out _ ⟨iN,RS,by rw[eg];rfl⟩);clear hP eg hga hpb sJ hw hi hk hS hgs hcell hless;go_enter Tryz.func123,Tryz.ntmps123
   go_upto_region 1 with fail
   generalize w.alloc (.cells #[.slice a ss.length cap] 31)=W at *;have c0:=cell_of_row W w.heap.size 0 _ _ _ hbx;simp only[gE]at c0;go_upto_region 3 with(go_at_call 109;refine(hfr W hxb).mono ?_;rintro e w2 ⟨he,hx2⟩;rw[hc]at he;subst he;have hx:=ax hxb hx2;have m1:=(hx.cell (lt_of_cell htop)).trans htop;have m2:=(hx.cell (lt_of_cell hb)).trans hb;have m3:w2.frozen? ⟨gg,kN,none⟩=false:=(Below.frozen hx (lt_of_cell hb)).trans hf)
   obtain⟨hP2,hK2⟩:=HW1 w2 hx;have yh:Hid (w2.heap[w.heap.size]?=some (.cells #[.slice a ss.length cap] 31 (0,0))):=aQ ((hx2.block _ (bu hbx)).trans hbx);have ahr:=aQ hK2;have HXX:=aQ hx;clear HW1 hK2 hb htop m1 m2 m3 c0 hx hx2 hxb hbx hf;generalize hWn:w2.setCell ⟨gg,kN,none⟩ (.bool true)=W2 at *;clear hWn;have call2:=ih W2 C _ ss _ ps _ hh ww ((iN:Int)-1) kN hP2 g (by omega) (by omega) (Z4.out _ (Grown.refl _ _));have Nf:W2.heap[w.heap.size]?=some (.cells #[.slice a ss.length cap] 31 (0,0)):=(ahr.out.block _ (bu yh.out) (λe=>by have:=fJ.out _ e;omega)).trans yh.out;have c2:=cell_of_row W2 w.heap.size 0 _ _ _ Nf;simp only[gE]at c2;clear hP2 Nf;go_upto_region 4 with(go_at_call 123;refine call2.mono ?_;rintro e w3 ⟨pl3,rfl,hP3,hK3,hG3,R3,hD3⟩)
   clear call2 c2;have HG3:=aQ hG3;have HN3:=aQ (And.intro R3 hD3);have ahq:=aQ (ahr.out.trans hK3 λ_ _ h=>h);clear R3 hD3 hK3 hG3;have call3:=ih w3 C _ ss _ ps pl3 hh ww ((iN:Int)+1) kN hP3 g (by omega) (by omega) (Z4.out _ HG3.out);have QW:w3.heap[w.heap.size]?=some (.cells #[.slice a ss.length cap] 31 (0,0)):=(ahq.out.block _ (bu yh.out) (λe=>by have:=fJ.out _ e;omega)).trans yh.out;have c3:=cell_of_row w3 w.heap.size 0 _ _ _ QW;simp only[gE]at c3;clear hP3 QW;go_upto_region 5 with(go_at_call 123;refine call3.mono ?_;rintro e w4 ⟨pl4,rfl,RZ,hK4,hG4,Pd,hD4⟩)
   clear call3 c3;have X7:=aQ hG4;have Z8:=aQ (HG3.out.trans hG4);have HN4:=aQ (And.intro Pd hD4);have ahp:=aQ (ahq.out.trans hK4 λ_ _ h=>h);clear Pd hD4 hK4 hG4;have call4:=ih w4 C _ ss _ ps pl4 hh ww (iN:Int) ((kN:Int)-1) RZ g (by omega) (by omega) (Z4.out _ Z8.out);have Y6:w4.heap[w.heap.size]?=some (.cells #[.slice a ss.length cap] 31 (0,0)):=(ahp.out.block _ (bu yh.out) (λe=>by have:=fJ.out _ e;omega)).trans yh.out;have c4:=cell_of_row w4 w.heap.size 0 _ _ _ Y6;simp only[gE]at c4;clear RZ Y6;go_upto_region 6 with(go_at_call 123;refine call4.mono ?_;rintro e w5 ⟨pl5,rfl,Hm,XV,AL,hN5,hD5⟩)
   clear call4 c4;have X6:=aQ AL;have Z7:=aQ (Z8.out.trans AL);have HN5:=aQ (And.intro hN5 hD5);have aho:=aQ (ahp.out.trans XV λ_ _ h=>h);clear hN5 hD5 XV AL;have call5:=ih w5 C _ ss _ ps pl5 hh ww (iN:Int) ((kN:Int)+1) Hm g (by omega) (by omega) (Z4.out _ Z7.out);have afL:w5.heap[w.heap.size]?=some (.cells #[.slice a ss.length cap] 31 (0,0)):=(aho.out.block _ (bu yh.out) (λe=>by have:=fJ.out _ e;omega)).trans yh.out;have c5:=cell_of_row w5 w.heap.size 0 _ _ _ afL;simp only[gE]at c5;clear Hm afL;go_wp2_with (go_at_call 123;refine call5.mono ?_;rintro e w6 ⟨pl6,rfl,hP6,hK6,VC,hN6,hD6⟩)
   clear call5 c5;go_end0
   have Np:=Z7.out.trans VC;rw[HGS.out]at Np;have hK0:dX (Lg ps hh) w w2:=fq HXX.out;refine⟨pl6,rfl,hP6,hK0.trans (aho.out.trans hK6 λ_ _ h=>h) λ_ _ h=>h,bO.ni HCE.out Np λx y hn hs=>?_,λ_=>?_,λx y hx=>?_⟩
   .have hb:=g.Az hs
    have key:∀(a b:Int) (Ak:Cl),(Hd (bd ss) a b=true->jk Ak a.toNat b.toNat=true)->a=(x:Int)->b=(y:Int)->jk Ak x y=true:=λa b Ak hq ha hb'=>by
     subst ha hb';have:=hq (by rw[mE];exact hs)
     simpa using this
    rcases bO.oO.1 hn with⟨e,f⟩|⟨e,f⟩|⟨e,f⟩|⟨e,f⟩
    .exact VC.more _ _ (X6.out.more _ _ (X7.out.more _ _ (key _ _ _ HN3.out.1 (by omega) (by omega))))
    .exact VC.more _ _ (X6.out.more _ _ (key _ _ _ HN4.out.1 (by omega) (by omega)))
    .exact VC.more _ _ (key _ _ _ HN5.out.1 (by omega) (by omega))
    .exact key _ _ _ hN6 (by omega) (by omega)
   .simp only[dP]
    exact Np.more _ _ (qD.2 (.inr ⟨rfl,rfl⟩))
   .have near:∀{a b:Int},(a.toNat=iN/\b.toNat=kN)\/IA iN kN a.toNat b.toNat->kZ (fr (bd ss)) a.toNat b.toNat x y->kZ (fr (bd ss)) iN kN x y:=λh k=>Gh HCE.out h k
    simp only[dP];rcases hD6 x y hx with h|h
    .rcases HN5.out.2 x y h with h|h
     .rcases HN4.out.2 x y h with h|h
      .rcases HN3.out.2 x y h with h|h
       .rw[HGS.out]at h
        rcases qD.1 h with h|⟨rfl,rfl⟩
        .exact .inl h
        .exact .inr (.here HCE.out)
       .exact .inr (near (by rw[bO.oO];omega) h)
      .exact .inr (near (by rw[bO.oO];omega) h)
     .exact .inr (near (by rw[bO.oO];omega) h)
    .exact .inr (near (by rw[bO.oO];omega) h)
theorem yc(w:World)(C:Nat)(bv:Value)(ss:List ByteArray)(pv:Value)(ps:Nat->Value)(pl:Cl)(hh ww:Nat)(i k:Int)(hP:om w C bv ss pv ps pl hh ww)(g:GB (bd ss) hh ww)(hi:-1<=i/\i<=8)(hk:-1<=k/\k<=8):
 Calls prog 123 #[.agg #[bv],.int .i64 i,.int .i64 k,pv] w (Li w C bv ss pv ps pl hh ww i k):=by
 have:∀n,Oc n:=λn=>by
  induction n with
  |zero=>intro w C bv ss pv ps pl hh ww i k _ _ _ _ h;omega
  |succ n ih=>exact Q9 ih
 exact this _ w C bv ss pv ps pl hh ww i k hP g hi hk (lu _)
end
section
open Go.RowKit
open bO (fw GB fr)
def Rw(hh ww:Nat)(w:World)(e:Ending)(w':World):Prop:=∃v' sl,e=.returned v'/\Gr w' w.heap.size v' sl (uD hh ww)/\Ext w w'
set_option maxHeartbeats 2000000 in
theorem FM(v:Value)(ss:List ByteArray)(hh ww:Nat)(w:World)(h:Strs w v ss)(g:GB (bd ss) hh ww):
 Calls prog 122 #[.agg #[v]] w (Rw hh ww w):=by
 obtain⟨a,cap,rfl,hcap,p8⟩:=h.open;obtain⟨i1,hi1,hy0,hy1,hy2⟩:=info_parts yD;obtain⟨i2,hi2,hu0,hu1,hu2⟩:=info_parts uf;have h8:=g.h1;have w8:=g.w1;have hmk:=λW:World=>run_make (P:=prog) W 106 4 i2 (.bool false) underlying106 hi2 hu0 .i64 .i64 (ww:Int) (ww:Int) (by omega) (by omega) (by rw[hu2];omega) (by omega)
 have hlen:ss.length=hh:=oh g;have HLEN:=aQ hlen;have uB:Hid (∀s,s∈ss->s.size=ww):=aQ λs hs=>by
  obtain⟨i,hi,rfl⟩:=aW.1 hs;exact og g hi
 have hx0:Ext w ((w.alloc (.cells #[.slice a ss.length cap] 31)).alloc (.cells #[] 106)):=by go_grown
 have hb0:((w.alloc (.cells #[.slice a ss.length cap] 31)).alloc (.cells #[] 106)).heap[w.heap.size]?=some (.cells #[.slice a ss.length cap] 31 (0,0)):=by
  rw[Below.heap_alloc _ _ _ (by simp)];exact heap_alloc_new _ _
 have hr1:=World.ownsRow_made (w.alloc (.cells #[.slice a ss.length cap] 31)) (base:=w.heap.size) (e:=106) (size:=1) #[] 0 (by rw[eQ];omega) (by decide) (by simp);rw[eQ]at hr1;clear hlen g;go_enter Tryz.func122,Tryz.ntmps122
 go_upto_region 2 with fail
 generalize ((w.alloc (.cells #[.slice a ss.length cap] 31)).alloc (.cells #[] 106))=W at *;have c0:=cell_of_row W w.heap.size 0 _ _ _ hb0;simp only[gE]at c0;have Xh:Hid (Gr W w.heap.size (.slice (some ⟨w.heap.size+1,0,none⟩) 0 0) (λ_=>.slice none 0 0) (List.replicate 0 (List.replicate ww false))):=aQ (Gr.nil hr1);clear hr1;go_upto_region 3 with fail
 clear c0 hb0;go_loopw [3,5,10] (λpv _ rr wr=>∃(r:Nat) (ps:Nat->Value),rr=.int .i64 ((r:Nat):Int)/\r<=ss.length/\Ext w wr/\Hid (Gr wr w.heap.size pv ps (List.replicate r (List.replicate ww false)))) (λ_ _ rr _=>ss.length-(intOf rr).toNat)
 case atStart=>exact⟨0,_,rfl,aJ _,hx0,Xh⟩
 case round=>
  clear hx0 Xh;obtain⟨r,ps,rfl,hr,hx,Sb⟩:=hrel;have hr8:ss.length<=8:=by have:=HLEN.out;omega
  by_cases hlt:r<ss.length
  .have hrl:((r:Nat):Int)<((ss.length:Nat):Int):=by omega
   have wI:=aQ hlt;obtain⟨b,off,rfl,hcl⟩:=(h.ext hx).at hlt;have ci:=hcl r hlt;have hsi:=uB.out _ (ai wI.out);generalize ss[r]'(wI.out)=si at ci hsi;obtain⟨ap,cp,rfl,-,-⟩:=Sb.out.len;have HXA:=aQ hx;have DK:=Sb.out.row;have hln:(List.replicate r (List.replicate ww false)).length=r:=(by simp);rw[hln]at DK;have hzx:=hx.size;have hro:(wr.alloc (.cells (madeCells #[.bool false] ww) 4)).ownsRow wr.heap.size 4 1 (.slice (some ⟨wr.heap.size,0,none⟩) ww ww) ww ((List.replicate ww false).map Value.bool):=by
    rw[<-yx];exact World.ownsRow_lit wr _ _ (ay _) (by unfold maxLen;omega) (by rw[size_madeCells];simp)
   have hxm:=bS (Below.refl wr.heap.size wr) (.cells (madeCells #[.bool false] ww) 4);have HRO:=aQ hro;have hown2:=bY DK hxm;rw[hln];clear hlt hcl hx hro DK hln;go_wp2_with (at_builtin;refine dC rfl (.tmp 14) (.tmp 18) 104 rfl w.heap.size 106 i1 (.slice none 0 0) 1 24 underlying104 hi1 hy0 hy1 hy2 rfl (by decide) (.slice ap r cp) r _ rfl (hown2.alloc _) _ 1 _ [.slice (some ⟨wr.heap.size,0,none⟩) ww ww] rfl rfl (.inr ⟨_,rfl,dJ (qf _ _ _ _)⟩) mD (by unfold maxLen;omega) (by omega) (by rw[eQ,eQ];omega) ?_;intro v5 w5 iT hg5 hl5)
   go_roundw
   case rel=>
    have hl2:(List.replicate r (List.replicate ww false)).length=r:=(by simp);have HP2:=Sb.out;rw[hl2]at HP2;obtain⟨ps',hS⟩:=Gr.push (r:=List.replicate ww false) HP2 hxm hzx (by simpa using HRO.out) (by rw[hl2];exact iT) hg5 hl5;refine⟨r+1,ps',by go_num,wI.out,dS (bS (ax HXA.out hxm) _) hg5 (λq hq=>(HP2.lt (.inl hq)).1),aQ ?_⟩;rw[List.replicate_succ'];exact hS
   case measure=>have:=wI.out;simp[intOf];omega
  .have hrl:¬(((r:Nat):Int)<((ss.length:Nat):Int)):=by omega
   have hre:r=hh:=(by have:=HLEN.out;omega);subst hre;have HX:=aQ hx;clear hx;go_wp2
   go_ret
   exact⟨_,ps,rfl,Sb.out,HX.out⟩
end
section
open Go.RowKit
open bO (fw GB fr fD)
variable {p:Nat->Bool} {c ww hh:Nat} {l:List UInt8} {b:fw} {pl:Cl}
def GU(p:Nat->Bool)(c:Nat)(l:List UInt8):List UInt8:=l.mapIdx λk x=>if k<c/\p k=false then 35 else x
theorem TW(p:Nat->Bool)(l:List UInt8):GU p 0 l=l:=by
 unfold GU;apply l6 ;intro i;rw[List.getElem?_mapIdx];cases l[i]? <;> simp
theorem qV(p:Nat->Bool)(c:Nat)(l:List UInt8):(GU p c l).length=l.length:=by simp[GU]
theorem wU(p:Nat->Bool)(c:Nat)(l:List UInt8)(k:Nat):(GU p c l)[k]?=(l[k]?).map λx=>if k<c/\p k=false then 35 else x:=by
 unfold GU;rw[List.getElem?_mapIdx]
theorem abB(hp:p c=true):GU p (c+1) l=GU p c l:=by
 apply l6;intro k;rw[wU,wU];congr 1;funext x;by_cases e:k=c
 .subst e;simp[hp]
 .have:(k<c+1)↔k<c:=by omega
  simp only[this]
theorem Yt(hp:p c=false):(GU p c l).set c 35=GU p (c+1) l:=by
 apply l6;intro k;rw[eX,wU,wU,qV];by_cases e:c=k
 .subst e
  rw[if_pos rfl];by_cases hc:c<l.length
  .rw[if_pos hc,aa hc];simp[hp]
  .rw[if_neg hc,ek (by omega)];rfl
 .rw[if_neg e]
  congr 1;funext x;have:(k<c+1)↔k<c:=by omega
  simp only[this]
def nW(b:fw)(pl:Cl)(ww:Nat):fw:=b.mapIdx λr l=>GU (λc=>jk pl r c) ww l
theorem Ao{i:Nat}(hi:i<b.length):(nW b pl ww)[i]?=some (GU (λc=>jk pl i c) ww b[i]):=by
 unfold nW;rw[List.getElem?_mapIdx,aa hi];rfl
theorem zh(g:GB b hh ww):GB (nW b pl ww) hh ww:=by
 refine⟨by simp[nW,g.hgt],g.h1,g.w1,λr hr=>?_⟩;obtain⟨i,hi,rfl⟩:=aW.1 hr;have hi':i<b.length:=by simpa [nW]using hi
 have e:(nW b pl ww)[i]=GU (λc=>jk pl i c) ww b[i]:=(cK.1 (Ao (pl:=pl) (ww:=ww) hi')).2;obtain⟨h1,h2⟩:=g.row _ (ai hi');rw[e];refine⟨by rw[qV];exact h1,λx hx=>?_⟩;obtain⟨k,hk,rfl⟩:=aW.1 hx;have hk':k<b[i].length:=by rw[qV]at hk;exact hk
 have e2:=(cK.1 ((wU (λc=>jk pl i c) ww b[i] k).trans (by rw[aa hk'];rfl))).2;rw[e2];split
 .exact .inr rfl
 .exact h2 _ (ai hk')
theorem TU(g:GB b hh ww)(hs:∀x y,lK pl x y=true->fr b x y=true):fr (nW b pl ww)=lK pl:=by
 funext r c;by_cases hr:r<b.length
 .by_cases hc:c<b[r].length
  .have e1:bO.at_ (nW b pl ww) r c=if jk pl r c=false then 35 else bO.at_ b r c:=by
    have hw:=(g.row _ (ai hr)).1;unfold bO.at_;rw[aj (l:=nW b pl ww),Ao hr,bW,aj,wU,aa hc,aj (l:=b),aa hr,bW,aj,aa hc];have:c<ww:=(by omega);simp[this]
   unfold fr;rw[e1];cases q:jk pl r c with
   |false=>simp[lK,q]
   |true=>
    have:=hs r c q;unfold fr at this;simp only[lK,q]
    simpa using this
  .have h1:fr (nW b pl ww) r c=false:=by
    cases q:fr (nW b pl ww) r c with
    |false=>rfl
    |true=>have:=(zh (pl:=pl) g).Az q;have:=(g.row _ (ai hr)).1;omega
   have h2:lK pl r c=false:=by
    cases q:lK pl r c with
    |false=>rfl
    |true=>have:=g.Az (hs r c q);have:=(g.row _ (ai hr)).1;omega
   rw[h1,h2]
 .have h1:fr (nW b pl ww) r c=false:=by
   cases q:fr (nW b pl ww) r c with
   |false=>rfl
   |true=>have:=(zh (pl:=pl) g).Az q;have:=g.hgt;omega
  have h2:lK pl r c=false:=by
   cases q:lK pl r c with
   |false=>rfl
   |true=>have:=g.Az (hs r c q);have:=g.hgt;omega
  rw[h1,h2]
def WX(b:fw)(w:World)(e:Ending)(w':World):Prop:=
 ∃(v':Value) (ss':List ByteArray),e=.returned (.agg #[v'])/\w'.ownsRow w.heap.size 9 1 v' ss'.length (ss'.map Value.string)/\bd ss'=b/\Ext w w'
set_option maxHeartbeats 2000000 in
theorem TT(v:Value)(ss:List ByteArray)(hh ww:Nat)(w:World)(h:Strs w v ss)(g:GB (bd ss) hh ww)(C:Nat)(pv:Value)(ps:Nat->Value)(pl:Cl)(hG:Gr w C pv ps pl)(hs:Sz pl hh ww):
 Calls prog 124 #[.agg #[v],pv] w (WX (nW (bd ss) pl ww) w):=by
 obtain⟨i0,hi0,hz0,hz1,hz2⟩:=info_parts pX;obtain⟨a,cap,rfl,hcap,p8⟩:=h.open;obtain⟨ap,cp,rfl,-,-⟩:=hG.len;have hpl:=hs.hgt;rw[hpl]at hG;have hh8:=g.h1;have hw8:=g.w1;have hlen:ss.length=hh:=oh g;have HLEN:=aQ hlen;have hsz:∀s,s∈ss->s.size=ww:=λs hs=>by
  obtain⟨i,hi,rfl⟩:=aW.1 hs;exact og g hi
 have HI8:Hid (ss.length<=8):=aQ (by omega);have HG:=aQ (And.intro hG hs);rw[hpl];clear hlen g hG hs hpl;have hxb:Ext w (((w.alloc (.cells #[.slice a ss.length cap] 31)).alloc (.cells #[.slice none 0 0] 31)).alloc (.cells #[.slice none 0 0] 31)):=by go_grown
 have hM0:WU w (((w.alloc (.cells #[.slice a ss.length cap] 31)).alloc (.cells #[.slice none 0 0] 31)).alloc (.cells #[.slice none 0 0] 31)) (.slice a ss.length cap) (.slice none 0 0) []:=by
  refine⟨?_,?_,?_,⟨by simp,.inl ⟨rfl,rfl⟩⟩,λb hb=>by simp[Value.ownBlock]at hb,hxb⟩
  .rw[Below.heap_alloc _ _ _ (by simp;omega),Below.heap_alloc _ _ _ (by simp)];exact heap_alloc_new _ _
  .rw[Below.heap_alloc _ _ _ (by simp)]
   have h:=heap_alloc_new (w.alloc (.cells #[.slice a ss.length cap] 31)) (.cells #[.slice none 0 0] 31);rw[eQ]at h;exact h
  .have h:=heap_alloc_new ((w.alloc (.cells #[.slice a ss.length cap] 31)).alloc (.cells #[.slice none 0 0] 31)) (.cells #[.slice none 0 0] 31);rw[eQ,eQ]at h;exact h
 go_enter Tryz.func124,Tryz.ntmps124
 go_upto_region 2 with fail
 generalize (((w.alloc (.cells #[.slice a ss.length cap] 31)).alloc (.cells #[.slice none 0 0] 31)).alloc (.cells #[.slice none 0 0] 31))=We at *;have c0:=cell_of_row We w.heap.size 0 _ _ _ hM0.b0;simp only[gE]at c0;rw[show w.heap.size+1+1=w.heap.size+2 from rfl];go_wp2
 go_loopw [6,7,8,9,14] (λ_ _ _ _ ii wr=>∃(i:Nat) (ov:Value) (out:List ByteArray),ii=.int .i64 ((i:Nat):Int)/\i<=ss.length/\WU w wr (.slice a ss.length cap) ov out/\Hid (bd out=(nW (bd ss) pl ww).take i)) (λ_ _ _ _ ii _=>ss.length-(intOf ii).toNat)
 case atStart=>exact⟨0,_,[],rfl,aJ _,hM0,aQ rfl⟩
 case round=>
  clear hM0 c0 hxb;obtain⟨i,ov,out,rfl,hi,hM,xN⟩:=hrel;by_cases hlt:i<ss.length
  .have hil:((i:Nat):Int)<((ss.length:Nat):Int):=by omega
   obtain⟨b,off,rfl,hcl⟩:=(h.ext hM.ext).at hlt;have ci:=hcl i hlt;have hsi:=hsz _ (ai hlt);have fJ:=aQ hlt;obtain⟨si,rU⟩:∃si:ByteArray,ss[i]'(fJ.out)=si:=⟨_,rfl⟩;rw[rU]at ci hsi;have EU:=aQ rU;have HM:=aQ hM;have Xf:=aQ hsi;have hss:si.size<=8:=(by omega);have hcv:=Lib.run_convert_string_bytes (P:=prog) wr 9 38 5 si underlying9 underlying38 underlying5;have hX0:=Ga (Below.refl _ _:Ext wr wr) si;have hB0:Ck (Lib.bytesWorld wr 5 si) wr.heap.size (GU (λc=>jk pl i c) 0 (ll si)):=(by rw[TW];exact Ck.new wr si);have hi8:=HI8.out;clear hM hlt rU hcl hsi;go_upto_region 7 with fail
   clear hcv;obtain⟨wq,hwq⟩:∃wq,wq=wr:=⟨_,rfl⟩;rw[<-hwq]at HM hX0 hB0 ⊢;clear hwq ci;go_loopw [9,23] (λ_ kk wr=>∃(k:Nat),kk=.int .i64 ((k:Nat):Int)/\k<=si.size/\Ck wr wq.heap.size (GU (λc=>jk pl i c) k (ll si))/\Ext wq wr) (λ_ kk _=>si.size-(intOf kk).toNat)
   case atStart=>exact⟨0,by go_num,aJ _,hB0,hX0⟩
   case round=>
    clear hB0 hX0;obtain⟨k,rfl,hk,hB,hX⟩:=hrel;by_cases hkl:k<si.size
    .have hkl':((k:Nat):Int)<((si.size:Nat):Int):=by omega
     have jl:=aQ hkl;have hkw:k<ww:=(by have:=Xf.out;omega);have hih:i<hh:=(by have:=HLEN.out;have:=fJ.out;omega);have oQ:=HM.out.ext' hX;obtain⟨gt,ct,g2,c2,et,eg,htop,hbit,-⟩:=(HG.out.1.ext oQ.ext).at2 HG.out.2 hih hkw;simp only[Value.slice.injEq,true_and,bN,Addr.mk.injEq,and_true]at et;obtain⟨rfl,rfl⟩:=et;have aj0:((i:Nat):Int)<((hh:Nat):Int):=(by omega);have ajS:((k:Nat):Int)<((ww:Nat):Int):=(by omega);have fz:=hB.frozen (k:=k) (by rw[qV,jA];exact hkl);have cz:=hB.cell (k:=k) (by rw[qV,jA];exact hkl);have hB1:=hB.set (k:=k) (by rw[qV,jA];exact hkl) 35 35 rfl;have hX1:=hX.setCell (p:=⟨wq.heap.size,k,none⟩) (ay _) (.int .u8 35);generalize ((GU (λc=>jk pl i c) k (ll si))[k]'(by rw[qV,jA];exact hkl))=u0 at cz;have yh:=aQ (And.intro hB hX);have HB1:=aQ (And.intro hB1 hX1);clear oQ hB hX hB1 hX1 eg hkl;cases hp:jk pl i k with
     |false=>
      rw[hp]at hbit;go_wp2
      go_roundw
      case rel=>exact⟨k+1,by go_num,jl.out,by rw[<-Yt (p:=λc=>jk pl i c) hp];exact HB1.out.1,HB1.out.2⟩
      case measure=>have:=jl.out;simp[intOf];omega
     |true=>
      rw[hp]at hbit;go_wp2
      go_roundw
      case rel=>exact⟨k+1,by go_num,jl.out,by rw[abB (p:=λc=>jk pl i c) hp];exact yh.out.1,yh.out.2⟩
      case measure=>have:=jl.out;simp[intOf];omega
    .have hkl':¬(((k:Nat):Int)<((si.size:Nat):Int)):=by omega
     have hke:k=si.size:=(by omega);subst hke;have hbk:=hB.back (n:=si.size) (cap:=grownCap wq si.size 0 5) (by rw[qV,jA]);have oQ:=HM.out.ext' hX;obtain⟨ao,co,rfl,-,-⟩:=bH oQ.own;have ho:=oQ.own;have hr2:=cell_of_row _ _ 0 _ _ _ oQ.b2;have hzx:=oQ.ext.size;have akl:=bu oQ.b2;have hol:out.length<=8:=(by have:=xN.out;have e:=congrArg List.length this;rw[iy,dI]at e;have:=HI8.out;omega);simp only[gE]at hr2;have X3:=aQ oQ;have HX:=aQ hX;clear hB oQ hX;go_wp2_with (at_builtin;refine dC rfl (.tmp 39) (.tmp 42) 22 rfl w.heap.size 9 i0 (.string ⟨#[]⟩) 1 16 underlying22 hi0 hz0 hz1 hz2 rfl (by decide) (.slice ao out.length co) out.length (out.map Value.string) rfl (ho.alloc _) _ 1 _ [.string ⟨(GU (λc=>jk pl i c) si.size (ll si)).toArray⟩] rfl rfl (.inr ⟨_,rfl,dJ (dh _ _ _)⟩) (by intro u hu;simp at hu;subst hu;rfl) (by unfold maxLen;omega) (by omega) (by rw[eQ];omega) ?_;intro v5 w5 iT hg5 hl5;obtain⟨a5,c5,rfl,-⟩:=bH iT;have hb5:=TJ X3.out hg5;have g5:=cell_of_row _ _ 0 _ _ _ hb5;have f5:=frozen_of_row _ _ 0 _ _ hb5)
     go_roundw
     case rel=>
      have hrow:(nW (bd ss) pl ww)[i]?=some (GU (λc=>jk pl i c) si.size (ll si)):=by
       rw[Ao (by rw[iy];exact fJ.out),Xf.out];simp[bd,EU.out]
      exact⟨i+1,.slice a5 (out.length+1) c5,out++[⟨(GU (λc=>jk pl i c) si.size (ll si)).toArray⟩],by go_num,fJ.out,HM.out.put HX.out iT hg5 hl5,aQ (JE xN.out hrow)⟩
     case measure=>have:=fJ.out;simp[intOf];omega
  .have h1:¬(((i:Nat):Int)<((ss.length:Nat):Int)):=by omega
   have hie:i=ss.length:=(by omega);obtain⟨ao,co,rfl,-,-⟩:=bH hM.own;have hr1:=cell_of_row wr (w.heap.size+1) 0 _ _ _ hM.b1;have fr1:=frozen_of_row wr (w.heap.size+1) 0 _ _ hM.b1;have hr2:=cell_of_row wr (w.heap.size+2) 0 _ _ _ hM.b2;simp only[gE]at hr1 hr2;have HH:=aQ (heap_setCell_same wr (w.heap.size+1) 0 _ _ (.slice ao out.length co) hM.b1);have PQ:Hid (bd out=nW (bd ss) pl ww):=aQ (by rw[xN.out,hie];exact bU (by simp[nW,bd]));have HO:Hid ((wr.setCell ⟨w.heap.size+1,0,none⟩ (.slice ao out.length co)).ownsRow w.heap.size 9 1 (.slice ao out.length co) out.length (out.map Value.string)):=aQ (bI hM.own (dV (p:=⟨w.heap.size+1,0,none⟩)) (λb hb e=>by have:=hM.sep b hb;have e':b=w.heap.size+1:=e;omega));have HE:=aQ (hM.ext.setCell (p:=⟨w.heap.size+1,0,none⟩) (by show w.heap.size<=w.heap.size+1;omega) (.slice ao out.length co));clear hM hie;go_wp2
   (try simp only[Exit.inBlock,Exit.then]);refine bodyPost_ret (results_cell_row rfl _ _ (w.heap.size+1) 31 #[.slice ao out.length co] (0,0) _ rfl HH.out underlying31 rfl (by kernel_rfl)) rfl ?_;exact⟨_,out,rfl,HO.out,PQ.out,HE.out⟩
end
section
open Go.RowKit
open bO (fw GB fr Cs Grown none_ Bd IA)
variable {hh ww:Nat}
theorem jL.len{S:Cs}{D:Nat->Nat->Prop}{ks:List Nat}{ys:List fw}(h:jL S hh ww D ks ys)(hS:Bd S):ys.length<=64:=by
 obtain⟨h1,h2,h3,_⟩:=h;rw[<-h3];refine jI (n:=64) (List.Pairwise.imp (λh=>iJ h) h1) λx hx=>?_
 have:=hS _ _ ((h2 x).1 hx).1.1;omega
theorem TM{b y:fw}{pl:Cl}{i k:Nat}(g:GB b hh ww)(hs:∀x y,lK pl x y=true->fr b x y=true)(hik:lK pl i k=true)(ht:NQ (nW b pl ww) y):BV hh ww (lK pl) y:=by
 have e:=TU g hs;rcases ht with⟨t,bo,f,o,hb,rfl⟩|⟨hn,_⟩
 .exact⟨_,t,bo,f,o,zh g,e,by rw[<-e];exact hb,rfl⟩
 .have:=hn i k;rw[e,hik]at this;cases this
structure Ei(w w1 wr:World)(kI:Nat)(bx sv:Value)(sl:Nat->Value)(hh ww:Nat)(cl:Cl)(ov:Value)(xs:List Value)(bs:List fw):Prop where
 b0:wr.heap[w.heap.size]?=some (.cells #[bx] 31 (0,0))
 grid:Gr wr (w.heap.size+2) sv sl cl
 sz:Sz cl hh ww
 own:wr.ownsRow (w.heap.size+1) 31 1 ov bs.length xs
 sep:∀b,ov.ownBlock=some b->b=w.heap.size+1\/w1.heap.size<=b
 it:∃S:Nat->Prop,Items uM S 1 xs bs wr/\∀b,S b->w1.heap.size<=b/\ov.ownBlock≠some b/\b≠kI
 nk:ov.ownBlock≠some kI
 lt:∀b,GrA sv sl hh b->b<w1.heap.size
 z1:w1.heap.size<=wr.heap.size
 zw:w.heap.size+2<=w1.heap.size
 ext:Ext w wr
section
variable {w w1 wr w2:World} {kI:Nat} {bx sv ov:Value} {sl:Nat->Value} {hh ww:Nat} {cl cl':Cl} {xs:List Value} {bs:List fw}
theorem Ei.ext'(m:Ei w w1 wr kI bx sv sl hh ww cl ov xs bs)(hx:Ext wr w2):Ei w w1 w2 kI bx sv sl hh ww cl ov xs bs:=by
 obtain⟨S,h1,h2⟩:=m.it;exact⟨(hx.block _ (bu m.b0)).trans m.b0,m.grid.ext hx,m.sz,bY m.own hx,m.sep,⟨S,h1.ext hx,h2⟩,m.nk,m.lt,dn m.z1 hx.size,m.zw,ax m.ext hx⟩
theorem Ei.grB(m:Ei w w1 wr kI bx sv sl hh ww cl ov xs bs){b:Nat}(hb:GrA sv sl hh b):w.heap.size+2<=b/\b<w1.heap.size:=⟨(m.grid.lt (b:=b) (by rw[m.sz.hgt];exact hb)).1,m.lt b hb⟩
theorem Ei.step(m:Ei w w1 wr kI bx sv sl hh ww cl ov xs bs)(hk:w1.heap.size<=kI)(s:ByteArray)(p:Nat):Ei w w1 (wr.iterAt kI s p) kI bx sv sl hh ww cl ov xs bs:=by
 have h:dX (λb=>b=kI) wr (wr.iterAt kI s p):=⟨rfl,rfl,rfl,by rw[Lib.iterAt_size];exact ay _,λk _ hn=>Lib.iterAt_other wr kI k s p hn⟩;obtain⟨S,h1,h2⟩:=m.it;have hz:=m.zw;exact⟨(h.block _ (bu m.b0) (by omega)).trans m.b0,m.grid.keep h (λb hb e=>by have:=m.lt b (by rw[<-m.sz.hgt];exact hb);omega),m.sz,bI m.own h (λb hb e=>m.nk (by rw[<-e];exact hb)),m.sep,⟨S,h1.keep h (λb hb e=>(h2 b hb).2.2 e),h2⟩,m.nk,m.lt,by rw[Lib.iterAt_size];exact m.z1,m.zw,Lib.below_iterAt m.ext (by omega) s p⟩
theorem Ei.start(m:Ei w w1 wr kI bx sv sl hh ww cl ov xs bs)(s:ByteArray):Ei w w1 (wr.iter s 0) wr.heap.size bx sv sl hh ww cl ov xs bs:=by
 have hx:Ext wr (wr.iter s 0):=bS (Below.refl _ _) _;have k:=m.ext' hx;obtain⟨S0,h3,h4⟩:=m.it;exact⟨k.b0,k.grid,k.sz,k.own,k.sep,⟨S0,h3.ext hx,λb hb=>⟨(h4 b hb).1,(h4 b hb).2.1,λe=>by have:=h3.2.1 b hb;omega⟩⟩,λe=>by have:=(m.own.lt _ e).2;omega,k.lt,k.z1,k.zw,k.ext⟩
theorem Ei.stop(m:Ei w w1 wr kI bx sv sl hh ww cl ov xs bs):Ei w w1 wr w.heap.size bx sv sl hh ww cl ov xs bs:=by
 obtain⟨S,h1,h2⟩:=m.it;have hz:=m.zw;exact⟨m.b0,m.grid,m.sz,m.own,m.sep,⟨S,h1,λb hb=>⟨(h2 b hb).1,(h2 b hb).2.1,λe=>by have:=(h2 b hb).1;omega⟩⟩,λe=>by have:=(m.own.lt _ e).1;omega,m.lt,m.z1,m.zw,m.ext⟩
theorem Ei.mark(m:Ei w w1 wr kI bx sv sl hh ww cl ov xs bs)(hk:dX (Lg sl hh) wr w2)(hg:Gr w2 (w.heap.size+2) sv sl cl')(hs:Sz cl' hh ww):Ei w w1 w2 kI bx sv sl hh ww cl' ov xs bs:=by
 obtain⟨S,h1,h2⟩:=m.it;have hb:∀b,Lg sl hh b->w.heap.size+2<=b/\b<w1.heap.size:=λb hb=>m.grB (.inr hb)
 refine⟨(hk.block _ (bu m.b0) (λe=>by have:=hb _ e;omega)).trans m.b0,hg,hs,bI m.own hk (λb hq e=>?_),m.sep,⟨S,h1.keep hk (λb hq e=>by have:=hb _ e;have:=(h2 b hq).1;omega),h2⟩,m.nk,m.lt,dn m.z1 hk.size,m.zw,jw m.ext hk λb e=>by have:=hb _ e;omega⟩;have:=hb _ e;rcases m.sep b hq with q|q <;> omega
theorem Ei.push{w4 w5:World}{v' v5:Value}{ss':List ByteArray}{y:fw}{X:Obj}{B:Nat}(m:Ei w w1 wr kI bx sv sl hh ww cl ov xs bs)(hk:kI<wr.heap.size)(hx:Ext wr w4)(hB:wr.heap.size<=B)
 (hr:w4.ownsRow B 9 1 v' ss'.length (ss'.map Value.string)) (hy:bd ss'=y) (h8:ss'.length<=8)
 (ho:w5.ownsRow (w.heap.size+1) 31 1 v5 (bs.length+1) (xs++[v'])) (hg:(w4.alloc X).grownBy w5 ov.ownBlock) (hl:kR (w4.alloc X) ov v5):Ei w w1 w5 kI bx sv sl hh ww cl v5 (xs++[v']) (bs++[y]):=by
 have hz:(w4.alloc X).heap.size=w4.heap.size+1:=eQ _ _;have z4:=hx.size;have zg:=hg.size;have z0:=m.z1;have zw:=m.zw;obtain⟨S,h1,h2⟩:=m.it;obtain⟨a,c,rfl,-,-⟩:=bH hr;have hkp:dX (λb=>ov.ownBlock=some b) wr w5:=⟨hg.os.trans hx.os,hg.tape.trans hx.tape,hg.output.trans hx.output,by omega,λb hb hn=>by
  rw[hg.block b (by omega) (λe=>hn e.symm),Below.heap_alloc _ _ _ (by omega),hx.block b hb]⟩
 have hn:nN (λb=>wr.heap.size<=b/\b<w4.heap.size) (λW=>uM W [.slice a (List.length ss') c] y) w4:=⟨λb hb=>hb.2,λW hW=>⟨a,c,ss',rfl,by
  have:Strs w4 (.slice a ss'.length c) ss':=Strs.eD hr (by omega);exact lN.keep this λb _ hb=>hW b ⟨by have:=(hr.lt b hb).1;omega,(hr.lt b hb).2⟩,hy⟩⟩
 have hk4:dX (λb=>ov.ownBlock=some b) w4 w5:=⟨hg.os,hg.tape,hg.output,by omega,λb hb hn=>by rw[hg.block b (by omega) (λe=>hn e.symm),Below.heap_alloc _ _ _ hb]⟩;have hn5:=hn.keep hk4 (λb hb e=>by have:=(m.own.lt b e).2;omega);have hT:∀b,S b\/(wr.heap.size<=b/\b<w4.heap.size)->b<w5.heap.size:=λb hb=>hb.elim (λk=>by have:=h1.2.1 b k;omega) (λk=>by omega)
 have hov:∀b,b<w4.heap.size->v5.ownBlock=some b->ov.ownBlock=some b:=λb hb e=>by
  rcases hl with k|⟨q,k,k2⟩
  .rw[<-k];exact e
  .rw[k]at e;injection e with e;omega
 refine⟨(hkp.block _ (bu m.b0) (λe=>by have:=(m.own.lt _ e).1;omega)).trans m.b0,m.grid.keep hkp (λb hb e=>?_),m.sz,by rw[aK];exact ho,λb hb=>?_,⟨λb=>S b\/(wr.heap.size<=b/\b<w4.heap.size),?_,λb hb=>?_⟩,λe=>m.nk (hov _ (by omega) e),m.lt,by omega,m.zw,jw m.ext hkp λb e=>by have:=(m.own.lt b e).1;omega⟩
 .have h3:=m.grB (b:=b) (by rw[<-m.sz.hgt];exact hb)
  rcases m.sep b e with q|q <;> omega
 .by_cases c:b<w4.heap.size
  .exact m.sep b (hov b c hb)
  .exact .inr (by omega)
 .exact((h1.keep hkp (λb hb e=>(h2 b hb).2.1 e)).mono (λb hb=>.inl hb) hT).snoc rfl (hn5.mono (λb hb=>.inr hb) hT (λ_ h=>h))
 .rcases hb with hb|hb
  .exact⟨(h2 b hb).1,λe=>(h2 b hb).2.1 (hov b (by have:=h1.2.1 b hb;omega) e),(h2 b hb).2.2⟩
  .exact⟨by omega,λe=>by have:=(m.own.lt b (hov b hb.2 e)).2;omega,by omega⟩
end
end
end Go.Proofs.YteknjeohbcgpdaaGreatDoor