/-
  Memory of the reference's l5Sum. (4 texts.)
-/
import Derived.Test.YteknjeohbcgpdaaGreatDoorK12
import Derived.Test.YteknjeohbcgpdaaGreatDoorK16
set_option maxRecDepth 100000
namespace Go.Proofs.YteknjeohbcgpdaaGreatDoor
open Tryz
section
open Go.RowKit
open bO (fw GB fD Cs Grown ad qD sub mo cnt rm Bd IA)
variable {pl cl:Cl} {hh ww r c:Nat}
theorem Ph(s:Sz pl hh ww)(hr:r<hh)(hc:c<ww):lK (pG pl r c true)=ad (lK pl) r c:=by
 funext x y;unfold lK ad;rw[Pj s hr hc];by_cases e:x=r/\y=c
 .rw[if_pos e,e.1,e.2];simp
 .rw[if_neg e]
  have:(x == r && y == c)=false:=by
   rw[l8];intro h;simp at h;exact e h
  rw[this,Bool.or_false]
theorem VL(s:Sz cl hh ww)(h1:hh<=8)(w1:ww<=8):Bd (lK cl):=λr c h=>by have:=uj s h;omega
theorem Jg{S P P':Cs}(hS:Bd S)(h:S r c=true)(hP:P r c=false)(hm:∀x y,ad P r c x y=true->P' x y=true):cnt (sub S P')<cnt (sub S P):=by
 have h1:=bO.rM (S:=sub S P) (hS r c h) (mo.2 ⟨h,hP⟩);have h2:cnt (sub S P')<=cnt (rm (sub S P) r c):=bO.cnt_mono λx y k=>by
  obtain⟨a,b⟩:=mo.1 k;have hn:ad P r c x y=false:=by
   cases e:ad P r c x y with
   |false=>rfl
   |true=>rw[hm x y e]at b;cases b
  refine bO.kW.2 ⟨mo.2 ⟨a,?_⟩,λe=>?_⟩
  .cases e:P x y with
   |false=>rfl
   |true=>rw[qD.2 (.inl e)]at hn;cases hn
  .rw[qD.2 (.inr e)]at hn;cases hn
 omega
structure oU(w:World)(B C:Nat)(v:Value)(sl:Nat->Value)(cl:Cl)(pv:Value)(ps:Nat->Value)(pl:Cl)(hh ww:Nat):Prop where
 cells:Gr w B v sl cl
 part:Gr w C pv ps pl
 cs:Sz cl hh ww
 ss:Sz pl hh ww
 ap:∀b,Lg ps hh b->¬GrA v sl hh b
def Le(w:World)(B C:Nat)(v:Value)(sl:Nat->Value)(cl:Cl)(pv:Value)(ps:Nat->Value)(pl:Cl)(hh ww:Nat)(i k:Int)(e:Ending)(w':World):Prop:=
 ∃Ak,e=.returned (.tuple #[])/\oU w' B C v sl cl pv ps Ak hh ww/\dX (Lg ps hh) w w'/\Grown (lK cl) (lK pl) (lK Ak)/\(EK cl hh ww i k=true->jk Ak i.toNat k.toNat=true)/\∀x y,lK Ak x y=true->lK pl x y=true\/kZ (lK cl) i.toNat k.toNat x y
theorem oU.rd{w w':World}{B C:Nat}{v:Value}{sl:Nat->Value}{pv:Value}{ps:Nat->Value}(h:oU w B C v sl cl pv ps pl hh ww)(hx:Ext w w'):oU w' B C v sl cl pv ps pl hh ww:=
 ⟨h.cells.ext hx,h.part.ext hx,h.cs,h.ss,h.ap⟩
theorem oU.set{w:World}{B C:Nat}{v:Value}{sl:Nat->Value}{cl:Cl}{pv:Value}{ps:Nat->Value}{pl:Cl}{hh ww:Nat}(h:oU w B C v sl cl pv ps pl hh ww){i k g c:Nat}(hi:i<hh)(hk:k<ww)
 (e:ps i=.slice (some ⟨g,0,none⟩) ww c):oU (w.setCell ⟨g,k,none⟩ (.bool true)) B C v sl cl pv ps (pG pl i k true) hh ww/\dX (Lg ps hh) w (w.setCell ⟨g,k,none⟩ (.bool true)):=by
 have hl:=h.ss.hgt;have hi':i<pl.length:=by omega
 have hw:=h.ss.at hi';have hB:Lg ps hh g:=⟨i,hi,by rw[e];rfl⟩;have hks:=dV (w:=w) (p:=⟨g,k,none⟩) (v:=.bool true);have hkk:dX (Lg ps hh) w (w.setCell ⟨g,k,none⟩ (.bool true)):=⟨hks.os,hks.tape,hks.output,hks.size,λb hb hn=>hks.block b hb λq=>hn (by rw[show b=g from q];exact hB)⟩;refine⟨⟨h.cells.keep hkk λb hb hn=>h.ap b hn (by rw[h.cs.hgt]at hb;exact hb),h.part.set hi' (by rw[hw];exact hk) (by rw[e,hw]) true,h.cs,h.ss.set i k true,h.ap⟩,hkk⟩
def Oa(n:Nat):Prop:=∀(w:World) (B C:Nat) (v:Value) (sl:Nat->Value) (cl:Cl) (pv:Value) (ps:Nat->Value) (pl:Cl) (hh ww:Nat) (i k:Int),oU w B C v sl cl pv ps pl hh ww->1<=hh/\hh<=8->1<=ww/\ww<=8->-1<=i/\i<=8->-1<=k/\k<=8->
 cnt (sub (lK cl) (lK pl))<n->Calls prog 125 #[v,pv,.int .i64 i,.int .i64 k] w (Le w B C v sl cl pv ps pl hh ww i k)
set_option maxHeartbeats 4000000 in
theorem grow_step{n:Nat}(ih:Oa n):Oa (n+1):=by
 intro w B C v sl cl pv ps pl hh ww i k hP h1 w1 hi8 hk8 hn;obtain⟨av,cv,rfl,-,-⟩:=hP.cells.len;have HIS:=λW (hW:RD w W)=>Av _ sl cl hh ww B i k W (hP.cells.ext (eU hW)) hP.cs h1 w1
 have hxI:=HIS w (xQ w);have hcl:=hP.cs.hgt;have hpl:=hP.ss.hgt;rw[hcl]at hxI hP;rw[hcl];cases hc:EK cl hh ww i k with
 |false=>
  rw[hc]at hxI;have HP:=aQ hP;have HC:=aQ hc;clear hP hc HIS;go_enter Tryz.func125,Tryz.ntmps125
  go_wp2_with (go_at_call 172;refine hxI.mono ?_;rintro e w2 ⟨rfl,m,rfl⟩)
  ((try simp only[Exit.inBlock,Exit.then]);refine bodyPost_ret (results_none rfl _ _ _) rfl ?_);exact⟨pl,rfl,HP.out.rd (fA (Below.refl _ _) m),fq (fA (Below.refl _ _) m),Grown.refl _ _,(λh=>by rw[HC.out]at h;cases h),λ_ _ h=>.inl h⟩
 |true=>
  rw[hc]at hxI;have hin:=hc;unfold EK at hin;simp only[dK,decide_eq_true_eq]at hin;obtain⟨⟨hi,hk⟩,hcell⟩:=hin;obtain⟨iN,rfl⟩:∃iN:Nat,i=(iN:Int):=⟨i.toNat,by omega⟩;obtain⟨kN,rfl⟩:∃kN:Nat,k=(kN:Int):=⟨k.toNat,by omega⟩;simp only[dP]at hcell;have RS:iN<hh:=by omega
  have hkN:kN<ww:=by omega
  have sJ:iN<pl.length:=by omega
  have hw:=hP.ss.at sJ;obtain⟨gt,ct,rfl,htop⟩:=hP.part.top sJ;obtain⟨g,c,eg,hb,hf⟩:=hP.part.cell sJ (show kN<pl[iN].length by omega);rw[eg,hw]at htop;rw[hw]at eg;have hga:jk pl iN kN=pl[iN][kN]:=Ht sJ (by omega);rw[<-hga]at hb;have hil:((iN:Nat):Int)<((hh:Nat):Int):=by omega
  have hkl:((kN:Nat):Int)<((ww:Nat):Int):=by omega
  rw[hpl]at hP ⊢;cases hpb:jk pl iN kN with
  |true=>
   rw[hpb]at hb;have HP:=aQ hP;have HPB:=aQ hpb;clear hP hc HIS eg hga hpb sJ hw hi hk;go_enter Tryz.func125,Tryz.ntmps125
   go_wp2_with (go_at_call 172;refine hxI.mono ?_;rintro e w2 ⟨rfl,m,rfl⟩)
   ((try simp only[Exit.inBlock,Exit.then]);refine bodyPost_ret (results_none rfl _ _ _) rfl ?_);exact⟨pl,rfl,HP.out.rd (fA (Below.refl _ _) m),fq (fA (Below.refl _ _) m),Grown.refl _ _,(λ_=>HPB.out),λ_ _ h=>.inl h⟩
  |false=>
   rw[hpb]at hb;have hS:=VL hP.cs h1.2 w1.2;have HW1:=λW (hW:Ext w W)=>(hP.rd hW).set RS hkN eg
   have hgs:=Ph hP.ss RS hkN;have hless:∀Ak,Grown (lK cl) (lK (pG pl iN kN true)) (lK Ak)->cnt (sub (lK cl) (lK Ak))<n:=λAk hg=>by
    have:=Jg (P:=lK pl) hS (r:=iN) (c:=kN) hcell hpb (P':=lK Ak) λx y h=>hg.more _ _ (by rw[hgs];exact h)
    omega
   have Z4:=aQ hless;have HPB:=aQ hpb;have HGS:=aQ hgs;have HCE:=aQ hcell;clear hP hc HIS eg hga hpb sJ hw hi hk hS hgs hcell hless;go_enter Tryz.func125,Tryz.ntmps125
   go_upto_region 2 with(go_at_call 172;refine hxI.mono ?_;rintro e w2 ⟨rfl,m,rfl⟩)
   obtain⟨hP2,hK2⟩:=HW1 (w.drewN m) (fA (Below.refl _ _) m);have hK2':dX (Lg ps hh) w ((w.drewN m).setCell ⟨g,kN,none⟩ (.bool true)):=⟨hK2.os,hK2.tape,hK2.output,hK2.size,hK2.block⟩;have HK2:=aQ hK2';clear HW1 hK2 hK2' hxI hb hf htop;generalize (w.drewN m).setCell ⟨g,kN,none⟩ (.bool true)=W2 at *;have aa9:=ih W2 B C _ sl cl _ ps _ hh ww ((iN:Int)-1) kN hP2 h1 w1 (by omega) (by omega) (Z4.out _ (Grown.refl _ _));clear hP2;go_upto_region 3 with(go_at_call 125;refine aa9.mono ?_;rintro e w3 ⟨pl3,rfl,hP3,hK3,hG3,R3,hD3⟩)
   clear aa9;have HG3:=aQ hG3;have HN3:=aQ (And.intro R3 hD3);have HK3:=aQ (HK2.out.trans hK3 λ_ _ h=>h);have call2:=ih w3 B C _ sl cl _ ps pl3 hh ww ((iN:Int)+1) kN hP3 h1 w1 (by omega) (by omega) (Z4.out _ hG3);clear hP3 hG3 R3 hK3 hD3;go_upto_region 4 with(go_at_call 125;refine call2.mono ?_;rintro e w4 ⟨pl4,rfl,RZ,hK4,hG4,Pd,hD4⟩)
   clear call2;have ac0:=HG3.out.trans hG4;have X7:=aQ hG4;have HN4:=aQ (And.intro Pd hD4);have HK4:=aQ (HK3.out.trans hK4 λ_ _ h=>h);have call3:=ih w4 B C _ sl cl _ ps pl4 hh ww (iN:Int) ((kN:Int)-1) RZ h1 w1 (by omega) (by omega) (Z4.out _ ac0);clear RZ hG4 Pd hK4 hD4;have Z8:=aQ ac0;clear ac0;go_upto_region 5 with(go_at_call 125;refine call3.mono ?_;rintro e w5 ⟨pl5,rfl,Hm,XV,AL,hN5,hD5⟩)
   clear call3;have acZ:=Z8.out.trans AL;have X6:=aQ AL;have HN5:=aQ (And.intro hN5 hD5);have HK5:=aQ (HK4.out.trans XV λ_ _ h=>h);have call4:=ih w5 B C _ sl cl _ ps pl5 hh ww (iN:Int) ((kN:Int)+1) Hm h1 w1 (by omega) (by omega) (Z4.out _ acZ);clear Hm AL hN5 XV hD5;have Z7:=aQ acZ;clear acZ;go_wp2_with (go_at_call 125;refine call4.mono ?_;rintro e w6 ⟨pl6,rfl,hP6,hK6,VC,hN6,hD6⟩)
   go_end0
   have Np:=Z7.out.trans VC;rw[HGS.out]at Np;refine⟨pl6,rfl,hP6,HK5.out.trans hK6 λ_ _ h=>h,bO.ni HCE.out Np λx y hn hs=>?_,λ_=>?_,λx y hx=>?_⟩
   .have hb:=uj hP6.cs hs
    have key:∀(a b:Int) (Ak:Cl),(EK cl hh ww a b=true->jk Ak a.toNat b.toNat=true)->a=(x:Int)->b=(y:Int)->jk Ak x y=true:=λa b Ak hq ha hb'=>by
     subst ha hb';have:=hq (by unfold EK;simp only[dK,decide_eq_true_eq,dP];exact⟨⟨by omega,by omega⟩,hs⟩)
     simpa using this
    rcases bO.oO.1 hn with⟨e,f⟩|⟨e,f⟩|⟨e,f⟩|⟨e,f⟩
    .exact VC.more _ _ (X6.out.more _ _ (X7.out.more _ _ (key _ _ _ HN3.out.1 (by omega) (by omega))))
    .exact VC.more _ _ (X6.out.more _ _ (key _ _ _ HN4.out.1 (by omega) (by omega)))
    .exact VC.more _ _ (key _ _ _ HN5.out.1 (by omega) (by omega))
    .exact key _ _ _ hN6 (by omega) (by omega)
   .simp only[dP]
    exact Np.more _ _ (qD.2 (.inr ⟨rfl,rfl⟩))
   .have near:∀{a b:Int},(a.toNat=iN/\b.toNat=kN)\/IA iN kN a.toNat b.toNat->kZ (lK cl) a.toNat b.toNat x y->kZ (lK cl) iN kN x y:=λh k=>Gh HCE.out h k
    simp only[dP];rcases hD6 x y hx with h|h
    .rcases HN5.out.2 x y h with h|h
     .rcases HN4.out.2 x y h with h|h
      .rcases HN3.out.2 x y h with h|h
       .rw[HGS.out]at h
        rcases qD.1 h with h|⟨rfl,rfl⟩
        .exact .inl h
        .exact .inr (.here HCE.out)
       .exact .inr (near (by rw[bO.oO];omega) h)
      .exact .inr (near (by rw[bO.oO];omega) h)
     .exact .inr (near (by rw[bO.oO];omega) h)
    .exact .inr (near (by rw[bO.oO];omega) h)
theorem JY(w:World)(B C:Nat)(v:Value)(sl:Nat->Value)(cl:Cl)(pv:Value)(ps:Nat->Value)(pl:Cl)(hh ww:Nat)(i k:Int)(hP:oU w B C v sl cl pv ps pl hh ww)(h1:1<=hh/\hh<=8)(w1:1<=ww/\ww<=8)(hi:-1<=i/\i<=8)(hk:-1<=k/\k<=8):
 Calls prog 125 #[v,pv,.int .i64 i,.int .i64 k] w (Le w B C v sl cl pv ps pl hh ww i k):=by
 have:∀n,Oa n:=λn=>by
  induction n with
  |zero=>intro w B C v sl cl pv ps pl hh ww i k _ _ _ _ _ h;omega
  |succ n ih=>exact grow_step ih
 exact this _ w B C v sl cl pv ps pl hh ww i k hP h1 w1 hi hk (lu _)
end
section
open Go.RowKit
open bO (fw GB fD Cs)
variable {cl:Cl} {k:Nat}
theorem jw{a b c:World}{G:Nat->Prop}(h:Ext a b)(k:dX G b c)(hG:∀x,G x->a.heap.size<=x):Ext a c:=
 ⟨k.os.trans h.os,k.tape.trans h.tape,k.output.trans h.output,dn h.size k.size,λx hx=>(k.block x (bz hx h.size) (λg=>Nat.not_le.2 hx (hG x g))).trans (h.block x hx)⟩
theorem Ih{wr w5:World}{p B:Nat}{ov v5:Value}{X:Obj}{T e:TypeId}{n:Nat}{ys:List Value}(hb:wr.heap[p]?=some (.cells #[ov] T (0,0)))(hov:∀b,ov.ownBlock=some b->p<b)(hB:p<B)
 (ho:w5.ownsRow B e 1 v5 n ys) (hg:(wr.alloc X).grownBy w5 ov.ownBlock):
 (w5.setCell ⟨p,0,none⟩ v5).heap[p]?=some (.cells #[v5] T (0,0))/\(w5.setCell ⟨p,0,none⟩ v5).ownsRow B e 1 v5 n ys/\w5.cell? ⟨p,0,none⟩=some ov/\w5.frozen? ⟨p,0,none⟩=false/\dX (λb=>b=p\/ov.ownBlock=some b) wr (w5.setCell ⟨p,0,none⟩ v5):=by
 have hp:=bu hb;have hz:(wr.alloc X).heap.size=wr.heap.size+1:=eQ _ _;have UA:=hg.size;have h5:w5.heap[p]?=some (.cells #[ov] T (0,0)):=by
  rw[hg.block p (by omega) (λe=>by have:=hov p e.symm;omega),Below.heap_alloc _ _ _ hp];exact hb
 have hks:=dV (w:=w5) (p:=⟨p,0,none⟩) (v:=v5);refine⟨heap_setCell_same _ _ _ _ _ _ h5,bI ho hks (λb hb q=>?_),cell_of_row w5 p 0 _ _ _ h5,frozen_of_row w5 p 0 _ _ h5,?_⟩
 .have:=(ho.lt b hb).1;have q':b=p:=q;omega
 .exact⟨hks.os.trans hg.os,hks.tape.trans hg.tape,hks.output.trans hg.output,by have:=hks.size;omega,λb hb hn=>by
   rw[hks.block b (by omega) (λq=>hn (.inl q)),hg.block b (by omega) (λq=>hn (.inr q.symm)),Below.heap_alloc _ _ _ hb]⟩
def chB(x:Bool):UInt8:=if x then 46 else 35
def tJ(r:List Bool):List UInt8:=r.map chB
def jE(cl:Cl):fw:=cl.map tJ
theorem AZ{hh ww:Nat}(s:Sz cl hh ww)(h1:1<=hh/\hh<=8)(w1:1<=ww/\ww<=8):GB (jE cl) hh ww:=by
 refine⟨by simp[jE,s.hgt],h1,w1,λr hr=>?_⟩;obtain⟨q,hq,rfl⟩:=aH.1 hr;refine⟨by simp[tJ,s.row q hq],λc hc=>?_⟩;obtain⟨x,_,rfl⟩:=aH.1 hc;cases x
 .exact .inr rfl
 .exact .inl rfl
theorem sQ(cl:Cl):bO.fr (jE cl)=lK cl:=by
 funext r c;unfold lK jk bO.fr bO.at_ jE;rw[aj (l:=cl.map tJ),aj (l:=cl),dm];cases cl[r]? with
 |none=>simp
 |some s=>
  simp only[jP,bW,tJ];rw[aj,aj,dm];cases s[c]? with
  |none=>rfl
  |some x=>cases x <;> rfl
theorem Qh{r:List Bool}(h:k<r.length):tJ (r.take (k+1))=tJ (r.take k)++[chB r[k]]:=by
 unfold tJ;rw[bg h,bG];rfl
theorem KY(h:k<cl.length):jE (cl.take (k+1))=jE (cl.take k)++[tJ cl[k]]:=by
 unfold jE;rw[bg h,bG];rfl
theorem pY:(prog.info? 9).map (λi=>(i.zero,i.size,i.bytes))=some (some (.string ⟨#[]⟩),1,16):=by kernel_rfl
theorem JK{s:ByteArray}:∀u∈([Value.string s]:List Value),u.oneCell'=true:=by
 intro u hu;simp at hu;subst hu;rfl
def RI(b:fw)(w:World)(e:Ending)(w':World):Prop:=
 ∃v' ss',e=.returned (.agg #[v'])/\w'.ownsRow w.heap.size 9 1 v' ss'.length (ss'.map Value.string)/\bd ss'=b/\Ext w w'
set_option maxHeartbeats 4000000 in
theorem tV(v:Value)(sl:Nat->Value)(cl:Cl)(hh ww B:Nat)(w:World)(hG:Gr w B v sl cl)(s:Sz cl hh ww)(h1:1<=hh/\hh<=8)(w1:1<=ww/\ww<=8):
 Calls prog 127 #[v] w (RI (jE cl) w):=by
 obtain⟨i0,hi0,hz0,hz1,hz2⟩:=info_parts pY;have hl:=s.hgt;obtain⟨av,cv,rfl,-,-⟩:=hG.len;rw[hl]at hG ⊢;have hb1:((w.alloc (.cells #[.slice none 0 0] 31)).alloc (.cells #[.slice none 0 0] 31)).heap[w.heap.size]?=some (.cells #[.slice none 0 0] 31 (0,0)):=by
  rw[Below.heap_alloc _ _ _ (by simp)];exact heap_alloc_new _ _
 have hb2:((w.alloc (.cells #[.slice none 0 0] 31)).alloc (.cells #[.slice none 0 0] 31)).heap[w.heap.size+1]?=some (.cells #[.slice none 0 0] 31 (0,0)):=by
  have h:=heap_alloc_new (w.alloc (.cells #[.slice none 0 0] 31)) (.cells #[.slice none 0 0] 31);rw[eQ]at h;exact h
 have hx2:Ext w ((w.alloc (.cells #[.slice none 0 0] 31)).alloc (.cells #[.slice none 0 0] 31)):=by go_grown
 have HG:=aQ hG;have HS:=aQ s;clear hG s hl;go_enter Tryz.func127,Tryz.ntmps127
 go_wp2
 have hz2:((w.alloc (.cells #[.slice none 0 0] 31)).alloc (.cells #[.slice none 0 0] 31)).heap.size=w.heap.size+2:=by rw[eQ,eQ]
 generalize (w.alloc (.cells #[.slice none 0 0] 31)).alloc (.cells #[.slice none 0 0] 31)=W at *;go_loopw [4,5,6] (λii _ _ wr=>∃(i:Nat) (ov:Value) (ss:List ByteArray),ii=.int .i64 ((i:Nat):Int)/\i<=hh/\wr.heap[w.heap.size]?=some (.cells #[.slice none 0 0] 31 (0,0))/\wr.heap[w.heap.size+1]?=some (.cells #[ov] 31 (0,0))/\wr.ownsRow (w.heap.size+2) 9 1 ov ss.length (ss.map Value.string)/\Ext w wr/\Hid (bd ss=jE (cl.take i))) (λii _ _ _=>hh-(intOf ii).toNat)
 case atStart=>exact⟨0,_,[],rfl,aJ _,hb1,hb2,⟨by simp,.inl ⟨rfl,rfl⟩⟩,hx2,aQ (by simp[bd,jE])⟩
 case round=>
  clear hb1 hb2 hx2 hz2;obtain⟨i,ov,ss,rfl,hi,hb1,hb2,ho,hE,HB⟩:=hrel;have hlen:ss.length=i:=by
   have:=congrArg List.length HB.out;simp only[jE,bD,dI,iy]at this;have:=HS.out.hgt;omega
  have c0:=cell_of_row wr (w.heap.size+1) 0 _ _ _ hb2;simp only[gE]at c0;by_cases hlt:i<hh
  .have hil:((i:Nat):Int)<((hh:Nat):Int):=by omega
   have sJ:i<cl.length:=(by have:=HS.out.hgt;omega);have uh:=HG.out.ext hE;obtain⟨gt,ct,et,hct⟩:=uh.top sJ;rw[HS.out.hgt]at et;simp only[Value.slice.injEq,true_and]at et;obtain⟨rfl,rfl⟩:=et;obtain⟨ar,cr,er,-⟩:=uh.Yk sJ;have hw:=HS.out.at sJ;rw[er,hw]at hct;rw[hw]at er;have HER:=aQ er;have wH:=aQ (KY sJ);obtain⟨ri,eri⟩:∃ri:List Bool,cl[i]=ri:=⟨_,rfl⟩;rw[eri]at wH hw;have aac:=aQ eri;have X5:=aQ uh;have HLI:=aQ sJ;have HWI:=aQ hw;have HLEN:=aQ hlen;have HE:=aQ hE;clear er eri uh hw hlen hE;go_wp2
   obtain⟨wo,hwo⟩:∃wo,wo=wr:=⟨_,rfl⟩;rw[<-hwo];go_loopw [5,6] (λsv kk wr=>∃(k:Nat) (so:ByteArray),kk=.int .i64 ((k:Nat):Int)/\k<=ww/\sv=.string so/\wo=wr/\Hid (ll so=tJ (ri.take k))) (λ_ kk _=>ww-(intOf kk).toNat)
   case atStart=>exact⟨0,⟨#[]⟩,rfl,aJ _,rfl,rfl,aQ (by simp[ll,tJ])⟩
   case round=>
    obtain⟨k,so,rfl,hk,rfl,hwr,HQ⟩:=hrel;subst hwr;subst hwo;have hso:so.size<=8:=by
     have h2:(ll so).length=_:=congrArg List.length HQ.out;rw[jA,tJ,bD,dI]at h2;omega
    by_cases hkl:k<ww
    .have hkl':((k:Nat):Int)<((ww:Nat):Int):=by omega
     have hkr:k<ri.length:=(by have:=HWI.out;omega);have BH:k<(cl[i]'HLI.out).length:=(by rw[aac.out];exact hkr);obtain⟨g2,c2,e2,hb,-⟩:=X5.out.cell HLI.out BH;rw[HER.out]at e2;have hww:(cl[i]'HLI.out).length=ww:=(by rw[aac.out];exact HWI.out);rw[hww]at e2;simp only[Value.slice.injEq,true_and]at e2;obtain⟨rfl,rfl⟩:=e2;have hbv:(cl[i]'HLI.out)[k]=ri[k]:=(by congr 1);rw[hbv]at hb;have Xg:=aQ (Qh hkr);have hs1:(⟨#[46]⟩:ByteArray).size=1:=rfl;have hs2:(⟨#[35]⟩:ByteArray).size=1:=rfl;have HC1:=λW:World=>run_string_add_sum (P:=prog) (w:=W) so ⟨#[46]⟩ (by omega)
     have HC2:=λW:World=>run_string_add_sum (P:=prog) (w:=W) so ⟨#[35]⟩ (by omega)
     cases hbk:ri[k]with
     |true=>
      rw[hbk]at hb Xg;have HN:Hid (ll (so++⟨#[46]⟩)=tJ (ri.take (k+1))):=by
       show _=_;rw[Xg.out,<-HQ.out];unfold ll;rw[ByteArray.data_append,Array.toList_append];rfl
      clear hbk hbv hso hs1 hs2 BH hww hkr;go_wp2
      go_roundw
      case rel=>exact⟨k+1,_,by go_num,by omega,rfl,trivial,HN⟩
      case measure=>simp[intOf];omega
     |false=>
      rw[hbk]at hb Xg;have HN:Hid (ll (so++⟨#[35]⟩)=tJ (ri.take (k+1))):=by
       show _=_;rw[Xg.out,<-HQ.out];unfold ll;rw[ByteArray.data_append,Array.toList_append];rfl
      clear hbk hbv hso hs1 hs2 BH hww hkr;go_wp2
      go_roundw
      case rel=>exact⟨k+1,_,by go_num,by omega,rfl,trivial,HN⟩
      case measure=>simp[intOf];omega
    .have hkl':¬(((k:Nat):Int)<((ww:Nat):Int)):=by omega
     have hke:k=ww:=(by omega);have Er:=aQ hke;obtain⟨ao,co,rfl,-,-⟩:=bH ho;have hn8:ss.length<=8:=(by have:=HLEN.out;omega);have MP:=HE.out.size;have hzp:=bu hb2;have XQ:=λ(w5:World) (v5:Value) (n:Nat) (ys:List Value) (X:Obj) (h1:w5.ownsRow (w.heap.size+2) 9 1 v5 n ys) (h2:(wo.alloc X).grownBy w5 (Value.slice ao ss.length co).ownBlock)=>Ih hb2 (λb hb=>by have:=(ho.lt b hb).1;omega) (by omega) h1 h2
     clear hke hkl hso;go_wp2_with (at_builtin;refine dC rfl (.tmp 35) (.tmp 37) 22 rfl (w.heap.size+2) 9 i0 (.string ⟨#[]⟩) 1 16 underlying22 hi0 hz0 hz1 hz2 rfl (by decide) (.slice ao ss.length co) ss.length _ rfl (ho.alloc _) _ 1 _ [.string so] rfl rfl (.inr ⟨_,rfl,dJ (dh _ _ _)⟩) JK (by unfold maxLen;omega) (by omega) (by rw[eQ];omega) ?_;intro v5 w5 iT hg5 hl5;obtain⟨x5,y5,rfl,-,-⟩:=bH iT;obtain⟨q1,q2,q3,q4,q5⟩:=XQ w5 _ _ _ _ iT hg5)
     go_roundw
     case rel=>
      refine⟨i+1,_,ss++[so],by go_num,by omega,?_,q1,by rw[aK,bG];exact q2,jw HE.out q5 (λx hx=>?_),aQ ?_⟩
      .rw[q5.block _ (bu hb1) (λhx=>?_)]
       .exact hb1
       .rcases hx with hx|hx
        .omega
        .have:=(ho.lt _ hx).1;omega
      .rcases hx with hx|hx
       .omega
       .have:=(ho.lt _ hx).1;omega
      .rw[wH.out,<-HB.out]
       have e:ll so=tJ ri:=(by rw[HQ.out,bU (by have:=HWI.out;have:=Er.out;omega)]);rw[<-e];simp[bd]
     case measure=>simp[intOf];omega
  .have hil:¬(((i:Nat):Int)<((hh:Nat):Int)):=by omega
   have hie:i=hh:=(by omega);have Gq:=aQ hie;obtain⟨ao,co,rfl,-,-⟩:=bH ho;have hr1:=frozen_of_row wr w.heap.size 0 _ _ hb1;have r0:=cell_of_row wr w.heap.size 0 _ _ _ hb1;simp only[gE]at r0;have HH:=aQ (heap_setCell_same wr w.heap.size 0 _ _ (.slice ao ss.length co) hb1);have hks:=aQ (dV (w:=wr) (p:=⟨w.heap.size,0,none⟩) (v:=.slice ao ss.length co));clear hie hlt hlen;go_wp2
   (try simp only[Exit.inBlock,Exit.then]);refine bodyPost_ret (results_cell_row rfl _ _ w.heap.size 31 #[.slice ao ss.length co] (0,0) _ rfl HH.out underlying31 rfl (by kernel_rfl)) rfl ?_;refine⟨_,ss,rfl,jV (bI ho hks.out (λb hb q=>?_)) (by omega),?_,hE.setCell (p:=⟨w.heap.size,0,none⟩) (ay _) _⟩
   .have:=(ho.lt b hb).1;have q':b=w.heap.size:=q;omega
   .rw[HB.out,Gq.out,bU (by have:=HS.out.hgt;omega)]
end
section
open Go.RowKit
open bO (dH Nd vl Same plus)
variable {D D' F G:dH} {at_:List Nat} {i k:Nat}
def qE(D F G:dH)(at_:List Nat):Prop:=∀m (h:m<at_.length),at_[m]<D.length/\∀i k,m=i*G.length+k->k<G.length->Same (vl D at_[m]) (plus (vl F i) (vl G k))
def EC(F G:dH)(at_:List Nat)(i k:Nat):List Nat:=((F.getD i ([],[])).1.map λx=>at_.getD (x*G.length+k) 0)++(G.getD k ([],[])).1.map λy=>at_.getD (i*G.length+y) 0
def EB(F G:dH)(at_:List Nat)(i k:Nat):List Nat:=((F.getD i ([],[])).2.map λx=>at_.getD (x*G.length+k) 0)++(G.getD k ([],[])).2.map λy=>at_.getD (i*G.length+y) 0
theorem qE.nil(D F G:dH):qE D F G []:=λm h=>absurd h (by simp)
theorem qE.more(h:qE D F G at_)(g:bO.WF D)(g':bO.WF D')(hm:∃E,D'=D++E):qE D' F G at_:=by
 obtain⟨E,rfl⟩:=hm;intro m hm;obtain⟨a,b⟩:=h m hm;exact⟨by simp;omega,λi k e hk=>by rw[bO.ik g g' _ a];exact b i k e hk⟩
theorem qE.at(h:qE D F G at_)(hk:k<G.length)(hm:i*G.length+k<at_.length):at_.getD (i*G.length+k) 0<D.length/\Same (vl D (at_.getD (i*G.length+k) 0)) (plus (vl F i) (vl G k)):=by
 rw[aj,aa hm,bW];exact⟨(h _ hm).1,(h _ hm).2 i k rfl hk⟩
theorem qE.snoc{x:Nat}(h:qE D F G at_)(hl:at_.length=i*G.length+k)(hk:k<G.length)(hx:x<D.length)(hs:Same (vl D x) (plus (vl F i) (vl G k))):qE D F G (at_++[x]):=by
 intro m hm;by_cases c:m<at_.length
 .rw[dw c];exact h m c
 .have e:m=at_.length:=by simp at hm;omega
  subst e;rw[dU (ay _)];simp only[Nat.sub_self,List.getElem_cons_zero];refine⟨hx,λi' k' e hk'=>?_⟩;rw[hl]at e;have e1:i=i':=by
   rcases Nat.lt_trichotomy i i' with q|q|q
   .have:=gZ G.length (show i+1<=i' from q);rw[uI]at this;omega
   .exact q
   .have:=gZ G.length (show i'+1<=i from q);rw[uI]at this;omega
  subst e1;have e2:k=k':=by omega
  subst e2;exact hs
theorem wT{n h:Nat}(hi:i<h)(hk:k<n):i*n+k<h*n:=by
 have:=gZ n (show i+1<=h from hi);rw[uI]at this;omega
theorem Yc(h:qE D F G at_)(hF:bO.WF F)(hG:bO.WF G)(hi:i<F.length)(hk:k<G.length)(hl:at_.length=i*G.length+k):(∀x,x∈EC F G at_ i k->x<D.length)/\∀x,x∈EB F G at_ i k->x<D.length:=by
 have dF:F[i]?=some F[i]:=aa hi;have dG:G[k]?=some G[k]:=aa hk;have wF:=hF i _ dF;have wG:=hG k _ dG;have eF:F.getD i ([],[])=F[i]:=by rw[aj,dF];rfl
 have eG:G.getD k ([],[])=G[k]:=by rw[aj,dG];rfl
 have kF:∀x,x<i->at_.getD (x*G.length+k) 0<D.length:=λx hx=>(h.at hk (by rw[hl];have:=wT hx hk;omega)).1
 have kG:∀y,y<k->at_.getD (i*G.length+y) 0<D.length:=λy hy=>(h.at (by omega) (by omega)).1
 refine⟨λx hx=>?_,λx hx=>?_⟩
 .unfold EC at hx;rw[eF,eG]at hx
  rcases bq.1 hx with hx|hx
  .obtain⟨y,hy,rfl⟩:=aH.1 hx;exact kF y (wF.1 y hy)
  .obtain⟨y,hy,rfl⟩:=aH.1 hx;exact kG y (wG.1 y hy)
 .unfold EB at hx;rw[eF,eG]at hx
  rcases bq.1 hx with hx|hx
  .obtain⟨y,hy,rfl⟩:=aH.1 hx;exact kF y (wF.2 y hy)
  .obtain⟨y,hy,rfl⟩:=aH.1 hx;exact kG y (wG.2 y hy)
theorem SX{j:Nat}(g:bO.WF D)(g':bO.WF D')(hF:bO.WF F)(hG:bO.WF G)(hi:i<F.length)(hk:k<G.length)(h:qE D F G at_)(hl:at_.length=i*G.length+k)
 (hp:jm D (EC F G at_ i k) (EB F G at_ i k) D' j):Same (vl D' j) (plus (vl F i) (vl G k)):=by
 have dF:F[i]?=some F[i]:=aa hi;have dG:G[k]?=some G[k]:=aa hk;have wF:=hF i _ dF;have wG:=hG k _ dG;have eF:F.getD i ([],[])=F[i]:=by rw[aj,dF];rfl
 have eG:G.getD k ([],[])=G[k]:=by rw[aj,dG];rfl
 have kF:∀x,x<i->Same (vl D' (at_.getD (x*G.length+k) 0)) (plus (vl F x) (vl G k)):=λx hx=>by
  have:=h.at (i:=x) hk (by rw[hl];have:=wT hx hk;omega);rw[hp.vl g g' this.1];exact this.2
 have kG:∀y,y<k->Same (vl D' (at_.getD (i*G.length+y) 0)) (plus (vl F i) (vl G y)):=λy hy=>by
  have:=h.at (i:=i) (k:=y) (by omega) (by omega);rw[hp.vl g g' this.1];exact this.2
 rw[bO.same_iff,bO.ow g' hp.1,bO.ou g' hp.1];refine⟨λy hy=>?_,λy hy=>?_,λy hy=>?_,λy hy=>?_⟩
 .obtain⟨x,hx,rfl⟩:=aH.1 hy
  have hx:=bZ.1 hx;unfold EC at hx;rw[eF,eG]at hx;rcases bq.1 hx with hx|hx
  .obtain⟨z,hz,rfl⟩:=aH.1 hx
   exact⟨_,bO.kr.2 (.inl ⟨_,by rw[bO.ow hF dF];exact bE hz,rfl⟩),kF z (wF.1 z hz)⟩
  .obtain⟨z,hz,rfl⟩:=aH.1 hx
   exact⟨_,bO.kr.2 (.inr ⟨_,by rw[bO.ow hG dG];exact bE hz,rfl⟩),kG z (wG.1 z hz)⟩
 .rcases bO.kr.1 hy with⟨u,hu,rfl⟩|⟨u,hu,rfl⟩
  .rw[bO.ow hF dF]at hu
   obtain⟨z,hz,rfl⟩:=aH.1 hu;exact⟨_,bE (bZ.2 (by unfold EC;rw[eF,eG];exact bq.2 (.inl (bE hz)))),kF z (wF.1 z hz)⟩
  .rw[bO.ow hG dG]at hu
   obtain⟨z,hz,rfl⟩:=aH.1 hu;exact⟨_,bE (bZ.2 (by unfold EC;rw[eF,eG];exact bq.2 (.inr (bE hz)))),kG z (wG.1 z hz)⟩
 .obtain⟨x,hx,rfl⟩:=aH.1 hy
  have hx:=bZ.1 hx;unfold EB at hx;rw[eF,eG]at hx;rcases bq.1 hx with hx|hx
  .obtain⟨z,hz,rfl⟩:=aH.1 hx
   exact⟨_,bO.ko.2 (.inl ⟨_,by rw[bO.ou hF dF];exact bE hz,rfl⟩),kF z (wF.2 z hz)⟩
  .obtain⟨z,hz,rfl⟩:=aH.1 hx
   exact⟨_,bO.ko.2 (.inr ⟨_,by rw[bO.ou hG dG];exact bE hz,rfl⟩),kG z (wG.2 z hz)⟩
 .rcases bO.ko.1 hy with⟨u,hu,rfl⟩|⟨u,hu,rfl⟩
  .rw[bO.ou hF dF]at hu
   obtain⟨z,hz,rfl⟩:=aH.1 hu;exact⟨_,bE (bZ.2 (by unfold EB;rw[eF,eG];exact bq.2 (.inl (bE hz)))),kF z (wF.2 z hz)⟩
  .rw[bO.ou hG dG]at hu
   obtain⟨z,hz,rfl⟩:=aH.1 hu;exact⟨_,bE (bZ.2 (by unfold EB;rw[eF,eG];exact bq.2 (.inr (bE hz)))),kG z (wG.2 z hz)⟩
end
section
open Go.RowKit
open bO (dH Nd vl Same plus)
variable {wo wr w5:World} {lv rv v5:Value} {l r:List Nat} {x:Nat} {X:Obj}
structure LR(wo wr:World)(lv rv:Value)(l r:List Nat):Prop where
 el:wr.ownsRow wo.heap.size 3 1 lv l.length ((dD l).map (Value.int .i64))
 er:wr.ownsRow wo.heap.size 3 1 rv r.length ((dD r).map (Value.int .i64))
 ap:∀b,lv.ownBlock=some b->rv.ownBlock≠some b
 ext:Ext wo wr
theorem LR.drew{w2:World}(h:LR wo wr lv rv l r)(hx:Ext wr w2):LR wo w2 lv rv l r:=⟨bY h.el hx,bY h.er hx,h.ap,ax h.ext hx⟩
theorem LR.aex(h:LR wo wr lv rv l r)(ho:w5.ownsRow wo.heap.size 3 1 v5 (l.length+1) ((dD l).map (Value.int .i64)++[.int .i64 ((x:Nat):Int)]))(hg:(wr.alloc X).grownBy w5 lv.ownBlock)(hl:kR (wr.alloc X) lv v5):LR wo w5 v5 rv (l++[x]) r:=by
 have hz:(wr.alloc X).heap.size=wr.heap.size+1:=eQ _ _;have hk:dX (λb=>lv.ownBlock=some b) (wr.alloc X) w5:=⟨hg.os,hg.tape,hg.output,hg.size,λk hk hn=>hg.block k hk (λe=>hn e.symm)⟩;refine⟨by rw[aK];simpa [dD]using ho,bI (h.er.alloc X) hk (λb hb e=>h.ap b e hb),λb hb e=>?_,dS (bS h.ext X) hg (λk hk=>(h.el.lt k hk).1)⟩;rcases hl with q|⟨c,q,k⟩
 .exact h.ap b (by rw[<-q];exact hb) e
 .rw[q]at hb;injection hb with hb
  have:=(h.er.lt b e).2;omega
theorem LR.aew(h:LR wo wr lv rv l r)(ho:w5.ownsRow wo.heap.size 3 1 v5 (r.length+1) ((dD r).map (Value.int .i64)++[.int .i64 ((x:Nat):Int)]))(hg:(wr.alloc X).grownBy w5 rv.ownBlock)(hl:kR (wr.alloc X) rv v5):LR wo w5 lv v5 l (r++[x]):=by
 have hz:(wr.alloc X).heap.size=wr.heap.size+1:=eQ _ _;have hk:dX (λb=>rv.ownBlock=some b) (wr.alloc X) w5:=⟨hg.os,hg.tape,hg.output,hg.size,λk hk hn=>hg.block k hk (λe=>hn e.symm)⟩;refine⟨bI (h.el.alloc X) hk (λb hb e=>h.ap b hb e),by rw[aK];simpa [dD]using ho,λb hb e=>?_,dS (bS h.ext X) hg (λk hk=>(h.er.lt k hk).1)⟩;rcases hl with q|⟨c,q,k⟩
 .exact h.ap b hb (by rw[<-q];exact e)
 .rw[q]at e;injection e with e
  have:=(h.el.lt b hb).2;omega
structure SM(w we wr:World)(vf vg av vn vb:Value)(D:dH)(at_:List Nat):Prop where
 bk:eH wr (w.heap.size+3) vn vb D
 go:ig we wr (w.heap.size+3) (.slice none 0 0) (.slice none 0 0) [] vn vb D
 b0:wr.heap[w.heap.size]?=some (.cells #[vf] 28 (0,0))
 b1:wr.heap[w.heap.size+1]?=some (.cells #[vg] 28 (0,0))
 b2:wr.heap[w.heap.size+2]?=some (.cells #[.slice none 0 0] 28 (0,0))
 own:wr.ownsRow we.heap.size 3 1 av at_.length ((dD at_).map (Value.int .i64))
 sep:∀b,av.ownBlock=some b->we.heap.size<=b/\Beside wr (w.heap.size+3) vn vb D b
 side:∀b,b<w.heap.size+3->Beside wr (w.heap.size+3) vn vb D b
 ext:Ext w wr
 len:D.length<=at_.length
section
variable {w we wr w2:World} {vf vg av vn vb:Value} {D:dH} {at_:List Nat}
theorem SM.ext'(m:SM w we wr vf vg av vn vb D at_)(hx:Ext wr w2):SM w we w2 vf vg av vn vb D at_:=
 ⟨m.bk.ext hx,m.go.trans (ig.ext m.bk hx),(hx.block _ (bu m.b0)).trans m.b0,(hx.block _ (bu m.b1)).trans m.b1,(hx.block _ (bu m.b2)).trans m.b2,bY m.own hx,λb hb=>⟨(m.sep b hb).1,(m.sep b hb).2.IX m.bk hx⟩,λb hb=>(m.side b hb).IX m.bk hx,ax m.ext hx,m.len⟩
theorem SM.push{w3 w5:World}{l r:List Nat}{i2:Nat}{Cb pJ v5:Value}{D2:dH}{X:Obj}(m:SM w we wr vf vg av vn vb D at_)
 (hB3:eH w3 (w.heap.size+3) Cb pJ D2) (hgo:ig wr w3 (w.heap.size+3) vn vb D Cb pJ D2) (hP:jm D l r D2 i2) (XH:w.heap.size+3<we.heap.size)
 (ho:w5.ownsRow we.heap.size 3 1 v5 (at_.length+1) ((dD at_).map (Value.int .i64)++[.int .i64 ((i2:Nat):Int)])) (hg:(w3.alloc X).grownBy w5 av.ownBlock) (hl:kR (w3.alloc X) av v5):SM w we w5 vf vg v5 Cb pJ D2 (at_++[i2]):=by
 have hx4:Ext w3 (w3.alloc X):=bS (Below.refl _ _) _;have EL:(w3.alloc X).heap.size=w3.heap.size+1:=eQ _ _;have hz3:=hgo.keep.size;have hG3:=m.go.trans hgo;have hs3:∀b,av.ownBlock=some b->we.heap.size<=b/\Beside w3 (w.heap.size+3) Cb pJ D2 b:=λb hb=>⟨(m.sep b hb).1,(m.sep b hb).2.go (m.own.lt b hb).2 hgo⟩
 obtain⟨VH,AL,vU,hside⟩:=Beside.row hG3 hB3 hs3 hx4 hg hl;have Uv:∀b v T,b<w.heap.size+3->wr.heap[b]?=some (.cells #[v] T (0,0))->w5.heap[b]?=some (.cells #[v] T (0,0)):=λb v T hb h=>by
  have hbl:=bu h;rw[hg.block b (by omega) (λe=>by have:=(m.sep b e.symm).1;omega),hx4.block b (by omega),hgo.keep.block b hbl (m.side b hb).ins];exact h
 have hlen:=hP.len;refine⟨VH,AL,Uv _ _ _ (by omega) m.b0,Uv _ _ _ (by omega) m.b1,Uv _ _ _ (by omega) m.b2,by rw[aK];simpa [dD]using ho,vU,λb hb=>hside _ ((m.side b hb).go (by have:=m.go.keep.size;omega) hgo),?_,by rw[aK];have:=m.len;simp;omega⟩;have h1:Ext w w3:=jw m.ext hgo.keep λb hb=>by
  have:=m.go.ins b hb;rcases this with k|k
  .rcases k with k|k|k
   .omega
   .simp[Value.ownBlock]at k
   .simp[Value.ownBlock]at k
  .omega
 exact dS (bS h1 X) hg λb hb=>by have:=(m.sep b hb).1;omega
end
end
end Go.Proofs.YteknjeohbcgpdaaGreatDoor