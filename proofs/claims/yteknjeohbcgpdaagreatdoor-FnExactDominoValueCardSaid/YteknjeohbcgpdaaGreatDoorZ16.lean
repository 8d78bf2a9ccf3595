/-
  Contract of the reference's l21Grow. (3 texts.)
-/
import Derived.Test.YteknjeohbcgpdaaGreatDoorZ15
set_option maxRecDepth 100000
namespace Go.Proofs.YteknjeohbcgpdaaGreatDoor
open Tryz
section
open Go.RowKit
open Cgt (Brd GB bD Cs)
def kW (r:List Bool):Nat:=r.countP (· == true)
def pY (cl:Cl):Nat:=(cl.map kW).sum
theorem Ei {r:List Bool} {k:Nat} (h:k<r.length):kW (r.take (k+1))=kW (r.take k)+if r[k]=true then 1 else 0:=by
 unfold kW
 rw[List.take_succ_eq_append_getElem h,List.countP_append]
 cases r[k] <;> simp
theorem AU {cl:Cl} {k:Nat} (h:k<cl.length):pY (cl.take (k+1))=pY (cl.take k)+kW cl[k]:=by
 unfold pY
 rw[List.take_succ_eq_append_getElem h,List.map_append,List.sum_append];simp
theorem OI (ss:List ByteArray):pY (cK ss)=Cgt.bS (bd ss):=by
 unfold pY Cgt.bS cK bd
 rw[List.map_map,List.map_map]
 congr 1
 apply List.map_congr_left
 intro s _
 simp only[Function.comp_def,kW,kM,List.countP_map]
 congr 1
 funext x
 cases (x == 46) <;> rfl
theorem AR (r:List Bool):kW r≤r.length:=List.countP_le_length
theorem OH {cl:Cl} {hh ww:Nat} (s:Sz cl hh ww) (k:Nat):pY (cl.take k)≤k*ww:=by
 induction k with
 | zero=>simp[pY]
 | succ k ih =>
   by_cases h:k<cl.length
   · rw[AU h,Nat.succ_mul]
     have:=AR cl[k]
     rw[s.at h] at this
     omega
   · rw[List.take_of_length_le (by omega)]
     rw[List.take_of_length_le (by omega)] at ih
     rw[Nat.succ_mul];omega
set_option maxHeartbeats 4000000 in
theorem wS (v:Value) (ss:List ByteArray) (hh ww:Nat) (w:World) (h:Strs w v ss) (g:GB (bd ss) hh ww) :
 Calls prog 37 #[.agg #[v]] w fun e w'=>e=.returned (.int .i64 ((Cgt.bS (bd ss):Nat):Int))∧Ext w w':=by
 obtain⟨a,cap,rfl,hcap,hml⟩:=h.open
 have hxb:Ext w (w.alloc (.cells #[.slice a ss.length cap] 31)):=by go_grown
 have hbb:=heap_alloc_new w (.cells #[.slice a ss.length cap] 31)
 have HSZ:=Hd_ (jA g)
 have h8:=g.h1
 have w8:=g.w1
 go_enter Tryz.func37,Tryz.ntmps37
 go_wp2_with (go_at_call 75;refine(l7 _ ss hh ww _ (h.ext hxb) g).mono ?_;rintro e w1 ⟨cv,sl,rfl,hG,hx1⟩;obtain⟨ac,cc,rfl,-,-⟩:=hG.len)
 have hE:=aa hxb hx1
 have hln:(cK ss).length=hh:=HSZ.out.hgt
 obtain⟨cl,hcl⟩:∃ cl,cl=cK ss:=⟨_,rfl⟩
 have HCN:=Hd_ (OI ss)
 rw[← hcl] at HSZ hG hln HCN ⊢
 have HG:=Hd_ hG
 have HE:=Hd_ hE
 obtain⟨n,hn⟩:∃ n,n=cl.length:=⟨_,rfl⟩
 rw[← hn]
 have hn8:n≤8:=by omega
 have HN:=Hd_ hn
 clear hcl hG hE hx1 hxb hbb hln hn
 generalize w1=W at *
 go_loopw [3,5,6] (fun nv ii _ wr=>∃ i:Nat,ii=.int .i64 ((i:Nat):Int)∧i≤n∧nv=.int .i64 ((pY (cl.take i):Nat):Int)∧W=wr) (fun _ ii _ _=>n-(intOf ii).toNat)
 case atStart=>exact⟨0,rfl,Nat.zero_le _,by simp[pY],rfl⟩
 case round =>
  obtain⟨i,rfl,hi,rfl,rfl⟩:=hrel
  have hC8:pY (cl.take i)≤64:=by
   have:=OH HSZ.out i
   have:=Nat.mul_le_mul (show i≤8 by omega) w8.2
   omega
  by_cases hlt:i<n
  · have h1:((i:Nat):Int)<((n:Nat):Int):=by omega
    have hli:i<cl.length:=by have:=HN.out;omega
    obtain⟨gt,ct,et,hct⟩:=HG.out.top hli
    simp only[Value.slice.injEq] at et
    obtain⟨rfl,-,rfl⟩:=et
    obtain⟨ar,cr,er,hcr⟩:=HG.out.FJ hli
    have hw:cl[i].length=ww:=HSZ.out.at hli
    rw[er,hw] at hct
    rw[hw] at er
    have HER:=Hd_ er
    have HT:=Hd_ (AU hli)
    obtain⟨ri,eri⟩:∃ ri:List Bool,cl[i]=ri:=⟨_,rfl⟩
    rw[eri] at HT hw
    have Ie:=Hd_ eri
    have HW:=Hd_ hw
    have HLI:=Hd_ hli
    clear er eri hw
    generalize hcv:pY (cl.take i)=c0 at *
    go_wp2
    go_loopw [3,6] (fun nv kk wr=>∃ k:Nat,kk=.int .i64 ((k:Nat):Int)∧k≤ww∧nv=.int .i64 ((c0+kW (ri.take k):Nat):Int)∧W=wr) (fun _ kk _=>ww-(intOf kk).toNat)
    case atStart=>exact⟨0,rfl,Nat.zero_le _,by simp[kW],rfl⟩
    case round =>
     obtain⟨k,rfl,hk,rfl,rfl⟩:=hrel
     have hR8:kW (ri.take k)≤8:=by have:=AR (ri.take k);rw[List.length_take] at this;omega
     by_cases hkl:k<ww
     · have h4:((k:Nat):Int)<((ww:Nat):Int):=by omega
       have hkr:k<ri.length:=by have:=HW.out;omega
       have hlen:k<(cl[i]'HLI.out).length:=by rw[Ie.out];exact hkr
       obtain⟨g2,c2,e2,hb,-⟩:=HG.out.cell HLI.out hlen
       rw[HER.out] at e2
       simp only[Value.slice.injEq] at e2
       obtain⟨rfl,-,rfl⟩:=e2
       have hbv:(cl[i]'HLI.out)[k]=ri[k]:=by congr 1
       rw[hbv] at hb
       have HRT:=Hd_ (Ei hkr)
       cases hbk:ri[k] with
       | true =>
         rw[hbk] at hb HRT
         clear hbk hbv
         go_wp2
         go_roundw
         case rel=>exact⟨k+1,by go_num,by omega,by rw[HRT.out,if_pos rfl];go_num,trivial⟩
         case measure=>simp[intOf];omega
       | false =>
         rw[hbk] at hb HRT
         clear hbk hbv
         go_wp2
         go_roundw
         case rel=>exact⟨k+1,by go_num,by omega,by rw[HRT.out,if_neg (by simp)];go_num,trivial⟩
         case measure=>simp[intOf];omega
     · have h4:¬ (((k:Nat):Int)<((ww:Nat):Int)):=by omega
       have hke:k=ww:=by omega
       have HKE:=Hd_ hke
       clear hke hkl
       go_wp2
       go_roundw
       case rel=>exact⟨i+1,by go_num,by omega,by rw[HT.out,← hcv,show ri.take k=ri from List.take_of_length_le (by have:=HW.out;have:=HKE.out;omega)],trivial⟩
       case measure=>simp[intOf];omega
  · have h1:¬ (((i:Nat):Int)<((n:Nat):Int)):=by omega
    have hie:i=n:=by omega
    have HIE:=Hd_ hie
    clear hie hlt
    go_wp2
    go_ret
    exact⟨by rw[HIE.out,HN.out,List.take_length,HCN.out];rfl,HE.out⟩
end
section
open Go.RowKit
open Cgt (Brd GB bD Cs)
def isC (cl:Cl) (hh ww:Nat) (i k:Int):Bool:=decide (0≤i∧i<hh) && decide (0≤k∧k<ww) && gat cl i.toNat k.toNat
theorem vV (i:Int) (n:Nat):inB i 0 ((n:Int)-1)=decide (0≤i∧i<(n:Int)):=by
 unfold inB;rw[Bool.eq_iff_iff];simp;omega
set_option maxHeartbeats 4000000 in
theorem uB (v:Value) (sl:Nat→Value) (cl:Cl) (hh ww B:Nat) (i k:Int) (w:World) (hG:Gr w B v sl cl) (s:Sz cl hh ww) (h1:1≤hh∧hh≤8) (w1:1≤ww∧ww≤8) :
 Calls prog 172 #[v,.int .i64 i,.int .i64 k] w fun e w'=>e=.returned (.bool (isC cl hh ww i k))∧RD w w':=by
 have hl:=s.hgt
 have hn0:0<cl.length:=by omega
 obtain⟨gt,ct,rfl,hc0⟩:=hG.top hn0
 obtain⟨ar,cr,er,-⟩:=hG.FJ hn0
 rw[er,s.at hn0] at hc0
 rw[hl] at hG ⊢
 by_cases hi:0≤i∧i<(hh:Int)
 · have e1:inB i 0 ((hh:Int)-1)=true:=by rw[vV];exact decide_eq_true hi
   by_cases hk:0≤k∧k<(ww:Int)
   · have e2:inB k 0 ((ww:Int)-1)=true:=by rw[vV];exact decide_eq_true hk
     obtain⟨iN,rfl⟩:∃ iN:Nat,i=(iN:Int):=⟨i.toNat,by omega⟩
     obtain⟨kN,rfl⟩:∃ kN:Nat,k=(kN:Int):=⟨k.toNat,by omega⟩
     have hli:iN<cl.length:=by omega
     have hlk:kN<cl[iN].length:=by rw[s.at hli];omega
     obtain⟨g3,c3,e3,hci⟩:=hG.top hli
     simp only[Value.slice.injEq,Option.some.injEq,Addr.mk.injEq,and_true] at e3
     obtain⟨rfl,-,rfl⟩:=e3
     obtain⟨g4,c4,e4,hb,-⟩:=hG.cell hli hlk
     rw[e4,s.at hli] at hci
     have hv:isC cl hh ww (iN:Int) (kN:Int)=cl[iN][kN]:=by
      unfold isC
      rw[decide_eq_true hi,decide_eq_true hk]
      simp only[Bool.true_and,Int.toNat_natCast]
      exact Da hli hlk
     rw[hv]
     have hil:((iN:Nat):Int)<((hh:Nat):Int):=by omega
     have hkl:((kN:Nat):Int)<((ww:Nat):Int):=by omega
     generalize cl[iN][kN]=bv at *
     clear hv hlk hli e4 er hn0 hG s hl hi hk
     go_enter Tryz.func172,Tryz.ntmps172
     go_wp2_with (go_at_call 60;refine(fC _ _ _ _).mono ?_;rintro e w2 ⟨he,n,rfl⟩;first | (rw[e1] at he;subst he) | (rw[e2] at he;subst he))
     go_ret
     exact⟨rfl,(by first | exact rd0 _ | exact rd1 _ _ | exact rd2 _ _ _ | exact rd3 _ _ _ _)⟩
   · have e2:inB k 0 ((ww:Int)-1)=false:=by rw[vV];exact decide_eq_false hk
     have hv:isC cl hh ww i k=false:=by unfold isC;rw[decide_eq_false hk];simp
     rw[hv]
     clear hv hn0 hG s hl hi hk er
     go_enter Tryz.func172,Tryz.ntmps172
     go_wp2_with (go_at_call 60;refine(fC _ _ _ _).mono ?_;rintro e w2 ⟨he,n,rfl⟩;first | (rw[e1] at he;subst he) | (rw[e2] at he;subst he))
     go_ret
     exact⟨rfl,(by first | exact rd0 _ | exact rd1 _ _ | exact rd2 _ _ _ | exact rd3 _ _ _ _)⟩
 · have e1:inB i 0 ((hh:Int)-1)=false:=by rw[vV];exact decide_eq_false hi
   have hv:isC cl hh ww i k=false:=by unfold isC;rw[decide_eq_false hi];simp
   rw[hv]
   clear hv hn0 hG s hl hi er
   go_enter Tryz.func172,Tryz.ntmps172
   go_wp2_with (go_at_call 60;refine(fC _ _ _ _).mono ?_;rintro e w2 ⟨he,n,rfl⟩;rw[e1] at he;subst he)
   go_ret
   exact⟨rfl,(by first | exact rd0 _ | exact rd1 _ _ | exact rd2 _ _ _ | exact rd3 _ _ _ _)⟩
theorem Ea (a b:Int) (w:World):Calls prog 159 #[.int .i64 a,.int .i64 b] w fun e w'=>e=.returned (.int .i64 (if a<b then a else b))∧w'=w:=by
 by_cases h:a<b
 · rw[if_pos h]
   go_enter Tryz.func159,Tryz.ntmps159
   go_wp2
   go_ret
   trivial
 · rw[if_neg h]
   go_enter Tryz.func159,Tryz.ntmps159
   go_wp2
   go_ret
   trivial
end
section
open Go.RowKit
open Cgt (Brd GB bD Cs Grown ad qa sub mJ cnt rm Bd Nbr)
theorem Oz {pl:Cl} {hh ww r c:Nat} (s:Sz pl hh ww) (hr:r<hh) (hc:c<ww):gcs (iM pl r c true)=ad (gcs pl) r c:=by
 funext x y
 unfold gcs ad
 rw[EU s hr hc]
 by_cases e:x=r∧y=c
 · rw[if_pos e,e.1,e.2];simp
 · rw[if_neg e]
   have:(x == r && y == c)=false:=by
    rw[Bool.eq_false_iff];intro h;simp at h;exact e h
   rw[this,Bool.or_false]
theorem JH {cl:Cl} {hh ww:Nat} (s:Sz cl hh ww) (h1:hh≤8) (w1:ww≤8):Bd (gcs cl):=fun r c h=>by have:=mE s h;omega
theorem Ku {S P P':Cs} {r c:Nat} (hS:Bd S) (h:S r c=true) (hP:P r c=false) (hm:∀ x y,ad P r c x y=true→P' x y=true):cnt (sub S P')<cnt (sub S P):=by
 have h1:=Cgt.rG (S:=sub S P) (hS r c h) (mJ.2 ⟨h,hP⟩)
 have h2:cnt (sub S P')≤cnt (rm (sub S P) r c):=Cgt.cnt_mono fun x y k=>by
  obtain⟨a,b⟩:=mJ.1 k
  have hn:ad P r c x y=false:=by
   cases e:ad P r c x y with
   | false=>rfl
   | true=>rw[hm x y e] at b;cases b
  refine Cgt.kU.2 ⟨mJ.2 ⟨a,?_⟩,fun e=>?_⟩
  · cases e:P x y with
    | false=>rfl
    | true=>rw[qa.2 (.inl e)] at hn;cases hn
  · rw[qa.2 (.inr e)] at hn;cases hn
 omega
structure jU (w:World) (B C:Nat) (v:Value) (sl:Nat→Value) (cl:Cl) (pv:Value) (ps:Nat→Value) (pl:Cl) (hh ww:Nat):Prop where
 cells:Gr w B v sl cl
 part:Gr w C pv ps pl
 cs:Sz cl hh ww
 ss:Sz pl hh ww
 ap:∀ b,GrB ps hh b→¬ GrA v sl hh b
def Dx (w:World) (B C:Nat) (v:Value) (sl:Nat→Value) (cl:Cl) (pv:Value) (ps:Nat→Value) (pl:Cl) (hh ww:Nat) (i k:Int) (e:Ending) (w':World):Prop :=
 ∃ pl',e=.returned (.tuple #[])∧jU w' B C v sl cl pv ps pl' hh ww∧bg (GrB ps hh) w w'∧Grown (gcs cl) (gcs pl) (gcs pl')∧(isC cl hh ww i k=true→gat pl' i.toNat k.toNat=true)
theorem jU.rd {w w':World} {B C:Nat} {v:Value} {sl:Nat→Value} {cl:Cl} {pv:Value} {ps:Nat→Value} {pl:Cl} {hh ww:Nat} (h:jU w B C v sl cl pv ps pl hh ww) (hx:Ext w w'):jU w' B C v sl cl pv ps pl hh ww :=
 ⟨h.cells.ext hx,h.part.ext hx,h.cs,h.ss,h.ap⟩
theorem jU.set {w:World} {B C:Nat} {v:Value} {sl:Nat→Value} {cl:Cl} {pv:Value} {ps:Nat→Value} {pl:Cl} {hh ww:Nat} (h:jU w B C v sl cl pv ps pl hh ww) {i k g c:Nat} (hi:i<hh) (hk:k<ww)
 (e:ps i=.slice (some ⟨g,0,none⟩) ww c):jU (w.setCell ⟨g,k,none⟩ (.bool true)) B C v sl cl pv ps (iM pl i k true) hh ww∧bg (GrB ps hh) w (w.setCell ⟨g,k,none⟩ (.bool true)):=by
 have hl:=h.ss.hgt
 have hi':i<pl.length:=by omega
 have hw:=h.ss.at hi'
 have hB:GrB ps hh g:=⟨i,hi,by rw[e];rfl⟩
 have hks:=bJ (w:=w) (p:=⟨g,k,none⟩) (v:=.bool true)
 have hkk:bg (GrB ps hh) w (w.setCell ⟨g,k,none⟩ (.bool true)):=⟨hks.os,hks.tape,hks.output,hks.size,fun b hb hn=>hks.block b hb fun q=>hn (by rw[show b=g from q];exact hB)⟩
 refine⟨⟨h.cells.keep hkk fun b hb hn=>h.ap b hn (by rw[h.cs.hgt] at hb;exact hb),h.part.set hi' (by rw[hw];exact hk) (by rw[e,hw]) true,h.cs,h.ss.set i k true,h.ap⟩,hkk⟩
def Dy (n:Nat):Prop:=∀ (w:World) (B C:Nat) (v:Value) (sl:Nat→Value) (cl:Cl) (pv:Value) (ps:Nat→Value) (pl:Cl) (hh ww:Nat) (i k:Int),jU w B C v sl cl pv ps pl hh ww→1≤hh∧hh≤8→1≤ww∧ww≤8→-1≤i∧i≤8→-1≤k∧k≤8 →
 cnt (sub (gcs cl) (gcs pl))<n→Calls prog 125 #[v,pv,.int .i64 i,.int .i64 k] w (Dx w B C v sl cl pv ps pl hh ww i k)
set_option maxHeartbeats 4000000 in
theorem grow_step {n:Nat} (ih:Dy n):Dy (n+1):=by
 intro w B C v sl cl pv ps pl hh ww i k hP h1 w1 hi8 hk8 hn
 obtain⟨av,cv,rfl,-,-⟩:=hP.cells.len
 have HIS:=fun W (hW:RD w W)=>uB _ sl cl hh ww B i k W (hP.cells.ext (dw hW)) hP.cs h1 w1
 have hxI:=HIS w (rd0 w)
 have hcl:=hP.cs.hgt
 have hpl:=hP.ss.hgt
 rw[hcl] at hxI hP
 rw[hcl]
 cases hc:isC cl hh ww i k with
 | false =>
   rw[hc] at hxI
   have HP:=Hd_ hP
   have HC:=Hd_ hc
   clear hP hc HIS
   go_enter Tryz.func125,Tryz.ntmps125
   go_wp2_with (go_at_call 172;refine hxI.mono ?_;rintro e w2 ⟨rfl,m,rfl⟩)
   ((try simp only[Exit.inBlock,Exit.then]);refine bodyPost_ret (results_none rfl _ _ _) rfl ?_)
   exact⟨pl,rfl,HP.out.rd (bN (Below.refl _ _) m),bZ (bN (Below.refl _ _) m),Grown.refl _ _,fun h=>by rw[HC.out] at h;cases h⟩
 | true =>
   rw[hc] at hxI
   have hin:=hc
   unfold isC at hin
   simp only[Bool.and_eq_true,decide_eq_true_eq] at hin
   obtain⟨⟨hi,hk⟩,hcell⟩:=hin
   obtain⟨iN,rfl⟩:∃ iN:Nat,i=(iN:Int):=⟨i.toNat,by omega⟩
   obtain⟨kN,rfl⟩:∃ kN:Nat,k=(kN:Int):=⟨k.toNat,by omega⟩
   simp only[Int.toNat_natCast] at hcell
   have hiN:iN<hh:=by omega
   have hkN:kN<ww:=by omega
   have hli:iN<pl.length:=by omega
   have hw:=hP.ss.at hli
   obtain⟨gt,ct,rfl,htop⟩:=hP.part.top hli
   obtain⟨g,c,eg,hb,hf⟩:=hP.part.cell hli (show kN<pl[iN].length by omega)
   rw[eg,hw] at htop
   rw[hw] at eg
   have hga:gat pl iN kN=pl[iN][kN]:=Da hli (by omega)
   rw[← hga] at hb
   have hil:((iN:Nat):Int)<((hh:Nat):Int):=by omega
   have hkl:((kN:Nat):Int)<((ww:Nat):Int):=by omega
   rw[hpl] at hP ⊢
   cases hpb:gat pl iN kN with
   | true =>
     rw[hpb] at hb
     have HP:=Hd_ hP
     have HPB:=Hd_ hpb
     clear hP hc HIS eg hga hpb hli hw hi hk
     go_enter Tryz.func125,Tryz.ntmps125
     go_wp2_with (go_at_call 172;refine hxI.mono ?_;rintro e w2 ⟨rfl,m,rfl⟩)
     ((try simp only[Exit.inBlock,Exit.then]);refine bodyPost_ret (results_none rfl _ _ _) rfl ?_)
     exact⟨pl,rfl,HP.out.rd (bN (Below.refl _ _) m),bZ (bN (Below.refl _ _) m),Grown.refl _ _,fun _=>HPB.out⟩
   | false =>
     rw[hpb] at hb
     have hS:=JH hP.cs h1.2 w1.2
     have HW1:=fun W (hW:Ext w W)=>(hP.rd hW).set hiN hkN eg
     have hgs:=Oz hP.ss hiN hkN
     have hless:∀ pl',Grown (gcs cl) (gcs (iM pl iN kN true)) (gcs pl')→cnt (sub (gcs cl) (gcs pl'))<n:=fun pl' hg=>by
      have:=Ku (P:=gcs pl) hS (r:=iN) (c:=kN) hcell hpb (P':=gcs pl') fun x y h=>hg.more _ _ (by rw[hgs];exact h)
      omega
     have HLS:=Hd_ hless
     have HPB:=Hd_ hpb
     have HGS:=Hd_ hgs
     have HCE:=Hd_ hcell
     clear hP hc HIS eg hga hpb hli hw hi hk hS hgs hcell hless
     go_enter Tryz.func125,Tryz.ntmps125
     go_upto_region 2 with (go_at_call 172;refine hxI.mono ?_;rintro e w2 ⟨rfl,m,rfl⟩)
     obtain⟨hP2,hK2⟩:=HW1 (w.drewN m) (bN (Below.refl _ _) m)
     have hK2':bg (GrB ps hh) w ((w.drewN m).setCell ⟨g,kN,none⟩ (.bool true)):=⟨hK2.os,hK2.tape,hK2.output,hK2.size,hK2.block⟩
     have HK2:=Hd_ hK2'
     clear HW1 hK2 hK2' hxI hb hf htop
     generalize (w.drewN m).setCell ⟨g,kN,none⟩ (.bool true)=W2 at *
     have NU:=ih W2 B C _ sl cl _ ps _ hh ww ((iN:Int)-1) kN hP2 h1 w1 (by omega) (by omega) (HLS.out _ (Grown.refl _ _))
     clear hP2
     go_upto_region 3 with (go_at_call 125;refine NU.mono ?_;rintro e w3 ⟨pl3,rfl,hP3,hK3,hG3,hN3⟩)
     clear NU
     have HG3:=Hd_ hG3
     have HN3:=Hd_ hN3
     have HK3:=Hd_ (HK2.out.trans hK3 fun _ _ h=>h)
     have call2:=ih w3 B C _ sl cl _ ps pl3 hh ww ((iN:Int)+1) kN hP3 h1 w1 (by omega) (by omega) (HLS.out _ hG3)
     clear hP3 hG3 hN3 hK3
     go_upto_region 4 with (go_at_call 125;refine call2.mono ?_;rintro e w4 ⟨pl4,rfl,hP4,hK4,hG4,hN4⟩)
     clear call2
     have Ml:=HG3.out.trans hG4
     have HG4:=Hd_ hG4
     have HN4:=Hd_ hN4
     have HK4:=Hd_ (HK3.out.trans hK4 fun _ _ h=>h)
     have call3:=ih w4 B C _ sl cl _ ps pl4 hh ww (iN:Int) ((kN:Int)-1) hP4 h1 w1 (by omega) (by omega) (HLS.out _ Ml)
     clear hP4 hG4 hN4 hK4
     have Uf:=Hd_ Ml
     clear Ml
     go_upto_region 5 with (go_at_call 125;refine call3.mono ?_;rintro e w5 ⟨pl5,rfl,hP5,hK5,hG5,hN5⟩)
     clear call3
     have Mk:=Uf.out.trans hG5
     have HG5:=Hd_ hG5
     have HN5:=Hd_ hN5
     have HK5:=Hd_ (HK4.out.trans hK5 fun _ _ h=>h)
     have call4:=ih w5 B C _ sl cl _ ps pl5 hh ww (iN:Int) ((kN:Int)+1) hP5 h1 w1 (by omega) (by omega) (HLS.out _ Mk)
     clear hP5 hG5 hN5 hK5
     have Ue:=Hd_ Mk
     clear Mk
     go_wp2_with (go_at_call 125;refine call4.mono ?_;rintro e w6 ⟨pl6,rfl,hP6,hK6,hG6,hN6⟩)
     go_end0
     have Mj:=Ue.out.trans hG6
     rw[HGS.out] at Mj
     refine⟨pl6,rfl,hP6,HK5.out.trans hK6 fun _ _ h=>h,Cgt.kH HCE.out Mj fun x y hn hs=>?_,fun _=>?_⟩
     · have hb:=mE hP6.cs hs
       have key:∀ (a b:Int) (pl':Cl),(isC cl hh ww a b=true→gat pl' a.toNat b.toNat=true)→a=(x:Int)→b=(y:Int)→gat pl' x y=true:=fun a b pl' hq ha hb'=>by
        subst ha hb'
        have:=hq (by unfold isC;simp only[Bool.and_eq_true,decide_eq_true_eq,Int.toNat_natCast];exact⟨⟨by omega,by omega⟩,hs⟩)
        simpa using this
       rcases Cgt.Oe.1 hn with ⟨e,f⟩ | ⟨e,f⟩ | ⟨e,f⟩ | ⟨e,f⟩
       · exact hG6.more _ _ (HG5.out.more _ _ (HG4.out.more _ _ (key _ _ _ HN3.out (by omega) (by omega))))
       · exact hG6.more _ _ (HG5.out.more _ _ (key _ _ _ HN4.out (by omega) (by omega)))
       · exact hG6.more _ _ (key _ _ _ HN5.out (by omega) (by omega))
       · exact key _ _ _ hN6 (by omega) (by omega)
     · simp only[Int.toNat_natCast]
       exact Mj.more _ _ (qa.2 (.inr ⟨rfl,rfl⟩))
theorem D9 (w:World) (B C:Nat) (v:Value) (sl:Nat→Value) (cl:Cl) (pv:Value) (ps:Nat→Value) (pl:Cl) (hh ww:Nat) (i k:Int) (hP:jU w B C v sl cl pv ps pl hh ww) (h1:1≤hh∧hh≤8) (w1:1≤ww∧ww≤8) (hi:-1≤i∧i≤8) (hk:-1≤k∧k≤8) :
 Calls prog 125 #[v,pv,.int .i64 i,.int .i64 k] w (Dx w B C v sl cl pv ps pl hh ww i k):=by
 have:∀ n,Dy n:=fun n=>by
  induction n with
  | zero=>intro w B C v sl cl pv ps pl hh ww i k _ _ _ _ _ h;omega
  | succ n ih=>exact grow_step ih
 exact this _ w B C v sl cl pv ps pl hh ww i k hP h1 w1 hi hk (Nat.lt_succ_self _)
end
end Go.Proofs.YteknjeohbcgpdaaGreatDoor