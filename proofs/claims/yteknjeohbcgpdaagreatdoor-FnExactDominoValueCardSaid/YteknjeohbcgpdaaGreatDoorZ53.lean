/-
  The tied card of FnExactDominoValue: for every board value the law answers true; the tables that it reads are tied to the program's text. (5 texts.)
-/
import Derived.Test.YteknjeohbcgpdaaGreatDoorZ1
import Derived.Test.YteknjeohbcgpdaaGreatDoorZ13
import Derived.Test.YteknjeohbcgpdaaGreatDoorZ17
import Derived.Test.YteknjeohbcgpdaaGreatDoorZ52
import Derived.SliceStrings
import Derived.Test.YteknjeohbcgpdaaGreatDoorRows
import Derived.LaidSub
import Derived.OpenShut
import Derived.Stop.Joined
import Derived.Lay
import Derived.Test.YteknjeohbcgpdaaGreatDoorTie
import Derived.Test.YteknjeohbcgpdaaGreatDoorCards
import Derived.SevenTiedAt
set_option maxRecDepth 100000
namespace Go.Proofs.YteknjeohbcgpdaaGreatDoor
open _root_.Go.Proofs.Tryz
section
open Go.RowKit
open Cgt (Dag Nd vl Same Brd)
theorem FM {b:Brd} {F:Dag} {ok:Bool} (h:zN b F ok):F.length≤120∧∀ j,j<2*F.length→(iJ F j).length≤24:=by
 rcases h with ⟨_,_,F',h1,h2,h3⟩ | ⟨_,_,h3⟩
 · cases ok with
   | false=>simp at h3;subst h3;simp
   | true =>
     simp at h3;subst h3
     have hf:=h2.symm
     unfold iU at hf
     obtain⟨_,f2,f3⟩:=of_decide_eq_true hf
     refine⟨f2,fun j hj=>?_⟩
     have hi:j / 2<F.length:=by omega
     have g:F.getD (j / 2) ([],[])=F[j / 2]:=by rw[List.getD_eq_getElem?_getD,List.getElem?_eq_getElem hi];rfl
     unfold iJ
     split
     · rw[aj,g];exact(f3 _ hi).1
     · rw[aj,g];exact(f3 _ hi).2
 · subst h3;simp
theorem JQ {ls:Nat→List Int} {n:Nat} (h:∀ j,j<n→(ls j).length≤24):df ls n≤1+24*n:=by
 induction n with
 | zero=>simp[df]
 | succ n ih =>
   have:=ih fun j hj=>h j (by omega)
   have:=h n (by omega)
   rw[df];omega
set_option maxHeartbeats 4000000 in
theorem Jk (v:Value) (ss:List ByteArray) (w:World) (hv:Strs w v ss) (hs:∀ s,s∈ss→s.size≤9223372036854775807)
 (HI:∀ (v:Value) (ss:List ByteArray) (W:World),Ext w W→Strs W v ss→ss.length≤1048576→(∀ s,s∈ss→s.size≤1048576)→Calls prog 10 #[.agg #[v]] W (AY (bd ss) W)) :
 Calls prog 3 #[.agg #[v]] w fun e w'=>e=.returned (.bool true)∧Ext w w':=by
 obtain⟨a,cap,rfl,hlc,hcap⟩:=hv.open
 have hx0:Ext w (w.alloc (.cells #[.slice a ss.length cap] 24)):=by go_grown
 have b0:=heap_alloc_new w (.cells #[.slice a ss.length cap] 24)
 by_cases hz:szS ss 1048576<0
 · go_enter Tryz.func3,Tryz.ntmps3
   go_upto_region 2 with fail
   generalize w.alloc (.cells #[.slice a ss.length cap] 24)=W at *
   have c0:=cell_of_row W w.heap.size 0 _ _ _ b0
   go_wp2_with (go_at_call 7;refine(wK _ ss _ _ (hv.ext hx0) (by omega) (by omega) hs).mono ?_;rintro e w1 ⟨he,hx1⟩;rw[if_pos hz] at he;subst he)
   go_ret
   exact⟨rfl,aa hx0 hx1⟩
 · have hul:ss.length≤1048576∧(∀ s,s∈ss→s.size≤1048576)∧0≤szS ss 1048576:=by
    have h0:0≤szS ss 1048576:=by omega
    have h1:=N7 h0
    exact⟨by omega,fun s hs=>by have:=h1.2 s hs;omega,h0⟩
   go_enter Tryz.func3,Tryz.ntmps3
   go_upto_region 2 with fail
   generalize w.alloc (.cells #[.slice a ss.length cap] 24)=W at *
   have c0:=cell_of_row W w.heap.size 0 _ _ _ b0
   go_upto_region 3 with (go_at_call 7;refine(wK _ ss _ _ (hv.ext hx0) (by omega) (by omega) hs).mono ?_;rintro e w1 ⟨he,hx1⟩;rw[if_neg hz] at he;subst he)
   have b1:=(hx1.block _ (ah b0)).trans b0
   have hE1:=aa hx0 hx1
   have d0:=cell_of_row w1 w.heap.size 0 _ _ _ b1
   clear c0 b0 hx0 hx1
   obtain⟨hu1,hu2,hu3⟩:=hul
   go_upto_region 6 with (first
    | (go_at_call 9;refine(nI _ ss _ (hv.ext hE1) hu1).mono ?_;rintro e w2 ⟨v2,rfl,ho2,hx2⟩)
    | (go_at_call 8;refine(zh _ ss _ (Strs.bG ho2 (by omega)) hu1 hu2).mono ?_;rintro e w3 ⟨vS,FS,okS,rfl,hNS,hRS,hx3⟩;obtain⟨aS,cS,rfl⟩:=hNS.slice))
   have Qz:=hNS.sup (S:=fun b=>b<w3.heap.size) (fun b h=>h) (fun b _ h=>h)
   have hE3:=aa (aa hE1 hx2) hx3
   have b3:=(hx3.block _ (ah ((hx2.block _ (ah b1)).trans b1))).trans ((hx2.block _ (ah b1)).trans b1)
   have hx4:Ext w3 (w3.alloc (.cells #[.slice aS (List.length FS) cS] 28)):=by go_grown
   have p4b:=heap_alloc_new w3 (.cells #[.slice aS (List.length FS) cS] 28)
   have Qy:=Qz.ext hx4
   have hE4:=aa hE3 hx4
   have b4:=(hx4.block _ (ah b3)).trans b3
   have hzS:w.heap.size≤w3.heap.size:=hE3.size
   generalize w3.alloc (.cells #[.slice aS (List.length FS) cS] 28)=W4 at *
   generalize w3.heap.size=p4 at *
   have d0:=cell_of_row W4 w.heap.size 0 _ _ _ b4
   clear hx4 hx3 hx2 hE3 hE1 b3 b1 ho2 hNS Qz
   go_upto_region 7 with (go_at_call 9;refine(nI _ ss _ (hv.ext hE4) hu1).mono ?_;rintro e w5 ⟨vx,rfl,hox,hx5⟩;obtain⟨ax,cx,rfl,-⟩:=az hox)
   have hE5:=aa hE4 hx5
   have hx6:Ext w5 (w5.alloc (.cells #[.slice ax ss.length cx] 31)):=by go_grown
   have p6b:=heap_alloc_new w5 (.cells #[.slice ax ss.length cx] 31)
   have hE6:=aa hE5 hx6
   have Gg:=aa hx5 hx6
   have b6:=(Gg.block _ (ah b4)).trans b4
   have q6:=(Gg.block _ (ah p4b)).trans p4b
   have Qx:=Qy.ext Gg
   have Lx:=aJ hox hx6
   have hzx:w.heap.size≤W4.heap.size:=hE4.size
   have hz4:p4<W4.heap.size:=ah p4b
   have hz5:W4.heap.size≤w5.heap.size:=hx5.size
   have R3:∀ b,Value.ownBlock (.slice ax ss.length cx)=some b→W4.heap.size≤b∧b<w5.heap.size:=fun b hb=>hox.lt b hb
   generalize w5.alloc (.cells #[.slice ax ss.length cx] 31)=W6 at *
   generalize w5.heap.size=p6 at *
   have e0:=cell_of_row W6 p6 0 _ _ _ p6b
   clear d0 hx5 hx6 Gg hE5 hE4 b4 p4b Qy hox
   go_upto_region 8 with (go_at_call 10;refine(HI _ ss _ hE6 (Strs.bG Lx (by omega)) hu1 hu2).mono ?_;rintro e w7 ⟨vG,FG,okG,sl,rfl,hRG,hFO,hx7⟩;obtain⟨aG,cG,rfl⟩:=hFO.top)
   obtain⟨rfl,rfl⟩:=hRG.unique hRS
   obtain⟨hlen,hlists⟩:=FM hRG
   have hml:maxLen=9223372036854775807:=by simp[maxLen]
   have hE7:=aa hE6 hx7
   have hLL:∀ b,Lists FG.length sl b→W6.heap.size≤b∧b<w7.heap.size:=fun b hb=>hFO.lists hb
   have hx8:Ext w7 (w7.alloc (.cells #[.slice aG (List.length FG) cG] 28)):=by go_grown
   have p7b:=heap_alloc_new w7 (.cells #[.slice aG (List.length FG) cG] 28)
   have jW:=aa hx7 hx8
   have hE8:=aa hE7 hx8
   have b8:=(jW.block _ (ah b6)).trans b6
   have q8:=(jW.block _ (ah q6)).trans q6
   have r8:=(jW.block _ (ah p6b)).trans p6b
   have Mg:=Qx.ext jW
   have PQ:=aJ Lx jW
   have Mm:=hFO.ext hx8
   have hz6:p6<W6.heap.size:=ah p6b
   have hz7:W6.heap.size≤w7.heap.size:=hx7.size
   generalize w7.alloc (.cells #[.slice aG (List.length FG) cG] 28)=W8 at *
   generalize w7.heap.size=p7 at *
   have d4:=cell_of_row W8 p4 0 _ _ _ q8
   have d7:=cell_of_row W8 p7 0 _ _ _ p7b
   have hok:(okG != okG)=false:=by simp
   have QA:bP W8 0 (.slice aG (List.length FG) cG) FG:=Mm.nodes (fun j hj=>by have:=hlists j hj;omega) (by omega)
   have hL7:∀ b,Lists FG.length sl b→W6.heap.size≤b∧b<p7:=fun b hb=>hLL b hb
   clear e0 hx7 hx8 jW hE7 hE6 b6 q6 p6b Qx Lx hFO hRS hLL
   go_upto_region 10 with (go_at_call 11;refine(sU _ _ FG _ QA Mg.out).mono ?_;rintro e w9 ⟨rfl,hx9⟩)
   have hE9:=aa hE8 hx9
   have b9:=(hx9.block _ (ah b8)).trans b8
   have q9:=(hx9.block _ (ah q8)).trans q8
   have r9:=(hx9.block _ (ah r8)).trans r8
   have s9:=(hx9.block _ (ah p7b)).trans p7b
   have Qw:=Mg.ext hx9
   have Lv:=aJ PQ hx9
   have QI:=Mm.ext hx9
   clear d4 d7 hx9 hE8 b8 q8 r8 p7b Mg PQ Mm QA
   have hSx:∀ W:World,Ext w9 W→W.cell? ⟨p6,0,none⟩=some (.slice ax ss.length cx)∧W.cell? ⟨w.heap.size,0,none⟩=some (.slice a ss.length cap):=fun W hW =>
    ⟨cell_of_row W p6 0 _ _ _ ((hW.block _ (ah r9)).trans r9),cell_of_row W w.heap.size 0 _ _ _ ((hW.block _ (ah b9)).trans b9)⟩
   have hxd:Ext w9 w9.drew:=⟨rfl,rfl,rfl,Nat.le_refl _,fun _ _=>rfl⟩
   refine fZ (fun W=>W.cell? ⟨p6,0,none⟩=some (.slice ax ss.length cx)∧W.cell? ⟨w.heap.size,0,none⟩=some (.slice a ss.length cap)) [4] (by kernel_rfl) (hSx _ hxd) (fun hHeld=>?_)
   ((refine tkA (i:=0) hHeld ?_);(try simp only[nP]);(refine tkA (i:=1) hHeld ?_);(try simp only[nP]))
   (refine stA (i:=2) fun K hK=>?_;go_simp)
   refine(nI _ ss _ (hv.ext (aa hE9 hxd)) hu1).mono ?_
   rintro e w10 ⟨vy,rfl,hoy,uG⟩
   obtain⟨ay,cy,rfl,-⟩:=az hoy
   have hxx:=aa hxd uG
   have hHeld:=hSx _ hxx
   refine hK.out _ _ (fun _=>hHeld) ?_
   clear hK K
   (try simp only[nP])
   (refine stA (i:=3) fun K hK=>?_;go_simp)
   refine(Ed _ _ ss _ ((Strs.bG Lv (by omega)).ext hxx) (Strs.bG hoy (by omega))).mono ?_
   rintro e w11 ⟨rfl,PE⟩
   have nK:=aa hxx PE
   have hHeld:=hSx _ nK
   refine hK.out _ _ (fun _=>hHeld) ?_
   clear hK K
   (try simp only[nP])
   refine tlA [4] [_] ?_
   have xO:=aa hE9 nK
   have b11:=(nK.block _ (ah b9)).trans b9
   have q11:=(nK.block _ (ah q9)).trans q9
   have r11:=(nK.block _ (ah r9)).trans r9
   have s11:=(nK.block _ (ah s9)).trans s9
   have NL:=Qw.ext nK
   have NC:=aJ Lv nK
   have NQ:=QI.ext nK
   have hb6:∀ b,Value.ownBlock (.slice ax ss.length cx)=some b→W4.heap.size≤b∧b<p6:=R3
   clear nK hxx PE uG hoy hE9 b9 q9 r9 s9 Qw Lv QI hSx hHeld
   have c60:=cell_of_row w11 p6 0 _ _ _ r11
   go_upto_region 14 with (go_at_call 13;refine(Ba _ ss 1 _ _ NC (by omega)).mono ?_;rintro e w12 ⟨rfl,pQ⟩)
   have QK:Ext w w12:=⟨pQ.os.trans xO.os,pQ.tape.trans xO.tape,pQ.output.trans xO.output,Nat.le_trans xO.size pQ.size,fun k hk=>(pQ.block k (Nat.lt_of_lt_of_le hk xO.size) (fun e=>by have:=(hb6 k e).1;omega)).trans (xO.block k hk)⟩
   have b12:=(pQ.block _ (ah b11) (fun e=>by have:=(hb6 _ e).1;have:=ah b11;omega)).trans b11
   have q12:=(pQ.block _ (ah q11) (fun e=>by have:=(hb6 _ e).1;omega)).trans q11
   have s12:=(pQ.block _ (ah s11) (fun e=>by have:=(hb6 _ e).2;omega)).trans s11
   have GK:=NL.keep pQ (fun b hb e=>by have:=(hb6 b e).1;omega)
   have GR:=NQ.qw pQ (fun b e=>by have:=(hb6 b e).2;omega)
   have NM:bP w12 0 (.slice aG (List.length FG) cG) FG:=GR.nodes (fun j hj=>by have:=hlists j hj;omega) (by omega)
   have d4:=cell_of_row w12 p4 0 _ _ _ q12
   have d7:=cell_of_row w12 p7 0 _ _ _ s12
   have hkk:¬ ((1:Int)+ss.length<0):=by omega
   clear pQ xO b11 q11 r11 s11 NL NC NQ c60
   go_upto_region 17 with (go_at_call 11;refine(sU _ _ FG _ NM GK.out).mono ?_;rintro e w13 ⟨rfl,xy⟩)
   have qV:=aa QK xy
   have b13:=(xy.block _ (ah b12)).trans b12
   have q13:=(xy.block _ (ah q12)).trans q12
   have s13:=(xy.block _ (ah s12)).trans s12
   have NK:=GK.ext xy
   have NP:=GR.ext xy
   have d7b:=cell_of_row w13 p7 0 _ _ _ s13
   have hcnt:df (iJ FG) (2*FG.length)≤1000000000:=by have:=JQ (ls:=iJ FG) (n:=2*FG.length) hlists;omega
   have hcp:=j6 (iJ FG) (2*FG.length)
   have hne:(df (iJ FG) (2*FG.length) != df (iJ FG) (2*FG.length))=false:=by simp
   clear d4 d7 xy QK b12 q12 s12 GK GR NM
   go_upto_region 18 with (go_at_call 14;refine(Cf _ FG.length _ sl (iJ FG) _ NP (by omega) hcnt).mono ?_;rintro e w14 ⟨rfl,GQ,qU⟩)
   have QJ:Ext w w14:=⟨qU.os.trans qV.os,qU.tape.trans qV.tape,qU.output.trans qV.output,Nat.le_trans qV.size qU.size,fun k hk=>(qU.block k (Nat.lt_of_lt_of_le hk qV.size) (fun e=>by have:=(hL7 k e).1;omega)).trans (qV.block k hk)⟩
   have b14:=(qU.block _ (ah b13) (fun e=>by have:=(hL7 _ e).1;omega)).trans b13
   have q14:=(qU.block _ (ah q13) (fun e=>by have:=(hL7 _ e).1;omega)).trans q13
   have s14:=(qU.block _ (ah s13) (fun e=>by have:=(hL7 _ e).2;omega)).trans s13
   have NJ:=NK.keep qU (fun b hb e=>by have:=(hL7 b e).1;omega)
   have d7c:=cell_of_row w14 p7 0 _ _ _ s14
   clear d7b qU qV b13 q13 s13 NK NP
   go_upto_region 24 with (go_at_call 15;refine(uM _ FG.length _ sl (iJ FG) _ GQ (by omega) hcnt).mono ?_;rintro e w15 ⟨rfl,xx⟩)
   have GU:=aa QJ xx
   have b15:=(xx.block _ (ah b14)).trans b14
   have q15:=(xx.block _ (ah q14)).trans q14
   have s15:=(xx.block _ (ah s14)).trans s14
   have NI:=NJ.ext xx
   have NN:=GQ.ext xx
   have e0:=cell_of_row w15 w.heap.size 0 _ _ _ b15
   clear d7c xx QJ b14 q14 s14 NJ GQ
   go_upto_region 25 with (first
    | (go_at_call 9;refine(nI _ ss _ (hv.ext GU) hu1).mono ?_;rintro e w16 ⟨vz,rfl,hoz,hx16⟩)
    | (go_at_call 10;refine(HI _ ss _ (aa GU hx16) (Strs.bG hoz (by omega)) hu1 hu2).mono ?_;rintro e w17 ⟨vH,FH,okH,slH,rfl,hRH,hFH,PD⟩;obtain⟨aH,cH,rfl⟩:=hFH.top))
   obtain⟨hfe,hoe⟩:=hRH.unique hRG
   subst hfe
   subst hoe
   have Lj:Ext w17 (w17.alloc (.cells #[.slice aH (List.length FH) cH] 28)):=by go_grown
   have RO:=heap_alloc_new w17 (.cells #[.slice aH (List.length FH) cH] 28)
   have hxx:=aa (aa hx16 PD) Lj
   have TM:=aa GU hxx
   have q18:=(hxx.block _ (ah q15)).trans q15
   have s18:=(hxx.block _ (ah s15)).trans s15
   have Ru:=NI.ext hxx
   have Rw:=NN.ext hxx
   have Rv:bP (w17.alloc (.cells #[.slice aH (List.length FH) cH] 28)) 0 (.slice aH (List.length FH) cH) FH:=(hFH.ext Lj).nodes (fun j hj=>by have:=hlists j hj;omega) (by omega)
   generalize w17.alloc (.cells #[.slice aH (List.length FH) cH] 28)=W18 at *
   generalize w17.heap.size=p12 at *
   have d4:=cell_of_row W18 p4 0 _ _ _ q18
   have d12:=cell_of_row W18 p12 0 _ _ _ RO
   clear e0 hx16 PD Lj hxx GU b15 q15 s15 NI NN
   go_upto_region 28 with (go_at_call 11;refine(sU _ _ FH _ Rv Ru.out).mono ?_;rintro e w19 ⟨rfl,Li⟩)
   have s19:=(Li.block _ (ah s18)).trans s18
   have d7:=cell_of_row w19 p7 0 _ _ _ s19
   go_wp2_with (go_at_call 15;refine(uM _ FH.length _ sl (iJ FH) _ (Rw.ext Li) (by omega) hcnt).mono ?_;rintro e w20 ⟨rfl,R7⟩)
   go_ret
   exact⟨rfl,aa (aa TM Li) R7⟩
end
section
open Go.RowKit Go.ChangeShapes Go.WideShapes Go.ChangeAt
theorem OP:(prog).cellsOf 24=1:=by kernel_rfl
theorem OO:(prog).cellsOf 22=1:=by kernel_rfl
theorem Un:(prog).cellsOf 9=1:=by kernel_rfl
theorem Oa {w:World} {a:Addr} {zs:List ByteArray} (h:∀ i,i<zs.length→w.cell? (a.add i)=some (.string (zs.getD i ByteArray.empty))) (hp:0<zs.length) :
 ∃ b off,a=⟨b,off,none⟩∧∀ j,j<zs.length→w.cell? ⟨b,off+j,none⟩=some (.string (zs.getD j ByteArray.empty)):=by
 obtain⟨b,off,spot⟩:=a
 have hspot:spot=none:=by simpa [Addr.add] using World.cell?_spot (h 0 hp)
 subst hspot
 exact⟨b,off,rfl,fun j hj=>by rw[← Go.WideShapes.add_plain];exact h j hj⟩
theorem Hq {H:Type} {enc:TypeId × Value→H} {W:World} {b0:Nat} {v:Value} {d:DataW H} {p:List MemPlace} (hv:Value.okWide prog W .any b0 24 v) (h:DataW.Trod enc prog W 0 (fun _=>true) true 24 v d p) :
 ∃ (vs:Value) (ss:List ByteArray),v=.agg #[vs]∧(∀ s,s∈ss→s.size≤maxLen)∧((DataW.weightsEach prog [24] [d]).all (·≤reachBytes)=true→Strs W vs ss):=by
 obtain⟨cs,rfl,hsz⟩:=okWide_struct underlying24 hv
 rw[OP] at hsz
 obtain⟨l⟩:=cs
 match l,hsz with
 | [c0],_ =>
 obtain⟨fuel,hf⟩:=h
 obtain⟨y0,m,hx,_,hy0⟩:=trod_struct1 underlying24 hf
 simp only[Prod.mk.injEq] at hx
 obtain⟨rfl,rfl⟩:=hx
 have hy0':DataW.trod enc prog W 0 (fun _=>true) true m 22 [c0]=some y0:=by simpa [Value.cells,OO] using hy0
 rcases open_strings underlying22 underlying9 (by kernel_rfl) hy0' with ⟨hcs,hx0⟩ | ⟨a,len,cap,zs,hcs,hb,hl,hm,hz,hx0,hcell,hsz2⟩
 · simp only[List.cons.injEq,and_true] at hcs
   subst hcs
   exact⟨_,[],rfl,fun s hs=>absurd hs (by simp),fun _=>gH.nil _ _ _⟩
 · simp only[List.cons.injEq,and_true] at hcs
   subst hcs
   simp only[if_true] at hz
   refine⟨_,zs.take len,rfl,fun s hs=>hsz2 s (List.mem_of_mem_take hs),fun hw=>?_⟩
   have hzl:(zs.take len).length=len:=by rw[List.length_take];omega
   have hlen:len*16≤reachBytes:=by
    have h1:(DataW.weightsEach prog [22] [y0.1]).all (·≤reachBytes)=true:=by
     have e:DataW.weightsEach prog [24] [DataW.agg [y0.1]]=DataW.weightsEach prog [22] [y0.1]:=by
      simp[DataW.weightsEach,DataW.weights,underlying24]
     rw[← e];exact hw
    rw[hx0] at h1
    have h2:=Go.sized_slice h1 (j:=0) rfl rfl underlying22
    have h3:(prog).bytesOf 9=16:=by kernel_rfl
    rw[h3] at h2
    have h4:(strs (zs.take len):List (DataW H)).length=len:=by simp[strs];omega
    rw[h4] at h2
    omega
   have hr:reachBytes=140737488351232:=rfl
   refine⟨some a,cap,by rw[List.length_map,hzl],by rw[List.length_map];omega,by rw[List.length_map];omega,fun h0=>?_⟩
   rw[List.length_map] at h0
   obtain⟨b,off,rfl,hc⟩:=Oa hcell (by omega)
   refine⟨b,off,rfl,fun i hi=>?_⟩
   rw[List.length_map] at hi
   rw[hc i (by omega)]
   have:i<zs.length:=by omega
   have h2:i<len:=by omega
   simp[List.getD,this]
theorem Fu {W:World} (h:W.ShapedOpen prog):∃ m,W.cell? ⟨0,0,none⟩=some (.int .i64 m):=Tryz.Ci.s1_3 W h
theorem Ee (v:Value) (ss:List ByteArray) (w:World) (hv:Strs w v ss) (hs:∀ s,s∈ss→s.size≤9223372036854775807) (hS:w.ShapedOpen prog) :
 Calls prog 3 #[.agg #[v]] w fun e w'=>e=.returned (.bool true)∧Ext w w':=by
 obtain⟨m,hm⟩:=Fu hS
 exact Jk v ss w hv hs fun v ss W hx hv hl hs=>zA v ss m W hv hl hs ((hx.cell (lt_of_cell hm)).trans hm)
end
section
open Go.ChangeShapes Go.WideShapes Go.ChangeAt Go.RowKit
theorem RQ:ownKnob prog.godebug=none:=by kernel_rfl
theorem MH (os:Os) (args:Array Value):laidMetH prog Rows.fnExactDominoValueRow.laid ((World.laidAll prog os Rows.fnExactDominoValueRow.laid).forCall (fun _ _=>0) ⟨#[],args,[]⟩).memory:=by
 rw[MakeChecks.laidMetH_plain _ _ _ (by kernel_rfl)]
 exact laidMet_laidAll args (by kernel_rfl) (by kernel_rfl)
theorem lifted (os:Os) (started:os.Started) (H:Type) (enc:TypeId × Value→H) :
 ReturnsInHanded {} Tryz.checked os 3 .any (fun w args=>(Rows.fnExactDominoValueSpec.pre enc prog Tryz.f3 [] false w args∧laidMetH prog Rows.fnExactDominoValueRow.laid w)∧sizedMet enc prog Tryz.f3 (OpenSpec.ofChange Rows.fnExactDominoValueSpec) false w args)
  (Rows.fnExactDominoValueSpec.post enc prog Tryz.f3 false true false false):=by
 refine DW (C:=Tryz.checked) (X:=fun w _=>laidMetH prog Rows.fnExactDominoValueRow.laid w) (fun _ _ _ hh h=>h.of_heap hh) RQ started (by kernel_rfl) Tryz.func3
  (ChangeSpec.witness_shaped (enc:=enc) (C:=Tryz.checked) (os:=os) (X:=fun w _=>laidMetH prog Rows.fnExactDominoValueRow.laid w) false (World.laidAll prog os Rows.fnExactDominoValueRow.laid) #[.agg #[.slice none 0 0]] 8 (World.laidAll_os _ _ _) (World.shaped_of_ZipB (by kernel_rfl) (by kernel_rfl)) (by kernel_rfl) (by kernel_rfl) (by kernel_rfl) (MH os _)) ?_
 intro W base args ds gs before hval0 hW _ hwt hL hS _
 have hval:∀ (j:Nat) t v,Tryz.f3.params[j]?=some t→args[j]?=some v→Value.okWide prog W .any base t v:=hval0
 have hW':=hW
 obtain⟨p,q,hA0,hV,rfl,hfz,hnd⟩:=hW
 have hA:DataW.TrodAll enc prog W 0 (fun _=>true) true Tryz.f3.params.toList args.toList ds p:=hA0
 rw[Tryz.params3] at hA hval
 obtain⟨v0,d0,rfl,rfl,h0⟩:=trodAll_one hA
 obtain⟨rfl,rfl⟩:=trodVars_none hV
 obtain⟨vs,ss,rfl,hsb,hI⟩:=Hq (hval 0 24 v0 rfl rfl) h0
 have R8:(DataW.weightsEach prog [24] [d0]).all (·≤reachBytes)=true:=by
  have h:=hwt
  rw[show Tryz.f3.params=_ from Tryz.params3] at h
  exact h
 refine(Ee vs ss W (hI R8) (fun s hs=>by have:=hsb s hs;simpa [maxLen] using this) hS).mono fun e W' ⟨he,hx⟩=>?_
 subst he
 have hlt:∀ x∈p,x.block<W.heap.size:=fun x hm=>by simpa using hW'.lt x (by simp[hm])
 refine⟨_,rfl,_,_,_,[],p,[],hW',trodAll_mk1 (shut_bool underlying4 _),?_,?_,hx.frame _,fun h=>by cases h⟩
 · exact trodAll_mk1 (Below.trod Ns (by kernel_rfl) (of_decide_eq_true (by kernel_rfl)) h0 hx hlt)
 · exact rfl
end
section
open Go
theorem IM:Rows.FnExactDominoValueSaid :=
 OpenClaim.holds_of_wide 3 Tryz.f3 rfl rfl rfl rfl rfl rfl rfl ⟨rfl,rfl,rfl,rfl,rfl⟩ rfl rfl rfl rfl rfl (by kernel_rfl) Tryz.func3 (by kernel_rfl)
  (of_decide_eq_true (by kernel_rfl)) (by unfold Func.isWrapper;first | (rw[if_pos (by decide +kernel)];kernel_rfl) | (rw[if_neg (by decide +kernel)];exact⟨rfl,rfl⟩))
  (fun os started H enc _=>lifted os started H enc)
end
section
open Go
theorem card_holds:Rows.FnExactDominoValueCardSaid :=
 Claim7.holds_tied_plain_at .later [] [.data,.data,.data,.data,.pinned] true (true, "d903891bc9bf13b6bd5c63b9627002bcf821bd46ec0d285e56a1a23fcdfcee16") false
  IM (fun _ h=>by cases h) (by kernel_rfl) (fun _ h=>by cases h) fnExactDominoValue_row_tie rfl ⟨rfl,rfl⟩ (by kernel_rfl) rfl
  (fun f fn hf hfn=>by
   obtain rfl:f=3:=Option.some.inj ((show prog.funcNamed "loop.example/g00868/laws.FnExactDominoValue"=some 3 by kernel_rfl).symm.trans hf) |>.symm
   obtain rfl:fn=Tryz.f3:=(Option.some.inj (Tryz.func3.symm.trans hfn)).symm
   exact⟨by kernel_rfl,fun j t ht=>by
    rw[Tryz.params3] at ht
    have hm:t∈[24]:=by simpa using Array.mem_of_getElem? ht
    have hall:([24].all fun u=>!prog.wantsStandIn u)=true:=by kernel_rfl
    exact(show prog.wantsStandIn t=false by simpa using List.all_eq_true.1 hall t hm)⟩)
  (by kernel_rfl)
#print axioms card_holds
end
end Go.Proofs.YteknjeohbcgpdaaGreatDoor