/-
  Contract of the reference's book of boards: part, given value at fewer cells.
-/
import Derived.Test.YteknjeohbcgpdaaGreatDoorZ24
import Derived.Test.YteknjeohbcgpdaaGreatDoorZ25
import Derived.Test.YteknjeohbcgpdaaGreatDoorZ26
import Derived.Test.YteknjeohbcgpdaaGreatDoorZ41
import Derived.Lib.SlicesS
set_option maxRecDepth 100000
namespace Go.Proofs.YteknjeohbcgpdaaGreatDoor
open Tryz
open Go.RowKit
open Cgt (Dag Nd vl Same Gm Canon Eqv Ge Brd GB bD fr gB bS kB bV)
theorem Eb:(prog.info? 9).map (fun i=>(i.zero,i.size,i.bytes))=some (some (.string ⟨#[]⟩),1,16):=by kernel_rfl
theorem Jt:(prog.info? 28).map (fun i=>(i.zero,i.size,i.bytes))=some (some (.agg #[.slice none 0 0]),1,24):=by kernel_rfl
def Ke (b:Brd) (c px:Nat) (vt vf:Value) (S:Nat→Prop) (L:List (ByteArray × Dag)) (w:World) (e:Ending) (w':World):Prop :=
 ∃ vN F vt' vf' S' L',e=.returned (.agg #[vN])∧Sup S' (fun W=>bP W 0 vN F) w'∧dU F (gB (fr b))∧F.length≤kB (bS b)∧TB w' px vt' vf' S' L'∧TG w w' px vt vf S vt' vf' S'∧L'.length≤L.length+c
def VOk (m:Nat):Prop:=∀ (ss:List ByteArray) (hh ww:Nat) (vu:Value) (px:Nat) (vt vf:Value) (S:Nat→Prop) (L:List (ByteArray × Dag)) (w:World),bS (bd ss)≤m→bS (bd ss)≤9→GB (bd ss) hh ww→Sup (Ii w px vt vf) (fun W=>Strs W vu ss) w→TB w px vt vf S L→L.length+kB (bS (bd ss))≤1000000 →
 Calls prog 38 #[.pointer (some ⟨px,0,none⟩),.agg #[vu]] w (Ke (bd ss) (kC (bS (bd ss))) px vt vf S L w)
def POk (m:Nat):Prop:=∀ (ss:List ByteArray) (hh ww:Nat) (vu:Value) (px:Nat) (vt vf:Value) (S:Nat→Prop) (L:List (ByteArray × Dag)) (w:World),bS (bd ss)≤m→bS (bd ss)≤9→GB (bd ss) hh ww→Sup (Ii w px vt vf) (fun W=>Strs W vu ss) w→TB w px vt vf S L→L.length+kB (bS (bd ss))≤1000000 →
 Calls prog 77 #[.pointer (some ⟨px,0,none⟩),.agg #[vu]] w (Ke (bd ss) (kB (bS (bd ss))) px vt vf S L w)
theorem Ot {m n k:Nat} (hm:m+1≤2*n) (h2:2≤n) (hk:k≤kB (n-2)):m*kB (n-2)+k+1≤kB n:=by
 obtain⟨q,rfl⟩:∃ q,n=q+2:=⟨n-2,by omega⟩
 rw[Nat.add_sub_cancel] at hk ⊢
 have:=Nat.mul_le_mul_right (kB q) hm
 rw[Nat.add_mul] at this
 rw[kB];omega
theorem Pq {m n l r:Nat} (hl:l≤n) (hr:r≤n) (h0:n<2→l=0∧r=0) (hm:m=l+r):m*kB (n-2)+1≤kB n:=by
 subst hm;exact EP hl hr h0 (Nat.le_refl _)
set_option maxHeartbeats 4000000 in
theorem I7 (m:Nat) (ih:∀ k,k<m→VOk k):POk m:=by
 intro ss hh ww vu px vt vf S L w hm hn9 g hv hB hroom
 obtain⟨i0,hi0,hz0',hz1,hz2⟩:=info_parts Jt
 obtain⟨i1,hi1,hy0,hy1,hy2⟩:=info_parts Eb
 obtain⟨au,kg,rfl,hlc,hcap⟩:=hv.out.open
 have hk9:=Cgt.kB_9 hn9
 have hcl0:=sG g true
 have oo:=sG g false
 have HC0:=Hd_ (And.intro hcl0 (And.intro oo (And.intro (fun h=>ql g true h) (fun h=>ql g false h))))
 have HN9:=Hd_ hn9
 obtain⟨nB,hnB⟩:∃ nB,nB=bS (bd ss):=⟨_,rfl⟩
 rw[← hnB] at hm hroom hk9 HC0 HN9
 clear hcl0 oo hn9
 go_enter Tryz.func77,Tryz.ntmps77
 go_upto_region 1 with fail
 have hxe:Ext w ((w.alloc (.cells #[.slice au ss.length kg] 31)).alloc (.cells #[.slice none 0 0] 28)):=by go_grown
 have hbx:((w.alloc (.cells #[.slice au ss.length kg] 31)).alloc (.cells #[.slice none 0 0] 28)).heap[w.heap.size]?=some (.cells #[.slice au ss.length kg] 31 (0,0)):=by
  rw[Below.heap_alloc _ _ _ (by simp)];exact heap_alloc_new _ _
 have hrs:((w.alloc (.cells #[.slice au ss.length kg] 31)).alloc (.cells #[.slice none 0 0] 28)).heap[w.heap.size+1]?=some (.cells #[.slice none 0 0] 28 (0,0)):=by
  have h:=heap_alloc_new (w.alloc (.cells #[.slice au ss.length kg] 31)) (.cells #[.slice none 0 0] 28);rw[sA_] at h;exact h
 generalize (w.alloc (.cells #[.slice au ss.length kg] 31)).alloc (.cells #[.slice none 0 0] 28)=We at *
 have c0:=cell_of_row We w.heap.size 0 _ _ _ hbx
 go_upto_region 3 with (go_at_call 128;refine(D8 _ ss hh ww _ (hv.ext hxe).out g).mono ?_;rintro e W0 ⟨tb,rfl,htb,hxt⟩)
 replace hbx:=(hxt.block _ (ah hbx)).trans hbx
 replace hrs:=(hxt.block _ (ah hrs)).trans hrs
 replace hxe:=aa hxe hxt
 have HT3:=Hd_ htb
 clear hxt htb c0
 have HZW:=Hd_ (show w.heap.size+2≤W0.heap.size by have:=ah hrs;omega)
 have hB0:=hB.ext hxe
 have hv0:=hv.ext hxe
 have hcx:=cell_of_row W0 px 0 _ _ _ hB0.cells
 have hcy:=cell_of_row W0 px 1 _ _ _ hB0.cells
 obtain⟨aT,cT,rfl,hcT,Qc⟩:=az hB0.texts
 obtain⟨xsF,hoF,hiF⟩:=hB.forms
 have hoF:=aJ hoF hxe
 obtain⟨aF,cF,rfl,hcF,Qd⟩:=az hoF
 go_loop [6] (fun ii=>∃ q,q≤L.length∧ii=.int .i64 ((q:Nat):Int)∧Hid (∀ j (h:j<L.length),j<q→(L[j]).1≠tb)) (fun ii=>L.length-(intOf ii).toNat)
 case atStart=>exact⟨0,Nat.zero_le _,rfl,fun j _ h=>absurd h (by omega)⟩
 case round =>
  obtain⟨q,hq,rfl,HN⟩:=hrel
  by_cases hlt2:q<L.length
  · have h2:((q:Nat):Int)<(L.length:Int):=by omega
    obtain⟨gT,cT',he,-,-,JB⟩:=dC hB0.texts (by omega)
    simp only[Value.slice.injEq] at he
    obtain⟨rfl,-,rfl⟩:=he
    have ct:=JB q (by omega)
    rw[List.getElem?_map,List.getElem?_eq_getElem hlt2,Option.map_some] at ct
    clear JB
    by_cases heq:(L[q]).1=tb
    · have U7:((L[q]).1.toList == tb.toList)=true:=(Lib.bytes_beq_iff _ _).2 heq
      obtain⟨b',h',w',g',hx1,-,hV',hl'⟩:=hB0.law _ (List.getElem_mem hlt2)
      have hun:b'=bd ss:=g'.inj g (by rw[← hx1,heq,HT3.out])
      subst hun
      have hlF:(L.map (·.2)).length=L.length:=by simp
      obtain⟨gF,cF',he,-,-,JC⟩:=dC hoF (by omega)
      simp only[Value.slice.injEq] at he
      obtain⟨rfl,-,rfl⟩:=he
      obtain⟨aN,cN,e1,hN1⟩:=hiF.2.out q (by simpa using hlt2)
      have cf:=JC q (by omega)
      rw[BB e1] at cf
      simp only[List.getElem_map] at cf hN1
      have Ny:Sup S (fun W=>bP W 0 (.slice aN (L[q]).2.length cN) (L[q]).2) w:=⟨hiF.2.1,fun w2 h2=>by
       obtain⟨aN',cN',e1',QB⟩:=hiF.2.2 w2 h2 q (by simpa using hlt2)
       rw[e1] at e1'
       simp only[List.getElem_map,List.cons.injEq,Value.slice.injEq,true_and,and_true] at e1' QB
       obtain⟨rfl,rfl⟩:=e1'
       exact QB⟩
      have cr0:=cell_of_row W0 (w.heap.size+1) 0 _ _ _ hrs
      have fr0:=frozen_of_row W0 (w.heap.size+1) 0 _ _ hrs
      have HH:Hid ((W0.setCell ⟨w.heap.size+1,0,none⟩ (.slice aN (L[q]).2.length cN)).heap[w.heap.size+1]?=some (.cells #[.slice aN (L[q]).2.length cN] 28 (0,0))):=heap_setCell_same _ _ _ _ _ _ hrs
      have HV:=Hd_ (And.intro hV' (And.intro hl' Ny))
      have HQ:=Hd_ heq
      clear heq hx1 hV' hl' Ny hN1 e1 JC hlF
      go_wp2
      (try simp only[Exit.inBlock,Exit.then])
      refine bodyPost_ret (results_cell_row rfl _ _ (w.heap.size+1) 28 #[.slice aN (L[q]).2.length cN] (0,0) _ rfl HH.out underlying28 rfl (by kernel_rfl)) rfl ?_
      have hxw:Ext w (W0.setCell ⟨w.heap.size+1,0,none⟩ (.slice aN (L[q]).2.length cN)):=hxe.setCell (p:=⟨w.heap.size+1,0,none⟩) (by show w.heap.size≤w.heap.size+1;omega) _
      exact⟨_,(L[q]).2,_,_,S,L,rfl,HV.out.2.2.ext hxw,HV.out.1,HV.out.2.1,hB.ext hxw,TG.ext hxw,Nat.le_add_right _ _⟩
    · have hne:((L[q]).1.toList == tb.toList)=false:=(Lib.bytes_beq_false_iff _ _).2 heq
      have HQ:=Hd_ heq
      clear heq
      go_wp2
      go_round
      case rel=>exact⟨q+1,by omega,by go_num,fun j hj hjq=>by
       by_cases e:j=q
       · subst e;exact HQ.out
       · exact HN.out j hj (by omega)⟩
      case measure=>simp[intOf];omega
  · have h2:¬ (((q:Nat):Int)<(L.length:Int)):=by omega
    have hqe:q=L.length:=by omega
    go_wp2
    clear hcx hcy h2
    subst hqe
    have hW0:=HZW.out
    obtain⟨f,hf⟩:∃ f:Nat→Value,f=fun p=>if p=0 then .slice (some ⟨W0.heap.size,0,none⟩) 0 0 else .slice (some ⟨W0.heap.size+1,0,none⟩) 0 0:=⟨_,rfl⟩
    have hVM:VM w (((W0.alloc (.cells #[] 28)).alloc (.cells #[] 28)).alloc (.cells #[.slice (some ⟨W0.heap.size,0,none⟩) 0 0,.slice (some ⟨W0.heap.size+1,0,none⟩) 0 0] 47)) px (.slice aT L.length cT) (.slice aF L.length cF) S L (.cells #[.slice au ss.length kg] 31 (0,0)) (fun q=>bV (q == 0) (bd ss) ww hh) (kB (nB-2)) (W0.heap.size+1+1) (.slice aT L.length cT) (.slice aF L.length cF) S L f (fun _=>[]):=by
     have hx3:Ext W0 (((W0.alloc (.cells #[] 28)).alloc (.cells #[] 28)).alloc (.cells #[.slice (some ⟨W0.heap.size,0,none⟩) 0 0,.slice (some ⟨W0.heap.size+1,0,none⟩) 0 0] 47)):=by go_grown
     have hI:∀ b,InS px (.slice aT L.length cT) (.slice aF L.length cF) b→b<w.heap.size:=fun b=>hB.ma
     have hS:∀ b,S b→b<w.heap.size:=fun b=>hB.sLt
     have hf0:f 0=.slice (some ⟨W0.heap.size,0,none⟩) 0 0:=by rw[hf];rfl
     have hf1:f 1=.slice (some ⟨W0.heap.size+1,0,none⟩) 0 0:=by rw[hf];rfl
     have hz3:(((W0.alloc (.cells #[] 28)).alloc (.cells #[] 28)).alloc (.cells #[.slice (some ⟨W0.heap.size,0,none⟩) 0 0,.slice (some ⟨W0.heap.size+1,0,none⟩) 0 0] 47)).heap.size=W0.heap.size+3:=by simp
     have hss:∀ b,SS (W0.heap.size+1+1) f b→w.heap.size+1<b∧b<W0.heap.size+3:=fun b hb=>by
      rcases hb with hb | hb | hb
      · omega
      · rw[hf0] at hb;simp[Value.ownBlock] at hb;omega
      · rw[hf1] at hb;simp[Value.ownBlock] at hb;omega
     refine⟨hB.ext (aa hxe hx3),TG.ext (aa hxe hx3),?_,?_,?_,fun q hq=>⟨[],?_,Items.nil (fun b hb=>by have:=hS b hb;omega)⟩,fun q hq=>?_,fun b hb e=>?_,⟨fun k=>by have:=hI _ k;omega,fun k=>by have:=hS _ k;omega⟩,⟨fun k=>by have:=hI _ k;omega,fun k=>by have:=hS _ k;omega⟩,fun b hb=>⟨fun k=>by have:=hI _ k;have:=hss b hb;omega,fun k=>by have:=hS _ k;have:=hss b hb;omega⟩,fun b hb=>by rw[hz3];exact hss b hb,fun q hq=>jO.nil _ _⟩
     · rw[hx3.block _ (ah hbx)];exact hbx
     · rw[hx3.block _ (ah hrs)];exact hrs
     · rw[hf0,hf1]
       have h:=heap_alloc_new ((W0.alloc (.cells #[] 28)).alloc (.cells #[] 28)) (.cells #[.slice (some ⟨W0.heap.size,0,none⟩) 0 0,.slice (some ⟨W0.heap.size+1,0,none⟩) 0 0] 47)
       rw[sA_,sA_] at h;exact h
     · rcases lt2 hq with rfl | rfl
       · rw[hf0]
         exact((dD W0 w.heap.size (by omega) 28).alloc _).alloc _
       · rw[hf1]
         exact(ig W0 (.cells #[] 28) w.heap.size (by omega) 28).alloc _
     · rcases lt2 hq with rfl | rfl
       · rw[hf0];simp[Value.ownBlock] <;> omega
       · rw[hf1];simp[Value.ownBlock] <;> omega
     · rw[hf0] at hb;rw[hf1] at e;simp[Value.ownBlock] at hb e;omega
    have hsl:Value.slice (some ⟨W0.heap.size+1+1,0,none⟩) 2 2=.slice (some ⟨W0.heap.size+1+1,0,none⟩) 2 2:=rfl
    generalize hWW:((W0.alloc (.cells #[] 28)).alloc (.cells #[] 28)).alloc (.cells #[.slice (some ⟨W0.heap.size,0,none⟩) 0 0,.slice (some ⟨W0.heap.size+1,0,none⟩) 0 0] 47)=W1 at *
    generalize W0.heap.size+1+1=bs at *
    clear hsl hWW hf hW0
    clear hxe hbx hrs hB0 hv0 hcT hcF Qc Qd hoF hiF HN
    generalize hX0:(Obj.cells #[.slice au ss.length kg] 31 (0,0))=X0 at hVM
    generalize Qh:(fun q:Nat=>bV (q == 0) (bd ss) ww hh)=bl at hVM
    generalize P6:kB (nB-2)=kk at hVM
    have HKK:=Hd_ P6
    have HBL:=Hd_ Qh
    clear P6 Qh
    go_loopw [8] (fun si wr=>∃ s vt vf S' L' f Fs,s≤2∧si=.int .i64 ((s:Nat):Int)∧VM w wr px (.slice aT L.length cT) (.slice aF L.length cF) S L X0 bl kk bs vt vf S' L' f Fs∧L'.length≤L.length+((Fs 0).length+(Fs 1).length)*kk∧Hid (∀ q,q<2→(Fs q).length=if q<s then (bl q).length else 0)) (fun si _=>2-(intOf si).toNat)
    case atStart=>exact⟨0,_,_,S,L,f,fun _=>[],by omega,rfl,hVM,by omega,fun q _=>rfl⟩
    case round =>
     clear hVM f
     obtain⟨s,vt,vf,S',L',f,Fs,hs,rfl,hV,hLL,HF⟩:=hrel
     by_cases hlt3:s<2
     · have h3:((s:Nat):Int)<2:=by omega
       have hvr:=(hV.tg.sup hv (fun b hb=>hb.2)).out
       have dI:wr.heap[w.heap.size]?=some (.cells #[.slice au ss.length kg] 31 (0,0)):=by rw[hX0];exact hV.box
       have cb0:=cell_of_row wr w.heap.size 0 _ _ _ dI
       obtain⟨Ts,hTs⟩:∃ Ts,Ts=bV (((s:Nat):Int) == 0) (bd ss) ww hh:=⟨_,rfl⟩
       have HTS:=Hd_ hTs
       clear hTs
       go_wp2_with (go_at_call 129;refine(Cm _ ss hh ww _ _ hvr g).mono ?_;rintro e w1 ⟨vC,rfl,hRT,hx1⟩;rw[← HTS.out] at hRT;have hV1:=hV.ext hx1;obtain⟨xsC,aC,cC,rfl,hcC,Vg,-⟩:=id hRT)
       have hleft:bl s=Ts:=by
        have e1:(((s:Nat):Int) == 0)=(s == 0):=by rcases lt2 hlt3 with rfl | rfl <;> rfl
        rw[HTS.out,e1,← HBL.out]
       have hTd:∀ b,(wr.heap.size≤b∧b<w1.heap.size)→¬ InS px vt vf b∧¬ SS bs f b:=fun b hb=>⟨fun k=>by have:=hV.tb.ma k;omega,fun k=>by have:=(hV.gt b k).2;omega⟩
       have HTL:=Hd_ (show (bl s).length=Ts.length by rw[hleft])
       have HCT:=Hd_ hleft
       have hF0:(Fs s).length=0:=by rw[HF.out s hlt3,if_neg (by omega)]
       clear hleft hV cb0 hvr hx1 dI
       obtain⟨wo,rfl⟩:∃ wo:World,wo=wr:=⟨_,rfl⟩
       go_loopw [10] (fun ii w2=>∃ i vt2 vf2 S2 L2 f2 Fs2,i≤Ts.length∧ii=.int .i64 ((i:Nat):Int)∧VM w w2 px (.slice aT L.length cT) (.slice aF L.length cF) S L X0 bl kk bs vt2 vf2 S2 L2 f2 Fs2∧L2.length≤L.length+((Fs2 0).length+(Fs2 1).length)*kk∧(Fs2 s).length=i∧Hid (∀ q,q<2→q≠s→Fs2 q=Fs q)∧Rows ow 1 (fun b=>wo.heap.size≤b∧b<w1.heap.size) w2 (.slice aC Ts.length cC) Ts∧(∀ b,(wo.heap.size≤b∧b<w1.heap.size)→¬ InS px vt2 vf2 b∧¬ SS bs f2 b)∧w1.heap.size≤w2.heap.size) (fun ii _=>Ts.length-(intOf ii).toNat)
       case atStart=>exact⟨0,vt,vf,S',L',f,Fs,Nat.zero_le _,rfl,hV1,hLL,hF0,fun _ _ _=>rfl,hRT,hTd,Nat.le_refl _⟩
       case round =>
        clear hV1 hRT hTd hF0 hLL
        obtain⟨i,vt2,vf2,S2,L2,f2,Fs2,hi,rfl,hV2,hL2,hFl,HFo,hRT,hTd,UK⟩:=hrel
        obtain⟨w2,rfl⟩:∃ w2:World,w2=wr:=⟨_,rfl⟩
        by_cases LF:i<Ts.length
        · have h4:((i:Nat):Int)<(Ts.length:Int):=by omega
          go_wp2_with fail
          obtain⟨bC,QR,aU,cU,sk,he,hTb,cl,hbd,hIU⟩:=hRT.brd LF
          simp only[Value.slice.injEq] at he
          obtain⟨rfl,-,rfl⟩:=he
          obtain⟨xs,hown,hit⟩:=hV2.row s hlt3
          obtain⟨af,cf,hfs,hcf,_⟩:=az hown
          have cs:∀ W:World,W.heap[bs]?=some (.cells #[f2 0,f2 1] 47 (0,0))→W.cell? ⟨bs,s,none⟩=some (.slice af (Fs2 s).length cf):=fun W hW=>by
           rw[cell_of_row W bs s _ _ _ hW,← hfs];rcases lt2 hlt3 with rfl | rfl <;> rfl
          have Vl:(bl 0).length≤nB∧(bl 1).length≤nB∧(nB<2→(bl 0).length=0∧(bl 1).length=0):=by
           rw[← HBL.out];exact⟨HC0.out.1,HC0.out.2.1,fun h=>⟨HC0.out.2.2.1 h,HC0.out.2.2.2 h⟩⟩
          have htot:(Fs2 0).length+(Fs2 1).length+1≤2*nB∧2≤nB:=by
           have hl:=HTL.out
           rcases lt2 hlt3 with rfl | rfl
           · have e1:=HFo.out 1 (by omega) (by omega);have h0:=HF.out 1 (by omega);rw[e1,h0,hFl];simp;omega
           · have e1:=HFo.out 0 (by omega) (by omega);have h0:=HF.out 0 (by omega);rw[e1,h0,hFl];simp;omega
          have hi8:i≤9:=by
           have:=HN9.out
           have hl:=HTL.out
           rcases lt2 hlt3 with rfl | rfl <;> omega
          have Qo:Ts=bV (s == 0) (bd ss) ww hh:=by rw[← HCT.out,← HBL.out]
          have hmem:bd sk∈Ts:=by rw[hbd];exact List.getElem_mem LF
          rw[Qo] at hmem
          obtain⟨g',hl'⟩:=om g hmem
          rw[← hnB] at hl'
          have he1:(bl s)[(Fs2 s).length]?=some (bd sk):=by rw[hFl,HCT.out,hbd];exact List.getElem?_eq_getElem LF
          have hck:bS (bd sk)=nB-2:=by omega
          have hkk:=HKK.out
          have hkr:=Ot (k:=kB (bS (bd sk))) htot.1 htot.2 (by rw[hck];exact Nat.le_refl _)
          have hkm:kC (bS (bd sk))≤kk:=by rw[← hkk,← hck];exact Nu _
          rw[hkk] at hkr
          have UZ:kB (bS (bd sk))=kk:=by rw[hck,hkk]
          clear hkk
          have hx0:Ext w2 w2.drew:=⟨rfl,rfl,rfl,Nat.le_refl _,fun _ _=>rfl⟩
          have hVd:=hV2.ext hx0
          have Gl:=aJ hown hx0
          have P9:=hit.ext hx0
          rw[hfs,hFl] at Gl
          have QD:Sup (Ii w2.drew px vt2 vf2) (fun W=>Strs W (.slice aU (List.length sk) cU) sk) w2.drew:=(hIU.ext hx0).mono (fun b hb=>⟨(hIU.ext hx0).1 b hb,(hTd b hb).1⟩) (fun b hb=>hb.1) (fun _ h=>h)
          have hzT:∀ W:World,(∀ b,(wo.heap.size≤b∧b<w1.heap.size)→W.heap[b]?=w2.heap[b]?)→W.cell? ⟨bC,i,none⟩=some (.slice aU (List.length sk) cU):=fun W hW=>by
           have e:=hW bC hTb
           rw[World.cell?_of_block (w:=w2) e];exact cl
          have hS0:w2.cell? ⟨bs,s,none⟩=some (.slice af i cf)∧w2.cell? ⟨bC,i,none⟩=some (.slice aU (List.length sk) cU):=⟨by rw[cs _ hV2.blk,hFl],hzT w2 (fun _ _=>rfl)⟩
          rw[hFl] at cs
          rw[hFl] at he1
          have HE1:=Hd_ he1
          have HFL:=Hd_ hFl
          have HFS:=Hd_ hfs
          clear he1 hFl hfs cl hbd hmem Qo
          refine fZ (fun W=>W.cell? ⟨bs,s,none⟩=some (.slice af i cf)∧W.cell? ⟨bC,i,none⟩=some (.slice aU (List.length sk) cU)) [14,15] (by kernel_rfl) hS0 (fun hHeld=>?_)
          ((refine tkA (i:=0) hHeld ?_);(try simp only[nP]);(refine tkA (i:=1) hHeld ?_);(try simp only[nP]);(refine tkA (i:=2) hHeld ?_);(try simp only[nP]);(refine tkA (i:=3) hHeld ?_);(try simp only[nP]);(refine tkA (i:=4) hHeld ?_);(try simp only[nP]);(refine tkA (i:=5) hHeld ?_);(try simp only[nP]);(refine tkA (i:=6) hHeld ?_);(try simp only[nP]);(refine tkA (i:=7) hHeld ?_);(try simp only[nP]);(refine tkA (i:=8) hHeld ?_);(try simp only[nP]);(refine tkA (i:=9) hHeld ?_);(try simp only[nP]);(refine tkA (i:=10) hHeld ?_);(try simp only[nP]))
          (refine stA (i:=11) fun K hK=>?_;go_simp)
          refine(ih (bS (bd sk)) (by omega) sk hh ww _ px vt2 vf2 S2 L2 _ (Nat.le_refl _) (by have:=HN9.out;omega) g' QD hVd.tb (by omega)).mono ?_
          rintro en w3 ⟨vN,F,vt3,vf3,S3,L3,rfl,hsN,hTV,hFk,hB3,hG3,hL3⟩
          obtain⟨aN,cN,rfl⟩:=hsN.out.slice
          have hV3:=hVd.go hB3 hG3
          have hT3:∀ b,(wo.heap.size≤b∧b<w1.heap.size)→w3.heap[b]?=w2.heap[b]?:=fun b hb=>hG3.block (w:=w2.drew) (by show b<w2.heap.size;omega) (hTd b hb).1
          have Qs:=(hRT.ext hx0).keep hG3.keep (fun b hb=>(hTd b hb).1)
          obtain⟨hown3,hit3⟩:=hVd.Re hB3 hG3 hlt3 (by rw[HFS.out,HFL.out];exact Gl) P9
          rw[HFS.out,HFL.out] at hown3
          have Ty:∀ b,(wo.heap.size≤b∧b<w1.heap.size)→¬ InS px vt3 vf3 b:=fun b hb k=>by
           rcases hG3.ins b k with k | k
           · exact(hTd b hb).1 k
           · have:w2.drew.heap.size=w2.heap.size:=rfl;omega
          (refine hK.out _ _ (fun _=>?_) ?_)
          · exact⟨cs _ hV3.blk,hzT _ hT3⟩
          clear hK K
          (try simp only[nP])
          (refine stA (i:=12) fun K hK=>?_;go_simp)
          have hx4:Ext w3 (w3.alloc (.cells #[.slice aN F.length cN] 28)):=by go_grown
          have hV4:=hV3.ext hx4
          have hT4:∀ b,(wo.heap.size≤b∧b<w1.heap.size)→(w3.alloc (.cells #[.slice aN F.length cN] 28)).heap[b]?=w2.heap[b]?:=fun b hb=>by
           have hz3:=hG3.keep.size
           have:w2.drew.heap.size=w2.heap.size:=rfl
           rw[hx4.block b (by omega)];exact hT3 b hb
          (refine hK.out _ _ (fun _=>?_) ?_)
          · exact⟨cs _ hV4.blk,hzT _ hT4⟩
          clear hK K
          (try simp only[nP])
          refine stA (i:=13) fun K hK=>?_
          refine bO rfl (.tmp 61) (.tmp 68) 47 rfl w.heap.size 28 i0 (.agg #[.slice none 0 0]) 1 24 underlying47 hi0 hz0' hz1 hz2 rfl (by decide) (.slice af i cf) i xs rfl (aJ hown3 hx4) _ 1 _ [.slice aN F.length cN] rfl rfl (.inr ⟨_,rfl,bq (aO _ _ _)⟩) (by intro u hu;simp at hu;subst hu;rfl) (by unfold maxLen;omega) (by omega) (by have:=hV4.tg.keep.size;exact this) ?_
          intro v5 w5 ho5 hg5 hl5
          obtain⟨a5,c5,rfl,-⟩:=az ho5
          have hap:Value.ownBlock (.slice af i cf)≠some bs:=by have:=hV3.ap s hlt3;rw[HFS.out,HFL.out] at this;exact this
          have hss:∀ b,Value.ownBlock (.slice af i cf)=some b→SS bs f2 b:=fun b hb=>SS.of hlt3 (by rw[HFS.out,HFL.out];exact hb)
          have hz4:=hx4.size
          have hz3:=hG3.keep.size
          have hz2:w2.drew.heap.size=w2.heap.size:=rfl
          have hb5:w5.heap[bs]?=some (.cells #[f2 0,f2 1] 47 (0,0)):=by
           rw[hg5.block bs (ah hV4.blk) (fun e=>hap e.symm)];exact hV4.blk
          have hT5:∀ b,(wo.heap.size≤b∧b<w1.heap.size)→w5.heap[b]?=w2.heap[b]?:=fun b hb=>by
           rw[hg5.block b (by omega) (fun e=>(hTd b hb).2 (hss b e.symm))];exact hT4 b hb
          have cbs:=cs _ hb5
          have fbs:=frozen_of_row w5 bs s _ _ hb5
          have hFR:Sup S3 (fun W=>lg W [.slice aN F.length cN] F) w3:=hsN.mono (fun _ h=>h) hsN.1 (fun W h=>⟨aN,cN,rfl,h⟩)
          have hP:=hV3.push hlt3 (v5:=.slice a5 (i+1) c5) (e:=bd sk) hit3 hFR (by rw[HFL.out];exact ho5) (by rw[HFS.out,HFL.out];exact hg5) (by rw[HFS.out,HFL.out];exact hl5) (by rw[HFL.out];exact HE1.out) hTV (by omega)
          have Qr:Rows ow 1 (fun b=>wo.heap.size≤b∧b<w1.heap.size) (w5.setCell ⟨bs,s,none⟩ (.slice a5 (i+1) c5)) (.slice (some ⟨bC,0,none⟩) Ts.length cC) Ts:=by
           refine Qs.keep (G:=SS bs f2) ⟨hg5.os,hg5.tape,hg5.output,by have:=hg5.size;rw[World.size_setCell];omega,fun k hk hn=>?_⟩ (fun b hb=>(hTd b hb).2)
           rw[heap_setCell_other _ _ _ _ (fun e=>hn (.inl e)),hg5.block k (by omega) (fun e=>hn (hss k e.symm)),hx4.block k hk]
          have Qp:∀ b,(wo.heap.size≤b∧b<w1.heap.size)→¬ InS px vt3 vf3 b∧¬ SS bs (fun p=>if p=s then .slice a5 (i+1) c5 else f2 p) b:=fun b hb=>⟨Ty b hb,fun k=>by
           rcases SS.push (wr:=w3.alloc (.cells #[.slice aN F.length cN] 28)) hlt3 (by rw[HFS.out,HFL.out];exact hl5) b k with k | k
           · exact(hTd b hb).2 k
           · omega⟩
          have hz5:w1.heap.size≤(w5.setCell ⟨bs,s,none⟩ (.slice a5 (i+1) c5)).heap.size:=by have:=hg5.size;rw[World.size_setCell];omega
          have hLn:L3.length≤L.length+(((fun p=>if p=s then Fs2 s++[F] else Fs2 p) 0).length+((fun p=>if p=s then Fs2 s++[F] else Fs2 p) 1).length)*kk:=by
           have e:((fun p=>if p=s then Fs2 s++[F] else Fs2 p) 0).length+((fun p=>if p=s then Fs2 s++[F] else Fs2 p) 1).length=(Fs2 0).length+(Fs2 1).length+1:=by
            rcases lt2 hlt3 with rfl | rfl <;> simp <;> omega
           rw[e,Nat.add_mul];omega
          have HR:=Hd_ (And.intro hP (And.intro Qr (And.intro Qp (And.intro hz5 hLn))))
          clear hP Qr Qp hz5 hLn Qs hit3 hown3 hV3 hV4 hVd hT3 hT4 hFR hsN Gl P9 QD hIU
          (refine hK.out _ _ (fun _=>?_) ?_)
          · exact⟨cbs,hzT _ hT5⟩
          clear hK K
          (try simp only[nP])
          refine tlA [14,15] [_,_] ?_
          go_wp2_with fail
          go_roundw
          case rel=>exact⟨i+1,vt3,vf3,S3,L3,_,_,by omega,by go_num,HR.out.1,HR.out.2.2.2.2,by simp[HFL.out],fun q hq hqs=>by simp only[hqs,if_false];exact HFo.out q hq hqs,HR.out.2.1,HR.out.2.2.1,HR.out.2.2.2.1⟩
          case measure=>simp[intOf];omega
        · have h4:¬ (((i:Nat):Int)<(Ts.length:Int)):=by omega
          have HF2:Hid (∀ q,q<2→(Fs2 q).length=if q<s+1 then (bl q).length else 0):=fun q hq=>by
           by_cases c:q=s
           · subst c;rw[if_pos (by omega),hFl,HTL.out];omega
           · rw[HFo.out q hq c,HF.out q hq]
             by_cases d:q<s
             · rw[if_pos d,if_pos (by omega)]
             · rw[if_neg d,if_neg (by omega)]
          clear hFl
          go_wp2
          go_roundw
          case rel=>exact⟨s+1,vt2,vf2,S2,L2,f2,Fs2,by omega,by go_num,hV2,hL2,HF2.out⟩
          case measure=>simp[intOf];omega
     · have h3:¬ (((s:Nat):Int)<2):=by omega
       have hse:s=2:=by omega
       subst hse
       go_wp2
       obtain⟨xs0,hown0,LK⟩:=hV.row 0 (by omega)
       obtain⟨xs1,hown1,LJ⟩:=hV.row 1 (by omega)
       obtain⟨a0,c0,hf0,hc0,_⟩:=az hown0
       obtain⟨a1,c1,hf1,hc1,_⟩:=az hown1
       have hl0:(Fs 0).length=(bV true (bd ss) ww hh).length:=by have:=HF.out 0 (by omega);rw[← HBL.out] at this;simpa using this
       have hl1:(Fs 1).length=(bV false (bd ss) ww hh).length:=by have:=HF.out 1 (by omega);rw[← HBL.out] at this;simpa using this
       have uR:jO (bV true (bd ss) ww hh) (kB (nB-2)) (Fs 0):=by have:=hV.fs 0 (by omega);rw[← HBL.out,← HKK.out] at this;exact this
       have uQ:jO (bV false (bd ss) ww hh) (kB (nB-2)) (Fs 1):=by have:=hV.fs 1 (by omega);rw[← HBL.out,← HKK.out] at this;exact this
       rw[hnB] at uR uQ
       have hsz:=Ho g uR uQ hl0 hl1
       rw[← hnB] at hsz
       have hc0:=HC0.out.1
       have hc1:=HC0.out.2.1
       rw[← hl0] at hc0
       rw[← hl1] at hc1
       have hn9:=HN9.out
       have hall:((Fs 0).length+(Fs 1).length)*kk+1≤kB nB:=by
        rw[← HKK.out];exact Pq hc0 hc1 (fun h=>⟨by rw[hl0];exact HC0.out.2.2.1 h,by rw[hl1];exact HC0.out.2.2.2 h⟩) rfl
       have hbl:=hV.blk
       rw[hf0,hf1] at hbl
       have hB0:Forms wr (.slice a0 (Fs 0).length c0) (Fs 0):=by
        rw[← hf0];exact(Rows.bG (T:=fun b=>b<wr.heap.size) hown0 rfl LK (fun b hb=>LK.2.1 b hb) (fun b hb=>(hown0.lt b hb).2) (fun _ h=>h)).forms
       have hB1:Forms wr (.slice a1 (Fs 1).length c1) (Fs 1):=by
        rw[← hf1];exact(Rows.bG (T:=fun b=>b<wr.heap.size) hown1 rfl LJ (fun b hb=>LJ.2.1 b hb) (fun b hb=>(hown1.lt b hb).2) (fun _ h=>h)).forms
       have HL0:=Hd_ hl0
       have HL1:=Hd_ hl1
       have UX:(Fs 0).length≤9:=by omega
       have hlt1:(Fs 1).length≤9:=by omega
       clear hf0 hf1 hl0 hl1
       go_cut [11] (fun x wc=>∃ p aN cN F,x=.pointer (some ⟨p,0,none⟩)∧wr.heap.size≤p∧wc.heap[p]?=some (.cells #[.slice aN (List.length F) cN] 28 (0,0))∧Ext wr wc∧dU F (gB (fr (bd ss)))∧F.length≤kB (bS (bd ss))∧Sup (fun b=>wr.heap.size≤b∧b<wc.heap.size∧b≠p) (fun W=>bP W 0 (.slice aN (List.length F) cN) F) wc)
       case first =>
        have hSx:∀ W:World,Ext wr W→W.cell? ⟨bs,0,none⟩=some (.slice a0 (Fs 0).length c0)∧W.cell? ⟨bs,1,none⟩=some (.slice a1 (Fs 1).length c1):=fun W hW=>by
         have hb:W.heap[bs]?=some (.cells #[.slice a0 (Fs 0).length c0,.slice a1 (Fs 1).length c1] 47 (0,0)):=by rw[hW.block _ (ah hbl)];exact hbl
         exact⟨cell_of_row W bs 0 _ _ _ hb,cell_of_row W bs 1 _ _ _ hb⟩
        refine fZ (fun W=>W.cell? ⟨bs,0,none⟩=some (.slice a0 (Fs 0).length c0)∧W.cell? ⟨bs,1,none⟩=some (.slice a1 (Fs 1).length c1)) [9] (by kernel_rfl) (hSx _ ⟨rfl,rfl,rfl,Nat.le_refl _,fun _ _=>rfl⟩) (fun hHeld=>?_)
        ((refine tkA (i:=0) hHeld ?_);(try simp only[nP]);(refine tkA (i:=1) hHeld ?_);(try simp only[nP]);(refine tkA (i:=2) hHeld ?_);(try simp only[nP]);(refine tkA (i:=3) hHeld ?_);(try simp only[nP]);(refine tkA (i:=4) hHeld ?_);(try simp only[nP]);(refine tkA (i:=5) hHeld ?_);(try simp only[nP]))
        have hEx:Ext wr wr.drew:=⟨rfl,rfl,rfl,Nat.le_refl _,fun _ _=>rfl⟩
        obtain⟨W,hW⟩:∃ W,W=wr.drew:=⟨_,rfl⟩
        rw[← hW] at hEx hHeld ⊢
        clear hW
        refine rU (i:=6) (j:=8) (by kernel_rfl) ?_ ?_
        · (refine rnA (i:=6) fun K hK=>?_;go_simp)
          refine(yB _ _ (Fs 0) (Fs 1) _ (hB0.ext hEx) (hB1.ext hEx) uR.good uQ.good (by omega) (by omega) (by omega)).mono ?_
          rintro e WA ⟨vN,F1,rfl,hN1,hI1,hS1,hl1,hxA⟩
          replace hEx:=aa hEx hxA
          (try replace hP:WA.heap[p]?=some (.cells #[.slice none 0 0] 28 (0,0)):=by rw[hxA.block _ (ah hP)];exact hP)
          clear hxA
          obtain⟨W,rfl⟩:∃ W,W=WA:=⟨_,rfl⟩
          have hHeld:=hSx _ hEx
          refine hK.out _ _ (fun _=>hHeld) ?_
          clear hK K
          (try simp only[nP])
          refine rU (i:=7) (j:=8) (by kernel_rfl) ?_ ?_
          · (refine rnA (i:=7) fun K hK=>?_;go_simp)
            refine(nJ vN F1 _ (hN1.weaken (Nat.zero_le _)) hI1.good (List.length_pos_iff.2 hI1.ne) (by omega)).mono ?_
            rintro e WB ⟨vN2,F2,g2,rfl,hN2,hI2,hS2,hC2,hE2,hl2,hxB⟩
            obtain⟨aN,cN,rfl⟩:=hN2.slice
            have hval:=uX g uR uQ HL0.out HL1.out hS1 hI2 hS2 hC2 hE2
            obtain⟨SB,hSB,hSw⟩:∃ SB:Nat→Prop,Sup SB (fun W=>bP W 0 (.slice aN (List.length F2) cN) F2) WB∧∀ b,SB b→W.heap.size≤b∧wr.heap.size≤b:=⟨fun b=>W.heap.size≤b∧b<WB.heap.size,hN2.sup (fun b hb=>hb.2) (fun b h1 h2=>⟨h1,h2⟩),fun b hb=>⟨hb.1,Nat.le_trans hEx.size hb.1⟩⟩
            (try have hpb:∀ b,SB b→b≠p:=fun b hb e=>by have h1:=ah hP;have h2:=(hSw b hb).1;omega)
            have hSr:∀ b,SB b→wr.heap.size≤b:=fun b hb=>(hSw b hb).2
            clear hSw hN2
            replace hEx:=aa hEx hxB
            (try replace hP:WB.heap[p]?=some (.cells #[.slice none 0 0] 28 (0,0)):=by rw[hxB.block _ (ah hP)];exact hP)
            clear hxB
            obtain⟨W,rfl⟩:∃ W,W=WB:=⟨_,rfl⟩
            have hHeld:=hSx _ hEx
            refine hK.out _ _ (fun _=>hHeld) ?_
            clear hK K
            (try simp only[nP])
            (refine stA (i:=8) fun K hK=>?_;go_simp)
            have hxC:Ext W (W.alloc (.cells #[.slice none 0 0] 28)):=by go_grown
            have hP:(W.alloc (.cells #[.slice none 0 0] 28)).heap[W.heap.size]?=some (.cells #[.slice none 0 0] 28 (0,0)):=heap_alloc_new _ _
            have hpz:wr.heap.size≤W.heap.size:=hEx.size
            (try have hpb:∀ b,SB b→b≠W.heap.size:=fun b hb e=>by have:=hSB.1 b hb;omega)
            (try replace hN1:=hN1.ext hxC)
            (try replace hSB:=hSB.ext hxC)
            replace hEx:=aa hEx hxC
            clear hxC
            have hHeld:=hSx _ hEx
            generalize W.alloc (.cells #[.slice none 0 0] 28)=W1 at *
            generalize W.heap.size=p at *
            obtain⟨W,rfl⟩:∃ W,W=W1:=⟨_,rfl⟩
            refine hK.out _ _ (fun _=>hHeld) ?_
            clear hK K
            (try simp only[nP])
            have cP:=cell_of_row W p 0 _ _ _ hP
            have fP:=frozen_of_row W p 0 _ _ hP
            have hP2:=heap_setCell_same W p 0 _ _ (.slice aN (List.length F2) cN) hP
            have HR:=Hd_ (And.intro hP2 (And.intro (hEx.setCell (p:=⟨p,0,none⟩) hpz (.slice aN (List.length F2) cN)) (hSB.keep (bJ (p:=⟨p,0,none⟩) (v:=.slice aN (List.length F2) cN)) hpb)))
            have HT:=Hd_ (And.intro hval (show List.length F2≤kB (bS (bd ss)) by rw[← hnB];omega))
            clear hP hP2 hSB hval
            refine tlA [9] [_] ?_
            go_wp2_with fail
            go_meet
            exact⟨p,aN,cN,F2,rfl,hpz,HR.out.1,HR.out.2.1,HT.out.1,HT.out.2,HR.out.2.2.mono (fun b hb=>⟨hSr b hb,HR.out.2.2.1 b hb,hpb b hb⟩) (fun b hb=>hb.2.1) (fun _ h=>h)⟩
          · (refine rnA (i:=8) fun K hK=>?_;go_simp)
            have hxC:Ext W (W.alloc (.cells #[.slice none 0 0] 28)):=by go_grown
            have hP:(W.alloc (.cells #[.slice none 0 0] 28)).heap[W.heap.size]?=some (.cells #[.slice none 0 0] 28 (0,0)):=heap_alloc_new _ _
            have hpz:wr.heap.size≤W.heap.size:=hEx.size
            (try have hpb:∀ b,SB b→b≠W.heap.size:=fun b hb e=>by have:=hSB.1 b hb;omega)
            (try replace hN1:=hN1.ext hxC)
            (try replace hSB:=hSB.ext hxC)
            replace hEx:=aa hEx hxC
            clear hxC
            have hHeld:=hSx _ hEx
            generalize W.alloc (.cells #[.slice none 0 0] 28)=W1 at *
            generalize W.heap.size=p at *
            obtain⟨W,rfl⟩:∃ W,W=W1:=⟨_,rfl⟩
            refine hK.out _ _ (fun _=>hHeld) ?_
            clear hK K
            (try simp only[nP])
            (refine stA (i:=7) fun K hK=>?_;go_simp)
            refine(nJ vN F1 _ (hN1.weaken (Nat.zero_le _)) hI1.good (List.length_pos_iff.2 hI1.ne) (by omega)).mono ?_
            rintro e WB ⟨vN2,F2,g2,rfl,hN2,hI2,hS2,hC2,hE2,hl2,hxB⟩
            obtain⟨aN,cN,rfl⟩:=hN2.slice
            have hval:=uX g uR uQ HL0.out HL1.out hS1 hI2 hS2 hC2 hE2
            obtain⟨SB,hSB,hSw⟩:∃ SB:Nat→Prop,Sup SB (fun W=>bP W 0 (.slice aN (List.length F2) cN) F2) WB∧∀ b,SB b→W.heap.size≤b∧wr.heap.size≤b:=⟨fun b=>W.heap.size≤b∧b<WB.heap.size,hN2.sup (fun b hb=>hb.2) (fun b h1 h2=>⟨h1,h2⟩),fun b hb=>⟨hb.1,Nat.le_trans hEx.size hb.1⟩⟩
            (try have hpb:∀ b,SB b→b≠p:=fun b hb e=>by have h1:=ah hP;have h2:=(hSw b hb).1;omega)
            have hSr:∀ b,SB b→wr.heap.size≤b:=fun b hb=>(hSw b hb).2
            clear hSw hN2
            replace hEx:=aa hEx hxB
            (try replace hP:WB.heap[p]?=some (.cells #[.slice none 0 0] 28 (0,0)):=by rw[hxB.block _ (ah hP)];exact hP)
            clear hxB
            obtain⟨W,rfl⟩:∃ W,W=WB:=⟨_,rfl⟩
            have hHeld:=hSx _ hEx
            refine hK.out _ _ (fun _=>hHeld) ?_
            clear hK K
            (try simp only[nP])
            have cP:=cell_of_row W p 0 _ _ _ hP
            have fP:=frozen_of_row W p 0 _ _ hP
            have hP2:=heap_setCell_same W p 0 _ _ (.slice aN (List.length F2) cN) hP
            have HR:=Hd_ (And.intro hP2 (And.intro (hEx.setCell (p:=⟨p,0,none⟩) hpz (.slice aN (List.length F2) cN)) (hSB.keep (bJ (p:=⟨p,0,none⟩) (v:=.slice aN (List.length F2) cN)) hpb)))
            have HT:=Hd_ (And.intro hval (show List.length F2≤kB (bS (bd ss)) by rw[← hnB];omega))
            clear hP hP2 hSB hval
            refine tlA [9] [_] ?_
            go_wp2_with fail
            go_meet
            exact⟨p,aN,cN,F2,rfl,hpz,HR.out.1,HR.out.2.1,HT.out.1,HT.out.2,HR.out.2.2.mono (fun b hb=>⟨hSr b hb,HR.out.2.2.1 b hb,hpb b hb⟩) (fun b hb=>hb.2.1) (fun _ h=>h)⟩
        · (refine rnA (i:=8) fun K hK=>?_;go_simp)
          have hxC:Ext W (W.alloc (.cells #[.slice none 0 0] 28)):=by go_grown
          have hP:(W.alloc (.cells #[.slice none 0 0] 28)).heap[W.heap.size]?=some (.cells #[.slice none 0 0] 28 (0,0)):=heap_alloc_new _ _
          have hpz:wr.heap.size≤W.heap.size:=hEx.size
          (try have hpb:∀ b,SB b→b≠W.heap.size:=fun b hb e=>by have:=hSB.1 b hb;omega)
          (try replace hN1:=hN1.ext hxC)
          (try replace hSB:=hSB.ext hxC)
          replace hEx:=aa hEx hxC
          clear hxC
          have hHeld:=hSx _ hEx
          generalize W.alloc (.cells #[.slice none 0 0] 28)=W1 at *
          generalize W.heap.size=p at *
          obtain⟨W,rfl⟩:∃ W,W=W1:=⟨_,rfl⟩
          refine hK.out _ _ (fun _=>hHeld) ?_
          clear hK K
          (try simp only[nP])
          (refine stA (i:=6) fun K hK=>?_;go_simp)
          refine(yB _ _ (Fs 0) (Fs 1) _ (hB0.ext hEx) (hB1.ext hEx) uR.good uQ.good (by omega) (by omega) (by omega)).mono ?_
          rintro e WA ⟨vN,F1,rfl,hN1,hI1,hS1,hl1,hxA⟩
          replace hEx:=aa hEx hxA
          (try replace hP:WA.heap[p]?=some (.cells #[.slice none 0 0] 28 (0,0)):=by rw[hxA.block _ (ah hP)];exact hP)
          clear hxA
          obtain⟨W,rfl⟩:∃ W,W=WA:=⟨_,rfl⟩
          have hHeld:=hSx _ hEx
          refine hK.out _ _ (fun _=>hHeld) ?_
          clear hK K
          (try simp only[nP])
          (refine stA (i:=7) fun K hK=>?_;go_simp)
          refine(nJ vN F1 _ (hN1.weaken (Nat.zero_le _)) hI1.good (List.length_pos_iff.2 hI1.ne) (by omega)).mono ?_
          rintro e WB ⟨vN2,F2,g2,rfl,hN2,hI2,hS2,hC2,hE2,hl2,hxB⟩
          obtain⟨aN,cN,rfl⟩:=hN2.slice
          have hval:=uX g uR uQ HL0.out HL1.out hS1 hI2 hS2 hC2 hE2
          obtain⟨SB,hSB,hSw⟩:∃ SB:Nat→Prop,Sup SB (fun W=>bP W 0 (.slice aN (List.length F2) cN) F2) WB∧∀ b,SB b→W.heap.size≤b∧wr.heap.size≤b:=⟨fun b=>W.heap.size≤b∧b<WB.heap.size,hN2.sup (fun b hb=>hb.2) (fun b h1 h2=>⟨h1,h2⟩),fun b hb=>⟨hb.1,Nat.le_trans hEx.size hb.1⟩⟩
          (try have hpb:∀ b,SB b→b≠p:=fun b hb e=>by have h1:=ah hP;have h2:=(hSw b hb).1;omega)
          have hSr:∀ b,SB b→wr.heap.size≤b:=fun b hb=>(hSw b hb).2
          clear hSw hN2
          replace hEx:=aa hEx hxB
          (try replace hP:WB.heap[p]?=some (.cells #[.slice none 0 0] 28 (0,0)):=by rw[hxB.block _ (ah hP)];exact hP)
          clear hxB
          obtain⟨W,rfl⟩:∃ W,W=WB:=⟨_,rfl⟩
          have hHeld:=hSx _ hEx
          refine hK.out _ _ (fun _=>hHeld) ?_
          clear hK K
          (try simp only[nP])
          have cP:=cell_of_row W p 0 _ _ _ hP
          have fP:=frozen_of_row W p 0 _ _ hP
          have hP2:=heap_setCell_same W p 0 _ _ (.slice aN (List.length F2) cN) hP
          have HR:=Hd_ (And.intro hP2 (And.intro (hEx.setCell (p:=⟨p,0,none⟩) hpz (.slice aN (List.length F2) cN)) (hSB.keep (bJ (p:=⟨p,0,none⟩) (v:=.slice aN (List.length F2) cN)) hpb)))
          have HT:=Hd_ (And.intro hval (show List.length F2≤kB (bS (bd ss)) by rw[← hnB];omega))
          clear hP hP2 hSB hval
          refine tlA [9] [_] ?_
          go_wp2_with fail
          go_meet
          exact⟨p,aN,cN,F2,rfl,hpz,HR.out.1,HR.out.2.1,HT.out.1,HT.out.2,HR.out.2.2.mono (fun b hb=>⟨hSr b hb,HR.out.2.2.1 b hb,hpb b hb⟩) (fun b hb=>hb.2.1) (fun _ h=>h)⟩
       case rest =>
        obtain⟨p,aN,cN,F,rfl,hpz,hP,hxc,hTV,hFk,hsN⟩:=hcut
        have hpI:¬ InS px vt vf p:=fun k=>by have:=hV.tb.ma k;omega
        have hX1:=(hV.tb.ext hxc).tx
        have hVc:=hV.ext hxc
        have SV:=Hd_ hV.tb.law
        have hLl:L'.length≤1000000:=by omega
        have QC:L'.length+1≤L.length+kB nB:=by omega
        obtain⟨Lt,hLt⟩:∃ Lt,Lt=L'.map (·.1):=⟨_,rfl⟩
        obtain⟨Lf,hLf⟩:∃ Lf,Lf=L'.map (·.2):=⟨_,rfl⟩
        rw[← hLt,← hLf] at hX1
        have hnT:Lt.length≤1000000:=by rw[hLt];simpa using hLl
        have hnF:Lf.length≤1000000:=by rw[hLf];simpa using hLl
        have HLT:=Hd_ hLt
        have HLF:=Hd_ hLf
        clear hLt hLf
        obtain⟨aT2,cT2,rfl,Qc,_⟩:=az hX1.texts
        obtain⟨xsF,hoF,hiF⟩:=hX1.forms
        obtain⟨aF2,cF2,rfl,Qd,_⟩:=az hoF
        have b0:=cell_of_row wc px 0 _ _ _ hX1.cells
        have hHV:=Hd_ hV
        have HX1:=Hd_ hX1
        have hto:=hX1.texts
        have hap:=hX1.fM
        have hcl:=hX1.cells
        have HT:=Hd_ hTV
        clear hX1 hV hTV hiF hoF hB0 hB1 hown0 hown1 LK LJ uR uQ hbl
        go_upto_region 18 with (at_builtin;(refine aW rfl (.tmp 83) (.tmp 85) 22 rfl 0 9 i1 (.string ⟨#[]⟩) 1 16 underlying22 hi1 hy0 hy1 hy2 rfl (by decide) (.slice aT2 Lt.length cT2) Lt.length (Lt.map Value.string) rfl (hto.alloc _) _ 1 _ [.string tb] rfl rfl (.inr ⟨_,rfl,bq (aO _ _ _)⟩) (by intro u hu;simp at hu;subst hu;rfl) (by unfold maxLen;omega) (by omega) (Nat.zero_le _) ?_;intro v5 w5 ho5 hg5 hl5;obtain⟨a5,c5,rfl,-⟩:=az ho5;obtain⟨hX5,hG5,b5,f5⟩:=HX1.out.text ho5 hg5 hl5))
        generalize w5.setCell ⟨px,0,none⟩ (.slice a5 (Lt.length+1) c5)=W5 at *
        have hzp:=ah hP
        have hz0:=hxc.size
        have hP5:W5.heap[p]?=some (.cells #[.slice aN (List.length F) cN] 28 (0,0)):=by rw[hG5.block hzp hpI];exact hP
        have hIw:∀ b,InS px (.slice aT2 Lt.length cT2) (.slice aF2 Lf.length cF2) b→b<wr.heap.size:=fun b hb=>hHV.out.tb.ma hb
        have PK:=hG5.sup hsN (fun b hb k=>by have:=hIw b k;omega)
        obtain⟨xsF,hoF,hiF⟩:=hX5.forms
        have hSx:∀ W:World,Ext W5 W→W.cell? ⟨px,1,none⟩=some (.slice aF2 Lf.length cF2)∧W.cell? ⟨p,0,none⟩=some (.slice aN (List.length F) cN):=fun W hW =>
         ⟨cell_of_row W px 1 _ _ _ (by rw[hW.block _ (ah hX5.cells)];exact hX5.cells),cell_of_row W p 0 _ _ _ (by rw[hW.block _ (ah hP5)];exact hP5)⟩
        have hxd:Ext W5 W5.drew:=⟨rfl,rfl,rfl,Nat.le_refl _,fun _ _=>rfl⟩
        have hXd:=hX5.ext hxd
        have hGd:=TG.ext (px:=px) (vt:=.slice a5 (Lt.length+1) c5) (vf:=.slice aF2 Lf.length cF2) (S:=S') hxd
        have hod:=aJ hoF hxd
        have hid:=hiF.ext hxd
        have hsd:=PK.ext hxd
        have hPd:W5.drew.heap[p]?=some (.cells #[.slice aN (List.length F) cN] 28 (0,0)):=hP5
        have HG5:=Hd_ hG5
        have Ub:=Hd_ QC
        clear hP hsN PK hP5 hX5 hG5 hoF hiF ho5 hg5 hl5 b5 f5 hto hap hcl b0 hVc QC hLL
        refine fZ (fun W=>W.cell? ⟨px,1,none⟩=some (.slice aF2 Lf.length cF2)∧W.cell? ⟨p,0,none⟩=some (.slice aN (List.length F) cN)) [8,9,10] (by kernel_rfl) (hSx _ hxd) (fun hHeld=>?_)
        ((refine tkA (i:=0) hHeld ?_);(try simp only[nP]);(refine tkA (i:=1) hHeld ?_);(try simp only[nP]);(refine tkA (i:=2) hHeld ?_);(try simp only[nP]);(refine tkA (i:=3) hHeld ?_);(try simp only[nP]);(refine tkA (i:=4) hHeld ?_);(try simp only[nP]);(refine tkA (i:=5) hHeld ?_);(try simp only[nP]))
        (refine stA (i:=6) fun K hK=>?_;go_simp)
        have hx6:Ext W5.drew (W5.drew.alloc (.cells #[.slice aN (List.length F) cN] 28)):=by go_grown
        have hHeld:=hSx _ (aa hxd hx6)
        refine hK.out _ _ (fun _=>hHeld) ?_
        clear hK K
        (try simp only[nP])
        refine stA (i:=7) fun K hK=>?_
        refine bO rfl (.tmp 93) (.tmp 95) 47 rfl 0 28 i0 (.agg #[.slice none 0 0]) 1 24 underlying47 hi0 hz0' hz1 hz2 rfl (by decide) (.slice aF2 Lf.length cF2) Lf.length xsF rfl (aJ hod hx6) _ 1 _ [.slice aN (List.length F) cN] rfl rfl (.inr ⟨_,rfl,bq (aO _ _ _)⟩) (by intro u hu;simp at hu;subst hu;rfl) (by unfold maxLen;omega) (by omega) (Nat.zero_le _) ?_
        intro v7 w7 ho7 hg7 hl7
        obtain⟨a7,c7,rfl,-⟩:=az ho7
        have hFR:Sup (fun b=>wr.heap.size≤b∧b<wc.heap.size∧b≠p) (fun W=>lg W [.slice aN (List.length F) cN] F) W5.drew:=hsd.mono (fun _ h=>h) hsd.1 (fun W h=>⟨aN,cN,rfl,h⟩)
        have GN:∀ b,InS px (.slice a5 (Lt.length+1) c5) (.slice aF2 Lf.length cF2) b→InS px (.slice aT2 Lt.length cT2) (.slice aF2 Lf.length cF2) b∨wc.heap.size≤b:=HG5.out.ins
        obtain⟨hX7,hk7,hi7,b7,f7⟩:=hXd.form hid ho7 hg7 hl7 hFR (fun b hb k=>by
         rcases GN b k with k | k
         · have:=hIw b k;omega
         · omega)
        have hz5:=HG5.out.keep.size
        have hzd:W5.drew.heap.size=W5.heap.size:=rfl
        have hIp:¬ InS px (.slice a5 (Lt.length+1) c5) (.slice aF2 Lf.length cF2) p:=fun k=>by
         rcases GN p k with k | k
         · exact hpI k
         · omega
        have hnx:p≠px:=fun e=>hpI (.inl e)
        have Tk:(W5.drew.alloc (.cells #[.slice aN (List.length F) cN] 28)).grownBy w7 (Value.slice aF2 Lf.length cF2).ownBlock:=hg7
        have GG:=((((hHV.out.tg.trans (TG.ext hxc)).trans HG5.out).trans hGd).trans (⟨hk7,hi7,fun _ h=>h,fun _ h=>.inl h⟩:TG W5.drew (w7.setCell ⟨px,1,none⟩ (.slice a7 (Lf.length+1) c7)) px (.slice a5 (Lt.length+1) c5) (.slice aF2 Lf.length cF2) S' (.slice a5 (Lt.length+1) c5) (.slice a7 (Lf.length+1) c7) S'))
        have hzw:=hHV.out.tg.keep.size
        have hG8:TG w (w7.setCell ⟨px,1,none⟩ (.slice a7 (Lf.length+1) c7)) px (.slice aT L.length cT) (.slice aF L.length cF) S (.slice a5 (Lt.length+1) c5) (.slice a7 (Lf.length+1) c7) (fun b=>S' b∨(wr.heap.size≤b∧b<wc.heap.size∧b≠p)) :=
         ⟨GG.keep,GG.ins,fun b h=>.inl (GG.s1 b h),fun b hb=>hb.elim (GG.s2 b) (fun h=>.inr (by omega))⟩
        have hr1:=ah hHV.out.res
        have hIr:¬ InS px (.slice a5 (Lt.length+1) c5) (.slice aF2 Lf.length cF2) (w.heap.size+1):=fun k=>by
         rcases GN _ k with k | k
         · exact hHV.out.p1.1 k
         · omega
        have TH:¬ InS px (.slice a5 (Lt.length+1) c5) (.slice a7 (Lf.length+1) c7) (w.heap.size+1):=fun k=>by
         rcases hi7 _ k with k | k
         · exact hIr k
         · omega
        have Qq:∀ b,S' b∨(wr.heap.size≤b∧b<wc.heap.size∧b≠p)→b≠w.heap.size+1:=fun b hb e=>by
         rcases hb with h | h
         · exact hHV.out.p1.2 (by rw[← e];exact h)
         · omega
        have hR7:(w7.setCell ⟨px,1,none⟩ (.slice a7 (Lf.length+1) c7)).heap[w.heap.size+1]?=some (.cells #[.slice none 0 0] 28 (0,0)):=by
         rw[hk7.block _ (by omega) hIr]
         show W5.heap[w.heap.size+1]?=_
         rw[HG5.out.block (by omega) hHV.out.p1.1,hxc.block _ hr1];exact hHV.out.res
        have hP7:(w7.setCell ⟨px,1,none⟩ (.slice a7 (Lf.length+1) c7)).heap[p]?=some (.cells #[.slice aN (List.length F) cN] 28 (0,0)):=by
         rw[hk7.block _ (by omega) hIp];exact hPd
        have hHeld:w7.cell? ⟨px,1,none⟩=some (.slice aF2 Lf.length cF2)∧w7.cell? ⟨p,0,none⟩=some (.slice aN (List.length F) cN):=⟨b7,by
         have e:w7.heap[p]?=some (.cells #[.slice aN (List.length F) cN] 28 (0,0)):=by
          rw[← hP7,heap_setCell_other _ _ _ _ hnx]
         exact cell_of_row w7 p 0 _ _ _ e⟩
        have hSF:=(hsd.keep hk7 (fun b hb k=>by
         rcases GN b k with k | k
         · have:=hIw b k;omega
         · omega))
        have HX7:=Hd_ hX7
        have HG8:=Hd_ hG8
        have HSF:=Hd_ hSF
        clear hX7 hG8 hSF GG hsd hFR hod hid hXd hGd ho7 hg7 Tk hl7 hHV hk7 hi7
        have c9:=cell_of_row _ p 0 _ _ _ hP7
        have r9:=cell_of_row _ (w.heap.size+1) 0 _ _ _ hR7
        have g9:=frozen_of_row _ (w.heap.size+1) 0 _ _ hR7
        have HH:=Hd_ (heap_setCell_same _ (w.heap.size+1) 0 _ _ (.slice aN (List.length F) cN) hR7)
        refine hK.out _ _ (fun _=>hHeld) ?_
        clear hK K
        (try simp only[nP])
        refine tlA [8,9,10] [_,_,_] ?_
        go_upto_region 19 with fail
        generalize w7.setCell ⟨px,1,none⟩ (.slice a7 (Lf.length+1) c7)=W9 at *
        clear b7 f7 hHeld hP7 hR7
        go_wp2
        (try simp only[Exit.inBlock,Exit.then])
        refine bodyPost_ret (results_cell_row rfl _ _ (w.heap.size+1) 28 #[.slice aN (List.length F) cN] (0,0) _ rfl HH.out underlying28 rfl (by kernel_rfl)) rfl ?_
        have hk9:=bJ (w:=W9) (p:=⟨w.heap.size+1,0,none⟩) (v:=.slice aN (List.length F) cN)
        refine⟨_,F,_,_,_,L'++[(tb,F)],rfl,(HSF.out.mono (fun b hb=>.inr hb) (fun b hb=>HX7.out.sLt hb) (fun _ h=>h)).keep hk9 (fun b hb e=>?_),HT.out,hFk,?_,HG8.out.set (p:=⟨w.heap.size+1,0,none⟩) (by show w.heap.size≤w.heap.size+1;omega) _,by rw[List.length_append,← hnB];simpa using Ub.out⟩
        · exact Qq b hb e
        · have e1:(L'++[(tb,F)]).map (·.1)=Lt++[tb]:=by rw[List.map_append,← HLT.out];rfl
          have e2:(L'++[(tb,F)]).map (·.2)=Lf++[F]:=by rw[List.map_append,← HLF.out];rfl
          have hX:=HX7.out
          rw[← e1,← e2] at hX
          refine(hX.tb (fun x hx=>?_)).keep hk9 (fun b hb e=>TH (by rw[← show b=w.heap.size+1 from e];exact hb)) (fun b hb e=>Qq b hb e)
          rcases List.mem_append.1 hx with h | h
          · exact SV.out x h
          · simp only[List.mem_singleton] at h
            subst h
            exact⟨bd ss,hh,ww,g,HT3.out,by rw[← hnB];exact HN9.out,HT.out,hFk⟩
end Go.Proofs.YteknjeohbcgpdaaGreatDoor