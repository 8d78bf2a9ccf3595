/-
  Contract of the reference's l5Sum: a form of the sum of both games.
-/
import Derived.Test.YteknjeohbcgpdaaGreatDoorZ23
import Derived.Test.YteknjeohbcgpdaaGreatDoorZ24
import Derived.Deep.LoopGhost
set_option maxRecDepth 100000
namespace Go.Proofs.YteknjeohbcgpdaaGreatDoor
open Tryz
open Go.RowKit
open Cgt (Dag Nd vl Same plus bE)
def O3 (F G:Dag) (w:World) (e:Ending) (w':World):Prop :=
 ∃ vN H,e=.returned (.agg #[vN])∧bP w' w.heap.size vN H∧Cgt.dH H∧Same (bE H) (plus (bE F) (bE G))∧H.length≤F.length*G.length∧Ext w w'
theorem qI {w:World} {X:Obj} {k:Nat} (h:k=w.heap.size):(w.alloc X).heap[k]?=some X:=by subst h;exact heap_alloc_new w X
theorem qD {F:Dag} {i:Nat} (hi:i<F.length):F.getD i ([],[])=F[i]:=by rw[List.getD_eq_getElem?_getD,List.getElem?_eq_getElem hi];rfl
theorem rP {W:World} {B:Nat} {a:Option Addr} {n c:Nat} {at_:List Nat} (h:W.ownsRow B 3 1 (.slice a n c) at_.length ((toZ at_).map (Value.int .i64))) {q:Nat} (hq:q<at_.length) :
 ∃ g,a=some ⟨g,0,none⟩∧W.cell? ⟨g,q,none⟩=some (.int .i64 ((at_.getD q 0:Nat):Int)):=by
 obtain⟨g,cap,e,_,_,hc⟩:=dC h (by omega)
 simp only[Value.slice.injEq] at e
 obtain⟨rfl,-,-⟩:=e
 refine⟨g,rfl,?_⟩
 rw[hc q (by omega),List.getD_eq_getElem?_getD,List.getElem?_eq_getElem hq]
 simp[toZ,hq]
theorem qy {W:World} {a:Option Addr} {n c:Nat} {l:List Nat} (h:Ints W (.slice a n c) (toZ l)) {m:Nat} (hm:m<l.length):∃ b off,a=some ⟨b,off,none⟩∧W.cell? ⟨b,off+m,none⟩=some (.int .i64 ((l[m]:Nat):Int)):=by
 obtain⟨a',c',e,_,_,hc⟩:=h
 simp only[Value.slice.injEq] at e
 obtain⟨rfl,-,rfl⟩:=e
 obtain⟨b,off,rfl,hb⟩:=hc (by rw[aj];omega)
 exact⟨b,off,rfl,by rw[hb m (by rw[aj];exact hm),dN hm]⟩
theorem kY {α β:Type} {l:List α} {m:Nat} (f:α→β) (hm:m<l.length):(l.take (m+1)).map f=(l.take m).map f++[f l[m]]:=by
 rw[List.take_succ_eq_append_getElem hm,List.map_append];rfl
set_option maxHeartbeats 8000000 in
theorem Jl (vf vg:Value) (F G:Dag) (w:World) (hf:bP w 0 vf F) (hg:bP w 0 vg G) (gF:Cgt.Good F) (gG:Cgt.Good G) (f0:0<F.length) (g0:0<G.length) (hroom:F.length*G.length≤300000) :
 Calls prog 79 #[.agg #[vf],.agg #[vg]] w (O3 F G w):=by
 obtain⟨i0,hi0,hz0,hz1,hz2⟩:=info_parts eO
 obtain⟨aF,cF,rfl,hcF,hmF⟩:∃ a c,vf=.slice a F.length c∧F.length≤c∧F.length≤maxLen:=by obtain⟨a,c,e,h1,h2,_⟩:=id hf;exact⟨a,c,e,h1,h2⟩
 obtain⟨aG,cG,rfl,hcG,hmG⟩:∃ a c,vg=.slice a G.length c∧G.length≤c∧G.length≤maxLen:=by obtain⟨a,c,e,h1,h2,_⟩:=id hg;exact⟨a,c,e,h1,h2⟩
 have hFl:F.length≤300000:=Nat.le_trans (Nat.le_mul_of_pos_right _ g0) hroom
 have hGl:G.length≤300000:=Nat.le_trans (Nat.le_mul_of_pos_left _ f0) hroom
 have HF:=Hd_ hf
 have HG:=Hd_ hg
 have HGF:=Hd_ gF
 have HGG:=Hd_ gG
 have NW:=Hd_ hroom
 clear hf hg gF gG hroom hcF hcG hmF hmG
 go_enter Tryz.func79,Tryz.ntmps79
 go_upto_region 5 with fail
 rw[show w.heap.size+1+1+1+1=w.heap.size+4 from rfl,show w.heap.size+1+1+1=w.heap.size+3 from rfl]
 obtain⟨we,hwe⟩:∃ we,we=(((w.alloc (.cells #[.slice aF F.length cF] 28)).alloc (.cells #[.slice aG G.length cG] 28)).alloc (.cells #[.slice none 0 0] 28)).alloc (.cells #[.slice none 0 0,.slice none 0 0] 157):=⟨_,rfl⟩
 have hze:we.heap.size=w.heap.size+4:=by rw[hwe];simp only[sA_]
 have hb0:we.heap[w.heap.size]?=some (.cells #[.slice aF F.length cF] 28 (0,0)):=by
  rw[hwe,Below.heap_alloc _ _ _ (by simp only[sA_];omega),Below.heap_alloc _ _ _ (by simp only[sA_];omega),Below.heap_alloc _ _ _ (by simp only[sA_];omega)];exact qI rfl
 have hb1:we.heap[w.heap.size+1]?=some (.cells #[.slice aG G.length cG] 28 (0,0)):=by
  rw[hwe,Below.heap_alloc _ _ _ (by simp only[sA_];omega),Below.heap_alloc _ _ _ (by simp only[sA_];omega)];exact qI (by simp only[sA_])
 have hb2:we.heap[w.heap.size+2]?=some (.cells #[.slice none 0 0] 28 (0,0)):=by
  rw[hwe,Below.heap_alloc _ _ _ (by simp only[sA_];omega)];exact qI (by simp only[sA_])
 have hb3:we.heap[w.heap.size+3]?=some (.cells #[.slice none 0 0,.slice none 0 0] 157 (0,0)):=by
  rw[hwe];exact qI (by simp only[sA_])
 have hxe:Ext w we:=by rw[hwe];go_grown
 rw[← hwe]
 have hBe:=oK hb3
 have hxa:Ext we (we.alloc (.cells #[] 3)):=aM (Below.refl _ _) _
 have hsd:∀ b,b<w.heap.size+3→Beside we (w.heap.size+3) (.slice none 0 0) (.slice none 0 0) [] b:=fun b hb=>⟨fun k=>by
  rcases k with h | h | h
  · omega
  · simp[Value.ownBlock] at h
  · simp[Value.ownBlock] at h,fun ⟨i,g,cap,v,hi,_⟩=>by simp at hi⟩
 have hM0:SM w we (we.alloc (.cells #[] 3)) (.slice aF F.length cF) (.slice aG G.length cG) (.slice (some ⟨we.heap.size,0,none⟩) 0 0) (.slice none 0 0) (.slice none 0 0) [] [] :=
  ⟨hBe.ext hxa,dz.ext hBe hxa,(hxa.block _ (ah hb0)).trans hb0,(hxa.block _ (ah hb1)).trans hb1,(hxa.block _ (ah hb2)).trans hb2,dD we _ (Nat.le_refl _) _,fun b hb=>by
   simp[Value.ownBlock] at hb;subst hb;exact⟨Nat.le_refl _,(Beside.new hBe (Nat.le_refl _)).goE hBe hxa⟩,fun b hb=>(hsd b hb).goE hBe hxa,aa hxe hxa,Nat.le_refl _⟩
 have HZE:=Hd_ hze
 rw[← hze]
 clear hwe hze hb0 hb1 hb2 hb3 hxe hBe hxa hsd
 generalize we.alloc (.cells #[] 3)=W0 at *
 obtain⟨n,hn⟩:∃ n,n=G.length:=⟨_,rfl⟩
 obtain⟨f,hfn⟩:∃ f,f=F.length:=⟨_,rfl⟩
 go_loopw [7,8,9,10,11,12,13,14,15] (fun av ii _ _ _ _ _ _ _ wr=>∃ (i:Nat) (vn vb:Value) (D:Dag) (at_:List Nat),ii=.int .i64 ((i:Nat):Int)∧i≤F.length∧SM w we wr (.slice aF F.length cF) (.slice aG G.length cG) av vn vb D at_∧Hid (at_.length=i*G.length∧jK D F G at_)) (fun _ ii _ _ _ _ _ _ _ _=>F.length-(intOf ii).toNat)
 case atStart=>exact⟨0,_,_,[],[],rfl,Nat.zero_le _,hM0,Hd_ ⟨by simp,jK.nil _ _ _⟩⟩
 case round =>
  clear hM0
  obtain⟨i,vn,vb,D,at_,rfl,hi,hM,HS⟩:=hrel
  have c0:=cell_of_row wr w.heap.size 0 _ _ _ hM.b0
  simp only[gE] at c0
  by_cases hlt:i<F.length
  · have hil:((i:Nat):Int)<((F.length:Nat):Int):=by omega
    have HLT:=Hd_ hlt
    clear hlt
    go_wp2
    go_loopg [7,9,10,11,12,13,14,15] (G.length) (fun gk av kk _ _ _ _ _ _ wr=>∃ (k:Nat) (vn vb:Value) (D:Dag) (at_:List Nat),kk=.int .i64 ((k:Nat):Int)∧k≤G.length∧SM w we wr (.slice aF F.length cF) (.slice aG G.length cG) av vn vb D at_∧Hid (at_.length=i*G.length+k∧jK D F G at_)∧Hid (gk=G.length-k))
    case atStart=>exact⟨0,vn,vb,D,at_,rfl,Nat.zero_le _,hM,Hd_ ⟨by rw[HS.out.1];rfl,HS.out.2⟩,Hd_ rfl⟩
    case round =>
     clear hM HS c0
     obtain⟨k,vn,vb,D,at_,rfl,hk,hM,HS,HGK⟩:=hrel
     by_cases hkl:k<G.length
     · have hkl':((k:Nat):Int)<((G.length:Nat):Int):=by omega
       have HKL:=Hd_ hkl
       clear hkl
       go_upto_region 11 with fail
       have HAL:Hid (at_.length≤300000):=Hd_ (by rw[HS.out.1];have:=oU HLT.out HKL.out;have:=NW.out;omega)
       have HLN:Hid ((F[i]'HLT.out).1.length≤300000∧(F[i]'HLT.out).2.length≤300000∧(G[k]'HKL.out).1.length≤300000∧(G[k]'HKL.out).2.length≤300000):=Hd_ (by
        have h1:=nZ HGF.out HLT.out
        have h2:=nZ HGG.out HKL.out
        omega)
       obtain⟨wa,hwa⟩:∃ wa,wa=wr:=⟨_,rfl⟩
       rw[← hwa] at hM ⊢
       clear hwa
       have T9:Hid (LR wa ((wa.alloc (.cells #[] 3)).alloc (.cells #[] 3)) (.slice (some ⟨wa.heap.size,0,none⟩) 0 0) (.slice (some ⟨wa.heap.size+1,0,none⟩) 0 0) [] []):=Hd_
        ⟨(dD wa _ (Nat.le_refl _) _).alloc _,ig wa _ _ (Nat.le_refl _) _,fun b hb e=>by simp[Value.ownBlock] at hb e;omega,by go_grown⟩
       obtain⟨aA,cA,rfl,-,-⟩:=az hM.own
       have HM:=Hd_ hM
       clear hM
       go_wp2
       go_loopw [10,12] (fun rv mm wr=>∃ m:Nat,mm=.int .i64 ((m:Nat):Int)∧m≤(F[i]'HLT.out).1.length∧Hid (LR wa wr rv (.slice (some ⟨wa.heap.size+1,0,none⟩) 0 0) (((F[i]'HLT.out).1.take m).map (fun x=>at_.getD (x*G.length+k) 0)) [])) (fun _ mm _=>(F[i]'HLT.out).1.length-(intOf mm).toNat)
       case atStart=>exact⟨0,rfl,Nat.zero_le _,Hd_ (by simp only[List.take_zero,List.map_nil,List.append_nil];exact T9.out)⟩
       case round =>
        obtain⟨m,rfl,hm,HLR⟩:=hrel
        have hMx:=HM.out.ext' HLR.out.ext
        have cb:=cell_of_row wr (w.heap.size) 0 _ _ _ hMx.b0
        simp only[gE] at cb
        obtain⟨bX,cX,aL,cL,aR,cR,he,-,nl,nr,hIL,hIR⟩:=(HF.out.ext hMx.ext).at HLT.out
        simp only[Value.slice.injEq,true_and,Option.some.injEq,Addr.mk.injEq,and_true] at he
        obtain⟨rfl,rfl⟩:=he
        have hxl:((i:Nat):Int)<((F.length:Nat):Int):=by have:=HLT.out;omega
        by_cases hlm:m<(F[i]'HLT.out).1.length
        · have hml:((m:Nat):Int)<((((F[i]'HLT.out).1.length:Nat):Nat):Int):=by omega
          have HLM:=Hd_ hlm
          have hlb:(F[i]'HLT.out).1.length≤300000:=by have:=HLN.out;omega
          obtain⟨bc,oc,eac,hcell⟩:=qy hIL hlm
          subst eac
          obtain⟨x,ex⟩:∃ x,x=((F[i]'HLT.out).1)[m]'hlm:=⟨_,rfl⟩
          have hxi:x<i:=by rw[ex];exact(HGF.out.wf i _ (List.getElem?_eq_getElem HLT.out)).1 _ (List.getElem_mem _)
          rw[← ex] at hcell
          obtain⟨p,ep⟩:∃ p,p=x*G.length:=⟨_,rfl⟩
          obtain⟨q,eq⟩:∃ q,q=p+k:=⟨_,rfl⟩
          have hmul:((x:Nat):Int)*((G.length:Nat):Int)=((p:Nat):Int):=by rw[ep];exact(Int.natCast_mul _ _).symm
          have hadd:((p:Nat):Int)+((k:Nat):Int)=((q:Nat):Int):=by rw[eq];exact(Int.natCast_add _ _).symm
          have hql:q<at_.length:=by rw[eq,ep,HS.out.1];have:=oU hxi HKL.out;omega
          have hq3:at_.length≤300000:=HAL.out
          obtain⟨gA,eA,hca⟩:=rP hMx.own hql
          subst eA
          have Lu:((q:Nat):Int)<((at_.length:Nat):Int):=by omega
          have HNX:Hid (((F[i]'HLT.out).1.take (m+1)).map (fun x=>at_.getD (x*G.length+k) 0)=(((F[i]'HLT.out).1.take m).map (fun x=>at_.getD (x*G.length+k) 0))++[at_.getD q 0]):=Hd_ (by
           rw[kY _ hlm,← ex,eq,ep])
          have hEQ:=Hd_ (And.intro ex (And.intro ep eq))
          generalize hlr:(((F[i]'HLT.out).1.take m).map (fun x=>at_.getD (x*G.length+k) 0))=lr at HLR HNX
          have hN:lr.length≤700000:=by rw[← hlr];simp only[List.length_append,List.length_map,List.length_take];have:=HLN.out;omega
          have hLR:=HLR.out
          obtain⟨al,cl,rfl,-,-⟩:=az hLR.el
          have hor:=hLR.el
          have hzr:=hLR.ext.size
          generalize hat:at_.getD q 0=aq at *
          clear ex ep eq hMx hIL hIR hLR hlr hxi hql hat
          go_wp2_with (at_builtin;refine aW rfl (.tmp 47) (.tmp 64) 80 rfl wa.heap.size 3 i0 (.int .i64 0) 1 8 underlying80 hi0 hz0 hz1 hz2 rfl (by decide) (.slice al lr.length cl) lr.length _ rfl (hor.alloc _) _ 1 _ [.int .i64 ((aq:Nat):Int)] rfl rfl (.inr ⟨_,rfl,bq (aO _ _ _)⟩) one_cell (by unfold maxLen;omega) (by omega) (by rw[sA_];omega) ?_;intro v5 w5 ho5 hg5 hl5)
          go_roundw
          case rel=>exact⟨m+1,by go_num,HLM.out,Hd_ (by rw[HNX.out];exact HLR.out.Pd ho5 hg5 hl5)⟩
          case measure=>have:=HLM.out;simp[intOf];omega
        · have hml:¬ (((m:Nat):Int)<((((F[i]'HLT.out).1.length:Nat):Nat):Int)):=by omega
          have hme:m=(F[i]'HLT.out).1.length:=by omega
          have TZ:Hid (LR wa wr u10 (.slice (some ⟨wa.heap.size+1,0,none⟩) 0 0) (((F[i]'HLT.out).1).map (fun x=>at_.getD (x*G.length+k) 0)) []):=Hd_ (by have:=HLR.out;rw[hme,List.take_length] at this;exact this)
          clear hme hlm hMx hIL hIR HLR
          go_wp2
          go_loopw [10,13] (fun rv mm wr=>∃ m:Nat,mm=.int .i64 ((m:Nat):Int)∧m≤(G[k]'HKL.out).1.length∧Hid (LR wa wr rv (.slice (some ⟨wa.heap.size+1,0,none⟩) 0 0) (((F[i]'HLT.out).1.map (fun x=>at_.getD (x*G.length+k) 0))++((G[k]'HKL.out).1.take m).map (fun y=>at_.getD (i*G.length+y) 0)) [])) (fun _ mm _=>(G[k]'HKL.out).1.length-(intOf mm).toNat)
          case atStart=>exact⟨0,rfl,Nat.zero_le _,Hd_ (by simp only[List.take_zero,List.map_nil,List.append_nil];exact TZ.out)⟩
          case round =>
           obtain⟨m,rfl,hm,HLR⟩:=hrel
           have hMx:=HM.out.ext' HLR.out.ext
           have cb:=cell_of_row wr (w.heap.size+1) 0 _ _ _ hMx.b1
           simp only[gE] at cb
           obtain⟨bX,cX,aL,cL,aR,cR,he,-,nl,nr,hIL,hIR⟩:=(HG.out.ext hMx.ext).at HKL.out
           simp only[Value.slice.injEq,true_and,Option.some.injEq,Addr.mk.injEq,and_true] at he
           obtain⟨rfl,rfl⟩:=he
           have hxl:((k:Nat):Int)<((G.length:Nat):Int):=by have:=HKL.out;omega
           by_cases hlm:m<(G[k]'HKL.out).1.length
           · have hml:((m:Nat):Int)<((((G[k]'HKL.out).1.length:Nat):Nat):Int):=by omega
             have HLM:=Hd_ hlm
             have hlb:(G[k]'HKL.out).1.length≤300000:=by have:=HLN.out;omega
             obtain⟨bc,oc,eac,hcell⟩:=qy hIL hlm
             subst eac
             obtain⟨x,ex⟩:∃ x,x=((G[k]'HKL.out).1)[m]'hlm:=⟨_,rfl⟩
             have hxi:x<k:=by rw[ex];exact(HGG.out.wf k _ (List.getElem?_eq_getElem HKL.out)).1 _ (List.getElem_mem _)
             rw[← ex] at hcell
             obtain⟨p,ep⟩:∃ p,p=i*G.length:=⟨_,rfl⟩
             obtain⟨q,eq⟩:∃ q,q=p+x:=⟨_,rfl⟩
             have hmul:((i:Nat):Int)*((G.length:Nat):Int)=((p:Nat):Int):=by rw[ep];exact(Int.natCast_mul _ _).symm
             have hadd:((p:Nat):Int)+((x:Nat):Int)=((q:Nat):Int):=by rw[eq];exact(Int.natCast_add _ _).symm
             have hql:q<at_.length:=by rw[eq,ep,HS.out.1];omega
             have hq3:at_.length≤300000:=HAL.out
             obtain⟨gA,eA,hca⟩:=rP hMx.own hql
             subst eA
             have Lu:((q:Nat):Int)<((at_.length:Nat):Int):=by omega
             have HNX:Hid (((F[i]'HLT.out).1.map (fun x=>at_.getD (x*G.length+k) 0))++((G[k]'HKL.out).1.take (m+1)).map (fun y=>at_.getD (i*G.length+y) 0)=(((F[i]'HLT.out).1.map (fun x=>at_.getD (x*G.length+k) 0))++((G[k]'HKL.out).1.take m).map (fun y=>at_.getD (i*G.length+y) 0))++[at_.getD q 0]):=Hd_ (by
              rw[kY _ hlm,← List.append_assoc,← ex,eq,ep])
             have hEQ:=Hd_ (And.intro ex (And.intro ep eq))
             generalize hlr:(((F[i]'HLT.out).1.map (fun x=>at_.getD (x*G.length+k) 0))++((G[k]'HKL.out).1.take m).map (fun y=>at_.getD (i*G.length+y) 0))=lr at HLR HNX
             have hN:lr.length≤700000:=by rw[← hlr];simp only[List.length_append,List.length_map,List.length_take];have:=HLN.out;omega
             have hLR:=HLR.out
             obtain⟨al,cl,rfl,-,-⟩:=az hLR.el
             have hor:=hLR.el
             have hzr:=hLR.ext.size
             generalize hat:at_.getD q 0=aq at *
             clear ex ep eq hMx hIL hIR hLR hlr hxi hql hat
             go_wp2_with (at_builtin;refine aW rfl (.tmp 77) (.tmp 94) 80 rfl wa.heap.size 3 i0 (.int .i64 0) 1 8 underlying80 hi0 hz0 hz1 hz2 rfl (by decide) (.slice al lr.length cl) lr.length _ rfl (hor.alloc _) _ 1 _ [.int .i64 ((aq:Nat):Int)] rfl rfl (.inr ⟨_,rfl,bq (aO _ _ _)⟩) one_cell (by unfold maxLen;omega) (by omega) (by rw[sA_];omega) ?_;intro v5 w5 ho5 hg5 hl5)
             go_roundw
             case rel=>exact⟨m+1,by go_num,HLM.out,Hd_ (by rw[HNX.out];exact HLR.out.Pd ho5 hg5 hl5)⟩
             case measure=>have:=HLM.out;simp[intOf];omega
           · have hml:¬ (((m:Nat):Int)<((((G[k]'HKL.out).1.length:Nat):Nat):Int)):=by omega
             have hme:m=(G[k]'HKL.out).1.length:=by omega
             have Q7:Hid (LR wa wr u10 (.slice (some ⟨wa.heap.size+1,0,none⟩) 0 0) (((F[i]'HLT.out).1.map (fun x=>at_.getD (x*G.length+k) 0))++((G[k]'HKL.out).1).map (fun y=>at_.getD (i*G.length+y) 0)) []):=Hd_ (by have:=HLR.out;rw[hme,List.take_length] at this;exact this)
             clear hme hlm hMx hIL hIR HLR
             obtain⟨lv1,elv⟩:∃ lv1,lv1=u10:=⟨_,rfl⟩
             rw[← elv] at Q7 ⊢
             clear elv
             go_wp2
             go_loopw [11,14] (fun rv mm wr=>∃ m:Nat,mm=.int .i64 ((m:Nat):Int)∧m≤(F[i]'HLT.out).2.length∧Hid (LR wa wr lv1 rv (((F[i]'HLT.out).1.map (fun x=>at_.getD (x*G.length+k) 0))++(G[k]'HKL.out).1.map (fun y=>at_.getD (i*G.length+y) 0)) (((F[i]'HLT.out).2.take m).map (fun x=>at_.getD (x*G.length+k) 0)))) (fun _ mm _=>(F[i]'HLT.out).2.length-(intOf mm).toNat)
             case atStart=>exact⟨0,rfl,Nat.zero_le _,Hd_ (by simp only[List.take_zero,List.map_nil,List.append_nil];exact Q7.out)⟩
             case round =>
              obtain⟨m,rfl,hm,HLR⟩:=hrel
              have hMx:=HM.out.ext' HLR.out.ext
              have cb:=cell_of_row wr (w.heap.size) 0 _ _ _ hMx.b0
              simp only[gE] at cb
              obtain⟨bX,cX,aL,cL,aR,cR,he,-,nl,nr,hIL,hIR⟩:=(HF.out.ext hMx.ext).at HLT.out
              simp only[Value.slice.injEq,true_and,Option.some.injEq,Addr.mk.injEq,and_true] at he
              obtain⟨rfl,rfl⟩:=he
              have hxl:((i:Nat):Int)<((F.length:Nat):Int):=by have:=HLT.out;omega
              by_cases hlm:m<(F[i]'HLT.out).2.length
              · have hml:((m:Nat):Int)<((((F[i]'HLT.out).2.length:Nat):Nat):Int):=by omega
                have HLM:=Hd_ hlm
                have hlb:(F[i]'HLT.out).2.length≤300000:=by have:=HLN.out;omega
                obtain⟨bc,oc,eac,hcell⟩:=qy hIR hlm
                subst eac
                obtain⟨x,ex⟩:∃ x,x=((F[i]'HLT.out).2)[m]'hlm:=⟨_,rfl⟩
                have hxi:x<i:=by rw[ex];exact(HGF.out.wf i _ (List.getElem?_eq_getElem HLT.out)).2 _ (List.getElem_mem _)
                rw[← ex] at hcell
                obtain⟨p,ep⟩:∃ p,p=x*G.length:=⟨_,rfl⟩
                obtain⟨q,eq⟩:∃ q,q=p+k:=⟨_,rfl⟩
                have hmul:((x:Nat):Int)*((G.length:Nat):Int)=((p:Nat):Int):=by rw[ep];exact(Int.natCast_mul _ _).symm
                have hadd:((p:Nat):Int)+((k:Nat):Int)=((q:Nat):Int):=by rw[eq];exact(Int.natCast_add _ _).symm
                have hql:q<at_.length:=by rw[eq,ep,HS.out.1];have:=oU hxi HKL.out;omega
                have hq3:at_.length≤300000:=HAL.out
                obtain⟨gA,eA,hca⟩:=rP hMx.own hql
                subst eA
                have Lu:((q:Nat):Int)<((at_.length:Nat):Int):=by omega
                have HNX:Hid (((F[i]'HLT.out).2.take (m+1)).map (fun x=>at_.getD (x*G.length+k) 0)=(((F[i]'HLT.out).2.take m).map (fun x=>at_.getD (x*G.length+k) 0))++[at_.getD q 0]):=Hd_ (by
                 rw[kY _ hlm,← ex,eq,ep])
                have hEQ:=Hd_ (And.intro ex (And.intro ep eq))
                generalize hlr:(((F[i]'HLT.out).2.take m).map (fun x=>at_.getD (x*G.length+k) 0))=lr at HLR HNX
                have hN:lr.length≤700000:=by rw[← hlr];simp only[List.length_append,List.length_map,List.length_take];have:=HLN.out;omega
                have hLR:=HLR.out
                obtain⟨al,cl,rfl,-,-⟩:=az hLR.er
                have hor:=hLR.er
                have hzr:=hLR.ext.size
                generalize hat:at_.getD q 0=aq at *
                clear ex ep eq hMx hIL hIR hLR hlr hxi hql hat
                go_wp2_with (at_builtin;refine aW rfl (.tmp 107) (.tmp 124) 80 rfl wa.heap.size 3 i0 (.int .i64 0) 1 8 underlying80 hi0 hz0 hz1 hz2 rfl (by decide) (.slice al lr.length cl) lr.length _ rfl (hor.alloc _) _ 1 _ [.int .i64 ((aq:Nat):Int)] rfl rfl (.inr ⟨_,rfl,bq (aO _ _ _)⟩) one_cell (by unfold maxLen;omega) (by omega) (by rw[sA_];omega) ?_;intro v5 w5 ho5 hg5 hl5)
                go_roundw
                case rel=>exact⟨m+1,by go_num,HLM.out,Hd_ (by rw[HNX.out];exact HLR.out.Pb ho5 hg5 hl5)⟩
                case measure=>have:=HLM.out;simp[intOf];omega
              · have hml:¬ (((m:Nat):Int)<((((F[i]'HLT.out).2.length:Nat):Nat):Int)):=by omega
                have hme:m=(F[i]'HLT.out).2.length:=by omega
                have TY:Hid (LR wa wr lv1 u11 (((F[i]'HLT.out).1.map (fun x=>at_.getD (x*G.length+k) 0))++(G[k]'HKL.out).1.map (fun y=>at_.getD (i*G.length+y) 0)) (((F[i]'HLT.out).2).map (fun x=>at_.getD (x*G.length+k) 0))):=Hd_ (by have:=HLR.out;rw[hme,List.take_length] at this;exact this)
                clear hme hlm hMx hIL hIR HLR
                go_wp2
                go_loopw [11,15] (fun rv mm wr=>∃ m:Nat,mm=.int .i64 ((m:Nat):Int)∧m≤(G[k]'HKL.out).2.length∧Hid (LR wa wr lv1 rv (((F[i]'HLT.out).1.map (fun x=>at_.getD (x*G.length+k) 0))++(G[k]'HKL.out).1.map (fun y=>at_.getD (i*G.length+y) 0)) (((F[i]'HLT.out).2.map (fun x=>at_.getD (x*G.length+k) 0))++((G[k]'HKL.out).2.take m).map (fun y=>at_.getD (i*G.length+y) 0)))) (fun _ mm _=>(G[k]'HKL.out).2.length-(intOf mm).toNat)
                case atStart=>exact⟨0,rfl,Nat.zero_le _,Hd_ (by simp only[List.take_zero,List.map_nil,List.append_nil];exact TY.out)⟩
                case round =>
                 obtain⟨m,rfl,hm,HLR⟩:=hrel
                 have hMx:=HM.out.ext' HLR.out.ext
                 have cb:=cell_of_row wr (w.heap.size+1) 0 _ _ _ hMx.b1
                 simp only[gE] at cb
                 obtain⟨bX,cX,aL,cL,aR,cR,he,-,nl,nr,hIL,hIR⟩:=(HG.out.ext hMx.ext).at HKL.out
                 simp only[Value.slice.injEq,true_and,Option.some.injEq,Addr.mk.injEq,and_true] at he
                 obtain⟨rfl,rfl⟩:=he
                 have hxl:((k:Nat):Int)<((G.length:Nat):Int):=by have:=HKL.out;omega
                 by_cases hlm:m<(G[k]'HKL.out).2.length
                 · have hml:((m:Nat):Int)<((((G[k]'HKL.out).2.length:Nat):Nat):Int):=by omega
                   have HLM:=Hd_ hlm
                   have hlb:(G[k]'HKL.out).2.length≤300000:=by have:=HLN.out;omega
                   obtain⟨bc,oc,eac,hcell⟩:=qy hIR hlm
                   subst eac
                   obtain⟨x,ex⟩:∃ x,x=((G[k]'HKL.out).2)[m]'hlm:=⟨_,rfl⟩
                   have hxi:x<k:=by rw[ex];exact(HGG.out.wf k _ (List.getElem?_eq_getElem HKL.out)).2 _ (List.getElem_mem _)
                   rw[← ex] at hcell
                   obtain⟨p,ep⟩:∃ p,p=i*G.length:=⟨_,rfl⟩
                   obtain⟨q,eq⟩:∃ q,q=p+x:=⟨_,rfl⟩
                   have hmul:((i:Nat):Int)*((G.length:Nat):Int)=((p:Nat):Int):=by rw[ep];exact(Int.natCast_mul _ _).symm
                   have hadd:((p:Nat):Int)+((x:Nat):Int)=((q:Nat):Int):=by rw[eq];exact(Int.natCast_add _ _).symm
                   have hql:q<at_.length:=by rw[eq,ep,HS.out.1];omega
                   have hq3:at_.length≤300000:=HAL.out
                   obtain⟨gA,eA,hca⟩:=rP hMx.own hql
                   subst eA
                   have Lu:((q:Nat):Int)<((at_.length:Nat):Int):=by omega
                   have HNX:Hid (((F[i]'HLT.out).2.map (fun x=>at_.getD (x*G.length+k) 0))++((G[k]'HKL.out).2.take (m+1)).map (fun y=>at_.getD (i*G.length+y) 0)=(((F[i]'HLT.out).2.map (fun x=>at_.getD (x*G.length+k) 0))++((G[k]'HKL.out).2.take m).map (fun y=>at_.getD (i*G.length+y) 0))++[at_.getD q 0]):=Hd_ (by
                    rw[kY _ hlm,← List.append_assoc,← ex,eq,ep])
                   have hEQ:=Hd_ (And.intro ex (And.intro ep eq))
                   generalize hlr:(((F[i]'HLT.out).2.map (fun x=>at_.getD (x*G.length+k) 0))++((G[k]'HKL.out).2.take m).map (fun y=>at_.getD (i*G.length+y) 0))=lr at HLR HNX
                   have hN:lr.length≤700000:=by rw[← hlr];simp only[List.length_append,List.length_map,List.length_take];have:=HLN.out;omega
                   have hLR:=HLR.out
                   obtain⟨al,cl,rfl,-,-⟩:=az hLR.er
                   have hor:=hLR.er
                   have hzr:=hLR.ext.size
                   generalize hat:at_.getD q 0=aq at *
                   clear ex ep eq hMx hIL hIR hLR hlr hxi hql hat
                   go_wp2_with (at_builtin;refine aW rfl (.tmp 137) (.tmp 154) 80 rfl wa.heap.size 3 i0 (.int .i64 0) 1 8 underlying80 hi0 hz0 hz1 hz2 rfl (by decide) (.slice al lr.length cl) lr.length _ rfl (hor.alloc _) _ 1 _ [.int .i64 ((aq:Nat):Int)] rfl rfl (.inr ⟨_,rfl,bq (aO _ _ _)⟩) one_cell (by unfold maxLen;omega) (by omega) (by rw[sA_];omega) ?_;intro v5 w5 ho5 hg5 hl5)
                   go_roundw
                   case rel=>exact⟨m+1,by go_num,HLM.out,Hd_ (by rw[HNX.out];exact HLR.out.Pb ho5 hg5 hl5)⟩
                   case measure=>have:=HLM.out;simp[intOf];omega
                 · have hml:¬ (((m:Nat):Int)<((((G[k]'HKL.out).2.length:Nat):Nat):Int)):=by omega
                   have hme:m=(G[k]'HKL.out).2.length:=by omega
                   have Ng:Hid (LR wa wr lv1 u11 (((F[i]'HLT.out).1.map (fun x=>at_.getD (x*G.length+k) 0))++(G[k]'HKL.out).1.map (fun y=>at_.getD (i*G.length+y) 0)) (((F[i]'HLT.out).2.map (fun x=>at_.getD (x*G.length+k) 0))++((G[k]'HKL.out).2).map (fun y=>at_.getD (i*G.length+y) 0))):=Hd_ (by have:=HLR.out;rw[hme,List.take_length] at this;exact this)
                   clear hme hlm hMx hIL hIR HLR
                   have hMx:=HM.out.ext' Ng.out.ext
                   have eL:qO F G at_ i k=(((F[i]'HLT.out).1.map (fun x=>at_.getD (x*G.length+k) 0))++(G[k]'HKL.out).1.map (fun y=>at_.getD (i*G.length+y) 0)):=by unfold qO;rw[qD HLT.out,qD HKL.out]
                   have eR:qN F G at_ i k=(((F[i]'HLT.out).2.map (fun x=>at_.getD (x*G.length+k) 0))++(G[k]'HKL.out).2.map (fun y=>at_.getD (i*G.length+y) 0)):=by unfold qN;rw[qD HLT.out,qD HKL.out]
                   have hLR:=Ng.out
                   rw[← eL,← eR] at hLR
                   have hll:(qO F G at_ i k).length≤700000:=by rw[eL];simp only[List.length_append,List.length_map];have:=HLN.out;omega
                   have hlr:(qN F G at_ i k).length≤700000:=by rw[eR];simp only[List.length_append,List.length_map];have:=HLN.out;omega
                   obtain⟨hb1,hb2⟩:=N8 HS.out.2 HGF.out.wf HGG.out.wf HLT.out HKL.out HS.out.1
                   have hDl:=hMx.len
                   have hAl:=HAL.out
                   have hput:Calls prog 134 #[.pointer (some ⟨w.heap.size+3,0,none⟩),lv1,u11] wr (zO (w.heap.size+3) vn vb D (qO F G at_ i k) (qN F G at_ i k) wr) :=
                    oQ (w.heap.size+3) vn vb D _ _ _ _ wr hMx.bk (Ints.bG hLR.el (by rw[aj];omega)) (Ints.bG hLR.er (by rw[aj];omega)) hb1 hb2 (by omega) (by omega) (by omega)
                   obtain⟨al,cl,rfl,-,-⟩:=az hLR.el
                   obtain⟨ar,cr,rfl,-,-⟩:=az hLR.er
                   have HMX:=Hd_ hMx
                   have UH:=hMx.go.keep.size
                   have RY:w.heap.size+4≤we.heap.size:=by have:=HZE.out;omega
                   have hrw:=fun (w3:World) (hK:bg (InS (w.heap.size+3) vn vb) wr w3)=>aI hMx.own hK (fun b hb=>(hMx.sep b hb).2.ins)
                   clear hLR Ng eL eR hMx
                   go_wp2_with (first
                    | (go_at_call 134;refine hput.mono ?_;rintro e w3 ⟨vn2,vb2,D2,i2,rfl,hB3,hK3,hS3,hQ3,hP3⟩;have hor:=hrw w3 hK3;have hz3:=hK3.size)
                    | (at_builtin;refine aW rfl (.tmp 156) (.tmp 161) 80 rfl we.heap.size 3 i0 (.int .i64 0) 1 8 underlying80 hi0 hz0 hz1 hz2 rfl (by decide) (.slice aA at_.length cA) at_.length _ rfl (hor.alloc _) _ 1 _ [.int .i64 ((i2:Nat):Int)] rfl rfl (.inr ⟨_,rfl,bq (aO _ _ _)⟩) one_cell (by unfold maxLen;omega) (by omega) (by rw[sA_];omega) ?_;intro v5 w5 ho5 hg5 hl5))
                   go_roundg (G.length-(k+1))
                   case measure=>have:=HKL.out;have:=HGK.out;omega
                   case rel =>
                    have hgo:=dz.BX hK3 hS3 hQ3 hP3
                    have h1:=HMX.out.bk.good.wf
                    have h2:=hB3.good.wf
                    exact⟨k+1,vn2,vb2,D2,at_++[i2],by go_num,HKL.out,HMX.out.push hB3 hgo hP3 (by omega) ho5 hg5 hl5,Hd_ ⟨by rw[List.length_append,HS.out.1];simp;omega,(HS.out.2.more h1 h2 hgo.more).snoc HS.out.1 HKL.out hP3.lt (Kt h1 h2 HGF.out.wf HGG.out.wf HLT.out HKL.out HS.out.2 HS.out.1 hP3)⟩,Hd_ rfl⟩
     · have hke:¬ (((k:Nat):Int)<((G.length:Nat):Int)):=by omega
       have HKK:Hid (k=G.length):=Hd_ (by omega)
       clear hkl
       go_wp2
       go_roundw
       case rel=>exact⟨i+1,vn,vb,D,at_,by go_num,HLT.out,hM,Hd_ ⟨by rw[HS.out.1,HKK.out,Nat.succ_mul],HS.out.2⟩⟩
       case measure=>have:=HLT.out;simp[intOf];omega
  · have hil:¬ (((i:Nat):Int)<((F.length:Nat):Int)):=by omega
    have hie:i=F.length:=by omega
    have hlen:at_.length=F.length*G.length:=by rw[HS.out.1,hie]
    have hpos:0<at_.length:=by rw[hlen];exact Nat.mul_pos f0 g0
    have hroot:(F.length-1)*G.length+(G.length-1)<at_.length:=by rw[hlen];exact oU (by omega) (by omega)
    have PY:at_.length-1=(F.length-1)*G.length+(G.length-1):=by
     have e:F.length*G.length=(F.length-1)*G.length+G.length:=by
      conv=>lhs;rw[show F.length=(F.length-1)+1 by omega,Nat.add_mul,Nat.one_mul]
     omega
    obtain⟨hrl,hrs⟩:=HS.out.2.at (i:=F.length-1) (k:=G.length-1) (by omega) hroot
    rw[← PY] at hrl hrs
    obtain⟨gA,eA,hcell⟩:∃ gA,∃ cA,u7=.slice (some ⟨gA,0,none⟩) at_.length cA∧wr.cell? ⟨gA,at_.length-1,none⟩=some (.int .i64 ((at_.getD (at_.length-1) 0:Nat):Int)):=by
     obtain⟨a,c,rfl,-,-⟩:=az hM.own
     obtain⟨g,rfl,hc⟩:=rP hM.own (q:=at_.length-1) (by omega)
     exact⟨g,c,rfl,hc⟩
    obtain⟨rfl,hcell⟩:=hcell
    have hB:=hM.bk
    have hres:=hM.b2
    have hzr:=hM.ext.size
    have hsm:∀ H:Dag,Cgt.dH H→Same (bE H) (vl D (at_.getD (at_.length-1) 0))→H.length≤F.length*G.length:=fun H hI hS=>by
     have:=sQ (at_:=List.range D.length) hB.good hrl hI hS (List.mem_range.2 hrl) (fun j side x hj hx=>List.mem_range.2 (by have:=fH hB.good.wf hx;have:=List.mem_range.1 hj;omega))
     rw[List.length_range] at this
     have:=hM.len
     omega
    have PM:Same (vl D (at_.getD (at_.length-1) 0)) (plus (bE F) (bE G)):=hrs
    have HSM:=Hd_ (And.intro hsm PM)
    have HE:=Hd_ hM.ext
    have hal:at_.length≤300000:=by rw[hlen];exact NW.out
    obtain⟨nA,hnA⟩:∃ nA,nA=at_.length:=⟨_,rfl⟩
    rw[← hnA] at hpos hal hcell hrl ⊢
    rw[← hnA] at HSM
    generalize at_.getD (nA-1) 0=root at *
    have hwk:wrap64 ((nA:Int)-1)=((nA-1:Nat):Int):=by unfold wrap64;omega
    have hb9:((nA-1:Nat):Int)<(nA:Int):=by omega
    clear hM HS hsm hrs PM hlen hroot PY hie hnA
    go_wp2_with (first
     | (go_at_call 133;refine(sS _ vn vb D root _ hB hrl).mono ?_;rintro e w7 ⟨vN,F',rfl,hN7,hIF,hS7,hx7⟩
        obtain⟨aN,cN,rfl,-⟩:=id hN7
        have mf:w7.heap[w.heap.size+2]?=some (.cells #[.slice none 0 0] 28 (0,0)):=by rw[hx7.block _ (ah hres)];exact hres
        have cr7:=cell_of_row w7 (w.heap.size+2) 0 _ _ _ mf
        have fr7:=frozen_of_row w7 (w.heap.size+2) 0 _ _ mf
        have hh:=heap_setCell_same w7 (w.heap.size+2) 0 _ _ (.slice aN F'.length cN) mf
        have HH:Hid ((w7.setCell ⟨w.heap.size+2,0,none⟩ (.slice aN F'.length cN)).heap[w.heap.size+2]?=some (.cells #[.slice aN F'.length cN] 28 (0,0))):=hh
        clear hh))
    (try simp only[Exit.inBlock,Exit.then])
    refine bodyPost_ret (results_cell_row rfl _ _ (w.heap.size+2) 28 #[.slice aN F'.length cN] (0,0) _ rfl HH.out underlying28 rfl (by kernel_rfl)) rfl ?_
    have hE7:Ext w w7:=aa HE.out hx7
    have hN8:=(hN7.set (p:=⟨w.heap.size+2,0,none⟩) (by show w.heap.size+2<wr.heap.size;exact ah hres) (.slice aN F'.length cN)).weaken (base':=w.heap.size) HE.out.size
    exact⟨_,F',rfl,hN8,hIF,Cgt.gu hS7 HSM.out.2,HSM.out.1 F' hIF hS7,hE7.setCell (p:=⟨w.heap.size+2,0,none⟩) (by show w.heap.size≤w.heap.size+2;omega) _⟩
end Go.Proofs.YteknjeohbcgpdaaGreatDoor