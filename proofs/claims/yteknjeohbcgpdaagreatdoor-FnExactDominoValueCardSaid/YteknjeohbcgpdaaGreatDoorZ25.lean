/-
  Contract of the reference's l3Make. (4 texts.)
-/
import Derived.Test.YteknjeohbcgpdaaGreatDoorZ14
import Derived.Test.YteknjeohbcgpdaaGreatDoorZ24
set_option maxRecDepth 100000
namespace Go.Proofs.YteknjeohbcgpdaaGreatDoor
open Tryz
section
open Go.RowKit
open Cgt (Dag Nd vl Same)
def iU (F:Dag):Bool:=decide (1≤F.length∧F.length≤120∧∀ i (h:i<F.length),(F[i]).1.length≤24∧(F[i]).2.length≤24)
set_option maxHeartbeats 2000000 in
theorem yC (vf:Value) (F:Dag) (w:World) (hf:bP w 0 vf F):Calls prog 135 #[.agg #[vf]] w fun e w'=>e=.returned (.bool (iU F))∧Ext w w':=by
 obtain⟨aF,fD,rfl,hcap,hml,-⟩:=id hf
 go_enter Tryz.func135,Tryz.ntmps135
 go_wp2
 have hxb:Ext w (w.alloc (.cells #[.slice aF F.length fD] 28)):=by go_grown
 have hbx:=cell_of_row (w.alloc (.cells #[.slice aF F.length fD] 28)) w.heap.size 0 _ _ _ (heap_alloc_new w _)
 generalize hW:w.alloc (.cells #[.slice aF F.length fD] 28)=W at *
 generalize hp:w.heap.size=p at *
 clear hW hp
 go_loopw [3] (fun kk wr=>wr=W∧∃ k,k≤F.length∧k≤121∧kk=.int .i64 ((k:Nat):Int)∧Hid (∀ i (h:i<F.length),i<k→(F[i]).1.length≤24∧(F[i]).2.length≤24)) (fun kk _=>F.length-(intOf kk).toNat)
 case atStart=>exact⟨rfl,0,Nat.zero_le _,by omega,rfl,fun i _ h=>absurd h (by omega)⟩
 case round =>
  obtain⟨rfl,k,hk,hk2,rfl,HP⟩:=hrel
  by_cases hlt:k<F.length
  · by_cases Vq:k≤120
    · obtain⟨bF,cF,aL,cL,aR,cR,he,hcF,cl,cr,-,-⟩:=hf.at hlt
      simp only[Value.slice.injEq] at he
      obtain⟨rfl,-,rfl⟩:=he
      have cl':=(hxb.cell (lt_of_cell cl)).trans cl
      have cr':=(hxb.cell (lt_of_cell cr)).trans cr
      have h1:((k:Nat):Int)<(F.length:Int):=by omega
      have h2:((k:Nat):Int)≤120:=by omega
      clear cl cr hf
      by_cases hl:(F[k]).1.length≤24
      · have hl1:¬ ((24:Int)<((F[k]).1.length:Int)):=by omega
        by_cases hr:(F[k]).2.length≤24
        · have hr1:¬ ((24:Int)<((F[k]).2.length:Int)):=by omega
          have HL:=Hd_ hl
          have HR:=Hd_ hr
          clear hl hr
          go_wp2
          go_roundw
          case rel=>exact⟨trivial,k+1,by omega,by omega,by go_num,fun i hi hik=>by
           by_cases e:i=k
           · subst e;exact⟨HL.out,HR.out⟩
           · exact HP.out i hi (by omega)⟩
          case measure=>simp[intOf];omega
        · have hr1:((24:Int)<((F[k]).2.length:Int)):=by omega
          have HR:=Hd_ hr
          clear hl hr
          go_wp2
          go_ret
          exact⟨bQ (by symm;rw[iU];exact decide_eq_false (fun h=>HR.out (h.2.2 k hlt).2)),hxb⟩
      · have hl1:((24:Int)<((F[k]).1.length:Int)):=by omega
        have HL:=Hd_ hl
        clear hl
        go_wp2
        go_ret
        exact⟨bQ (by symm;rw[iU];exact decide_eq_false (fun h=>HL.out (h.2.2 k hlt).1)),hxb⟩
    · have h1:((k:Nat):Int)<(F.length:Int):=by omega
      have h2:¬ (((k:Nat):Int)≤120):=by omega
      go_wp2_with (go_at_call 60;refine(fC _ _ _ _).mono ?_;rintro e w1 ⟨rfl,n,rfl⟩)
      go_ret
      refine⟨bQ ?_,bN hxb _⟩
      have:iU F=false:=by rw[iU];exact decide_eq_false (fun h=>by omega)
      rw[this];simp[inB];omega
  · have h1:¬ (((k:Nat):Int)<(F.length:Int)):=by omega
    go_wp2_with (go_at_call 60;refine(fC _ _ _ _).mono ?_;rintro e w1 ⟨rfl,n,rfl⟩)
    go_ret
    refine⟨bQ ?_,bN hxb _⟩
    have hall:=HP.out
    rw[iU,inB,← Bool.decide_and]
    refine decide_eq_decide.2 ⟨fun h=>⟨by omega,by omega,fun i hi=>hall i hi (by omega)⟩,fun h=>⟨by omega,by omega⟩⟩
def Ky:List Row:=[⟨0,[],21,[2]⟩,⟨1,[0],22,[20]⟩,⟨2,[],23,[5]⟩,⟨3,[1,2],24,[21,22]⟩,⟨4,[3],25,[23]⟩,⟨5,[4],26,[24]⟩,⟨6,[],27,[3]⟩,⟨7,[6],28,[26]⟩,⟨8,[],29,[5]⟩,⟨9,[7,8],30,[27,28]⟩,⟨10,[9],31,[29]⟩,⟨11,[10],32,[30]⟩,⟨12,[5,11],33,[25,31]⟩,⟨13,[12],34,[32]⟩,⟨14,[13,12],35,[33]⟩,⟨15,[14],36,[2,34]⟩,⟨16,[15,14],37,[35,34]⟩,⟨17,[14],38,[5,34]⟩,⟨18,[16,17,14],39,[36,37,34]⟩,⟨19,[18,14],40,[38,34]⟩,⟨20,[19,14],41,[39,34]⟩,⟨21,[14],42,[3,34]⟩,⟨22,[21,14],43,[41,34]⟩,⟨23,[14],44,[5,34]⟩,⟨24,[22,23,14],45,[42,43,34]⟩,⟨25,[24,14],46,[44,34]⟩,⟨26,[25,14],47,[45,34]⟩,⟨27,[20,26,14,14],48,[40,46,34]⟩,⟨28,[27,14],49,[47,34]⟩,⟨29,[14,28],50,[34,48]⟩]
set_option maxHeartbeats 2000000 in
theorem F8 (va vb:Value) (F:Dag) (w:World) (ha:bP w 0 va F) (hb:bP w 0 vb F):Calls prog 137 #[.agg #[va],.agg #[vb]] w fun e w'=>e=.returned (.bool true)∧Ext w w':=by
 obtain⟨aA,sV,rfl,-⟩:=id ha
 obtain⟨aB,uV,rfl,hcapB,hml,-⟩:=id hb
 go_enter Tryz.func137,Tryz.ntmps137
 go_wp2
 have hxb:Ext w ((w.alloc (.cells #[.slice aA F.length sV] 28)).alloc (.cells #[.slice aB F.length uV] 28)):=by go_grown
 have hq:=heap_alloc_new (w.alloc (.cells #[.slice aA F.length sV] 28)) (.cells #[.slice aB F.length uV] 28)
 have hp:((w.alloc (.cells #[.slice aA F.length sV] 28)).alloc (.cells #[.slice aB F.length uV] 28)).heap[w.heap.size]?=some (.cells #[.slice aA F.length sV] 28 (0,0)):=by
  rw[Below.heap_alloc _ _ _ (by simp)];exact heap_alloc_new _ _
 rw[sA_] at hq
 generalize hW:(w.alloc (.cells #[.slice aA F.length sV] 28)).alloc (.cells #[.slice aB F.length uV] 28)=W at *
 generalize hqq:w.heap.size+1=q at *
 generalize hpp:w.heap.size=p at *
 clear hW hqq hpp
 go_loopw [5] (fun kk wr=>∃ k,k≤F.length∧kk=.int .i64 ((k:Nat):Int)∧Ext W wr) (fun kk _=>F.length-(intOf kk).toNat)
 case atStart=>exact⟨0,Nat.zero_le _,rfl,Below.refl _ _⟩
 case round =>
  obtain⟨k,hk,rfl,hx⟩:=hrel
  have hE:=aa hxb hx
  have hp1:wr.heap[p]?=some (.cells #[.slice aA F.length sV] 28 (0,0)):=by rw[hx.block _ (ah hp)];exact hp
  have hq1:wr.heap[q]?=some (.cells #[.slice aB F.length uV] 28 (0,0)):=by rw[hx.block _ (ah hq)];exact hq
  have cp:=cell_of_row wr p 0 _ _ _ hp1
  have cq:=cell_of_row wr q 0 _ _ _ hq1
  by_cases hlt:k<F.length
  · have h1:((k:Nat):Int)<(F.length:Int):=by omega
    obtain⟨bA,cA,aL,cL,aR,cR,he,hcA,cl,cr,hIL,hIR⟩:=(ha.ext hE).at hlt
    simp only[Value.slice.injEq] at he
    obtain⟨rfl,-,rfl⟩:=he
    obtain⟨bB,cB,aL2,cL2,aR2,cR2,he,hcB,cl2,cr2,QF,QE⟩:=(hb.ext hE).at hlt
    simp only[Value.slice.injEq] at he
    obtain⟨rfl,-,rfl⟩:=he
    have HIL:=Hd_ hIL
    have HIR:=Hd_ hIR
    have Ud:=Hd_ QF
    have Uc:=Hd_ QE
    have HX:=Hd_ hx
    have HLT:=Hd_ hlt
    have hwk:wrap64 ((k:Int)+1)=(k:Int)+1:=by unfold maxLen at hml;unfold wrap64;omega
    clear hIL hIR QF QE hx hE hp1 hq1
    have s1:iT (toZ (F[k]).1) (toZ (F[k]).1)=true:=by simp[iT]
    have s2:iT (toZ (F[k]).2) (toZ (F[k]).2)=true:=by simp[iT]
    go_wp2_with fail
    refine bz (fun W=>W.cell? ⟨p,0,none⟩=some (.slice (some ⟨bA,0,none⟩) F.length sV)∧W.cell? ⟨q,0,none⟩=some (.slice (some ⟨bB,0,none⟩) F.length uV)∧W.cell? ⟨bA,k*2,none⟩=some (.slice aL (F[k]).1.length cL)∧W.cell? ⟨bA,k*2+1,none⟩=some (.slice aR (F[k]).2.length cR)∧W.cell? ⟨bB,k*2,none⟩=some (.slice aL2 (F[k]).1.length cL2)∧W.cell? ⟨bB,k*2+1,none⟩=some (.slice aR2 (F[k]).2.length cR2)) [27,28,29] Ky (by kernel_rfl) ⟨by kernel_rfl,by kernel_rfl,by kernel_rfl⟩ ⟨cp,cq,cl,cr,cl2,cr2⟩ (fun ae hHeld=>?_)
    ((refine tkB ae (i:=0) hHeld ?_);(try simp only[nP]);(refine tkB ae (i:=1) hHeld ?_);(try simp only[nP]);(refine tkB ae (i:=2) hHeld ?_);(try simp only[nP]);(refine tkB ae (i:=3) hHeld ?_);(try simp only[nP]);(refine tkB ae (i:=4) hHeld ?_);(try simp only[nP]);(refine tkB ae (i:=5) hHeld ?_);(try simp only[nP]);(refine tkB ae (i:=6) hHeld ?_);(try simp only[nP]);(refine tkB ae (i:=7) hHeld ?_);(try simp only[nP]);(refine tkB ae (i:=8) hHeld ?_);(try simp only[nP]);(refine tkB ae (i:=9) hHeld ?_);(try simp only[nP]);(refine tkB ae (i:=10) hHeld ?_);(try simp only[nP]);(refine tkB ae (i:=11) hHeld ?_);(try simp only[nP]))
    (refine stB ae (i:=12) fun K hK=>?_;go_simp)
    refine(l8 _ _ (toZ (F[k]).1) (toZ (F[k]).1) _ (HIL.out.ext (by exact⟨rfl,rfl,rfl,Nat.le_refl _,fun _ _=>rfl⟩)) (Ud.out.ext (by exact⟨rfl,rfl,rfl,Nat.le_refl _,fun _ _=>rfl⟩))).mono ?_
    rintro e w1 ⟨he,n1,rfl⟩
    rw[s1] at he
    subst he
    have hEn:Ext wr.drew (wr.drew.drewN n1):=⟨rfl,rfl,rfl,Nat.le_refl _,fun _ _=>rfl⟩
    obtain⟨z1,z2,z3,z4,z5,z6⟩:=hHeld
    have hHeld:(fun W:World=>W.cell? ⟨p,0,none⟩=some (.slice (some ⟨bA,0,none⟩) F.length sV)∧W.cell? ⟨q,0,none⟩=some (.slice (some ⟨bB,0,none⟩) F.length uV)∧W.cell? ⟨bA,k*2,none⟩=some (.slice aL (F[k]).1.length cL)∧W.cell? ⟨bA,k*2+1,none⟩=some (.slice aR (F[k]).2.length cR)∧W.cell? ⟨bB,k*2,none⟩=some (.slice aL2 (F[k]).1.length cL2)∧W.cell? ⟨bB,k*2+1,none⟩=some (.slice aR2 (F[k]).2.length cR2)) (wr.drew.drewN n1):=⟨(hEn.cell (lt_of_cell z1)).trans z1,(hEn.cell (lt_of_cell z2)).trans z2,(hEn.cell (lt_of_cell z3)).trans z3,(hEn.cell (lt_of_cell z4)).trans z4,(hEn.cell (lt_of_cell z5)).trans z5,(hEn.cell (lt_of_cell z6)).trans z6⟩
    refine hK.out _ _ (fun _=>hHeld) ?_
    generalize hwn:wr.drew.drewN n1=wn at hHeld hEn ⊢
    clear hK K hwn z1 z2 z3 z4 z5 z6
    have hE8:Ext wr wr.drew:=⟨rfl,rfl,rfl,Nat.le_refl _,fun _ _=>rfl⟩
    have hE9:Ext wr wn:=aa hE8 hEn
    (try simp only[nP])
    ((refine tkB ae (i:=13) hHeld ?_);(try simp only[nP]);(refine tkB ae (i:=14) hHeld ?_);(try simp only[nP]);(refine tkB ae (i:=15) hHeld ?_);(try simp only[nP]);(refine tkB ae (i:=16) hHeld ?_);(try simp only[nP]);(refine tkB ae (i:=17) hHeld ?_);(try simp only[nP]);(refine tkB ae (i:=18) hHeld ?_);(try simp only[nP]);(refine tkB ae (i:=19) hHeld ?_);(try simp only[nP]);(refine tkB ae (i:=20) hHeld ?_);(try simp only[nP]);(refine tkB ae (i:=21) hHeld ?_);(try simp only[nP]);(refine tkB ae (i:=22) hHeld ?_);(try simp only[nP]);(refine tkB ae (i:=23) hHeld ?_);(try simp only[nP]);(refine tkB ae (i:=24) hHeld ?_);(try simp only[nP]);(refine tkB ae (i:=25) hHeld ?_);(try simp only[nP]);(refine tkB ae (i:=26) hHeld ?_);(try simp only[nP]))
    refine tlB ae [27,28,29] [_,_,_] ?_
    go_wp2_with fail
    refine(l8 _ _ (toZ (F[k]).2) (toZ (F[k]).2) _ ?i1 ?i2).mono ?post
    case i1=>exact HIR.out.ext hE9
    case i2=>exact Uc.out.ext hE9
    rintro e w2 ⟨he,n2,rfl⟩
    rw[s2] at he
    subst he
    go_wp2_with fail
    go_roundw
    case rel=>exact⟨k+1,by have:=HLT.out;omega,by go_num,aa HX.out (bN hE9 _)⟩
    case measure =>
     have:=HLT.out
     rw[hwk]
     simp[intOf];omega
  · have h1:¬ (((k:Nat):Int)<(F.length:Int)):=by omega
    go_wp2
    go_ret
    exact⟨rfl,hE⟩
end
section
open Go.RowKit
open Cgt (Dag Nd vl Same)
theorem Ag {l:List Nat} {k:Nat} (ha:Cgt.Asc l) (hl:∀ x,x∈l→x<k):rises (toZ l) 0 ((k:Int)-1)=true:=by
 rw[ui]
 intro j hj
 rw[aj] at hj
 rw[dN hj]
 have h1:=hl _ (List.getElem_mem hj)
 refine⟨by omega,by omega,fun h0=>?_⟩
 rw[dN (by omega)]
 have:=List.pairwise_iff_getElem.1 ha (j-1) j (by omega) hj (by omega)
 omega
theorem FK {F:Dag} (hF:Cgt.Good F) {k:Nat} (hk:k<F.length):rises (toZ (F[k]).1) 0 ((k:Int)-1)=true∧rises (toZ (F[k]).2) 0 ((k:Int)-1)=true:=by
 have h:=hF.asc _ (List.getElem_mem hk)
 have hw:=hF.wf k _ (List.getElem?_eq_getElem hk)
 exact⟨Ag h.1 hw.1,Ag h.2 hw.2⟩
def KD:List Row:=[⟨0,[],40,[4]⟩,⟨1,[],41,[4]⟩,⟨2,[],42,[1]⟩,⟨3,[1,2],43,[40,41]⟩,⟨4,[0,3,3],44,[39,42]⟩,⟨5,[],45,[1]⟩,⟨6,[4,5,4],46,[43,44]⟩,⟨7,[6,6,0,1,2,3,4,5,6],3,[45]⟩]
set_option maxHeartbeats 2000000 in
theorem F9 (vf:Value) (F:Dag) (w:World) (hf:bP w 0 vf F) (hF:Cgt.dH F):Calls prog 80 #[.agg #[vf]] w fun e w'=>e=.returned (.bool (iU F))∧Ext w w':=by
 obtain⟨aF,fD,rfl,hcap,hml,-⟩:=id hf
 have hxb:Ext w (w.alloc (.cells #[.slice aF F.length fD] 28)):=by go_grown
 cases hfit:iU F with
 | false =>
   go_enter Tryz.func80,Tryz.ntmps80
   go_wp2_with (go_at_call 135;refine(yC _ F _ (hf.ext hxb)).mono ?_;rintro e w1 ⟨he,hx1⟩;rw[hfit] at he;subst he)
   go_ret
   exact⟨rfl,aa hxb hx1⟩
 | true =>
   have hlen:F.length≤120∧0<F.length:=by
    unfold iU at hfit
    have:=of_decide_eq_true hfit
    omega
   go_enter Tryz.func80,Tryz.ntmps80
   go_wp2_with (go_at_call 135;refine(yC _ F _ (hf.ext hxb)).mono ?_;rintro e w1 ⟨he,hx1⟩;rw[hfit] at he;subst he)
   have hbx:w1.heap[w.heap.size]?=some (.cells #[.slice aF F.length fD] 28 (0,0)):=by
    rw[hx1.block _ (by rw[sA_];omega)];exact heap_alloc_new _ _
   have hE1:=aa hxb hx1
   clear hx1 hxb
   go_loopw [3] (fun kk wr=>∃ k,k≤F.length∧kk=.int .i64 ((k:Nat):Int)∧Ext w1 wr) (fun kk _=>F.length-(intOf kk).toNat)
   case atStart=>exact⟨0,Nat.zero_le _,rfl,Below.refl _ _⟩
   case round =>
    obtain⟨k,hk,rfl,hx⟩:=hrel
    have hE:=aa hE1 hx
    have hb1:wr.heap[w.heap.size]?=some (.cells #[.slice aF F.length fD] 28 (0,0)):=by rw[hx.block _ (ah hbx)];exact hbx
    have cb:=cell_of_row wr w.heap.size 0 _ _ _ hb1
    by_cases hlt:k<F.length
    · have h1:((k:Nat):Int)<(F.length:Int):=by omega
      obtain⟨bF,cF,aL,cL,aR,cR,he,hcF,cl,cr,hIL,hIR⟩:=(hf.ext hE).at hlt
      simp only[Value.slice.injEq] at he
      obtain⟨rfl,-,rfl⟩:=he
      obtain⟨r1,r2⟩:=FK hF.good hlt
      have HX:=Hd_ hx
      clear hb1 hE hx
      go_wp2_with (go_at_call 136;refine(Cn _ _ _ _ _ (by first | exact hIL | exact eX hIR _)).mono ?_;rintro e w2 ⟨he,n1,rfl⟩;(first | rw[r1] at he | rw[r2] at he);subst he)
      go_roundw
      case rel=>exact⟨k+1,by omega,by go_num,aa HX.out ⟨rfl,rfl,rfl,Nat.le_refl _,fun _ _=>rfl⟩⟩
      case measure=>simp[intOf];omega
    · have h1:¬ (((k:Nat):Int)<(F.length:Int)):=by omega
      go_wp2_with fail
      have hpb:=heap_alloc_new wr (.cells #[.slice none 0 0,.slice none 0 0] 157)
      have hBe:=oK hpb
      have hxe:Ext wr (wr.alloc (.cells #[.slice none 0 0,.slice none 0 0] 157)):=by go_grown
      have hB:kz wr (wr.alloc (.cells #[.slice none 0 0,.slice none 0 0] 157)) wr.heap.size (.slice none 0 0) (.slice none 0 0) []:=⟨hBe,fun b hb=>by
       rcases hb with h | h | h
       · omega
       · simp[Value.ownBlock] at h
       · simp[Value.ownBlock] at h,hxe⟩
      have hbw:(wr.alloc (.cells #[.slice none 0 0,.slice none 0 0] 157)).heap[w.heap.size]?=some (.cells #[.slice aF F.length fD] 28 (0,0)):=by rw[hxe.block _ (ah hb1)];exact hb1
      have hbl:=ah hb1
      generalize wr.alloc (.cells #[.slice none 0 0,.slice none 0 0] 157)=W0 at *
      have cw:=cell_of_row W0 w.heap.size 0 _ _ _ hbw
      have hd:Ext W0 W0.drew:=⟨rfl,rfl,rfl,Nat.le_refl _,fun _ _=>rfl⟩
      have hfr:=hf.ext hE
      refine bz (fun W=>W.cell? ⟨w.heap.size,0,none⟩=some (.slice aF F.length fD)) [6,7] KD (by kernel_rfl) ⟨by kernel_rfl,by kernel_rfl,by kernel_rfl⟩ cw (fun ae hHeld=>?_)
      ((refine tkB ae (i:=0) hHeld ?_);(try simp only[nP]);(refine tkB ae (i:=1) hHeld ?_);(try simp only[nP]);(refine tkB ae (i:=2) hHeld ?_);(try simp only[nP]);(refine tkB ae (i:=5) hHeld ?_);(try simp only[nP]))
      (refine stB ae (i:=3) fun K hK=>?_;go_simp)
      refine(wW _ _ _ _ _ F wr _ (hB.ext' hd) hfr hF.good hlen.2 (by simp;omega)).mono ?_
      rintro e w2 ⟨vn2,vb2,D2,i2,rfl,hB2,hG2,hD2,hi2,hS2⟩
      have hbw2:w2.heap[w.heap.size]?=some (.cells #[.slice aF F.length fD] 28 (0,0)):=by
       rw[hG2.keep.block _ (Nat.lt_of_lt_of_le (ah hbw) hd.size) (fun k=>by
        rcases k with h | h | h
        · omega
        · simp[Value.ownBlock] at h
        · simp[Value.ownBlock] at h)]
       exact hbw
      (refine hK.out _ _ (fun _=>?_) ?_)
      · exact cell_of_row w2 w.heap.size 0 _ _ _ hbw2
      clear hK K
      (try simp only[nP])
      have TN:=(hB.ext' hd).go hB2 hG2
      (refine stB ae (i:=4) fun K hK=>?_;go_simp)
      refine(sS _ _ _ D2 i2 _ hB2 hi2).mono ?_
      rintro e w3 ⟨vN,F',rfl,hN,hIF,hSF,hx3⟩
      obtain rfl:F'=F:=Cgt.wT hIF hF (Cgt.gu hSF hS2)
      (refine hK.out _ _ (fun _=>?_) ?_)
      · exact(hx3.cell (lt_of_cell (cell_of_row w2 w.heap.size 0 _ _ _ hbw2))).trans (cell_of_row w2 w.heap.size 0 _ _ _ hbw2)
      clear hK K
      (try simp only[nP])
      have hE3:=aa hE (aa TN.ext hx3)
      refine tlB ae [6,7] [_,_] ?_
      go_wp2_with (go_at_call 137;refine(F8 _ _ F' _ (hN.weaken (Nat.zero_le _)) (hf.ext hE3)).mono ?_;rintro e w4 ⟨rfl,hx4⟩)
      go_ret
      exact⟨rfl,aa hE3 hx4⟩
theorem vk (vf:Value) (F:Dag) (w:World) (hf:bP w 0 vf F) (hF:Cgt.dH F):Calls prog 39 #[.agg #[vf]] w fun e w'=>e=.returned (.bool (iU F))∧Ext w w':=by
 obtain⟨aF,fD,rfl,hcap,hml,-⟩:=id hf
 have hxb:Ext w (w.alloc (.cells #[.slice aF F.length fD] 28)):=by go_grown
 go_enter Tryz.func39,Tryz.ntmps39
 go_wp2_with (go_at_call 80;refine(F9 _ F _ (hf.ext hxb) hF).mono ?_;rintro e w1 ⟨rfl,hx1⟩)
 go_ret
 exact⟨rfl,aa hxb hx1⟩
end
section
open Go.RowKit
open Cgt (Dag Nd vl Same)
def Forms (w:World) (v:Value) (Fs:List Dag):Prop:=∃ a cap,v=.slice a Fs.length cap∧Fs.length≤cap∧Fs.length≤maxLen ∧
 (0<Fs.length→∃ b,a=some ⟨b,0,none⟩∧∀ i (h:i<Fs.length),∃ aN cN,w.cell? ⟨b,i,none⟩=some (.slice aN (Fs[i]).length cN)∧bP w 0 (.slice aN (Fs[i]).length cN) Fs[i])
theorem Forms.ext {w w':World} {v:Value} {Fs:List Dag} (h:Forms w v Fs) (hx:Ext w w'):Forms w' v Fs:=by
 obtain⟨a,cap,rfl,h1,h2,h3⟩:=h
 refine⟨a,cap,rfl,h1,h2,fun h0=>?_⟩
 obtain⟨b,rfl,hc⟩:=h3 h0
 refine⟨b,rfl,fun i hi=>?_⟩
 obtain⟨aN,cN,c1,c2⟩:=hc i hi
 exact⟨aN,cN,(hx.cell (lt_of_cell c1)).trans c1,c2.ext hx⟩
theorem Forms.at {w:World} {v:Value} {Fs:List Dag} (h:Forms w v Fs) {i:Nat} (hi:i<Fs.length) :
 ∃ b cap aN cN,v=.slice (some ⟨b,0,none⟩) Fs.length cap∧Fs.length≤cap∧w.cell? ⟨b,i,none⟩=some (.slice aN (Fs[i]).length cN)∧bP w 0 (.slice aN (Fs[i]).length cN) Fs[i]:=by
 obtain⟨a,cap,rfl,h1,h2,h3⟩:=h
 obtain⟨b,rfl,hc⟩:=h3 (by omega)
 obtain⟨aN,cN,c1,c2⟩:=hc i hi
 exact⟨b,cap,aN,cN,rfl,h1,c1,c2⟩
def sizes (Fs:List Dag):Nat:=(Fs.map List.length).sum
theorem oC {Fs:List Dag} {k:Nat} (h:k<Fs.length):sizes (Fs.take (k+1))=sizes (Fs.take k)+(Fs[k]).length:=by
 rw[List.take_succ_eq_append_getElem h,sizes,List.map_append,List.sum_append];simp[sizes]
theorem BI (Fs:List Dag) (k:Nat):sizes (Fs.take k)≤sizes Fs:=by
 conv=>rhs;rw[← List.take_append_drop k Fs]
 rw[sizes,sizes,List.map_append,List.sum_append];omega
theorem OD {D F':Dag} {root:Nat} (g:Cgt.Good D) (hr:root<D.length) (hF:Cgt.dH F') (hs:Same (Cgt.bE F') (vl D root)):F'.length≤D.length:=by
 have h:=sQ (at_:=List.range D.length) g hr hF hs (List.mem_range.2 hr) (fun j side x hj hx=>List.mem_range.2 (by have:=fH g.wf hx;have:=List.mem_range.1 hj;omega))
 simpa using h
theorem IY {D D':Dag} {ls rs:List Nat} {Ls Rs:List Dag} {i:Nat} (g:Cgt.WF D) (g':Cgt.WF D') (hl:ls.length=Ls.length) (hr:rs.length=Rs.length) (sl:∀ j (h:j<ls.length),ls[j]<D.length∧Same (vl D ls[j]) (Cgt.bE (Ls.getD j []))) (sr:∀ j (h:j<rs.length),rs[j]<D.length∧Same (vl D rs[j]) (Cgt.bE (Rs.getD j [])))
 (hp:eT D ls rs D' i):Same (vl D' i) (.mk (Ls.map Cgt.bE) (Rs.map Cgt.bE)):=by
 have key:∀ {ls:List Nat} {Ls:List Dag},ls.length=Ls.length→(∀ j (h:j<ls.length),ls[j]<D.length∧Same (vl D ls[j]) (Cgt.bE (Ls.getD j []))) →
  (∀ y,y∈(ai ls).map (vl D')→∃ z,z∈Ls.map Cgt.bE∧Same y z)∧(∀ z,z∈Ls.map Cgt.bE→∃ y,y∈(ai ls).map (vl D')∧Same y z):=by
  intro ls Ls he hs
  refine⟨fun y hy=>?_,fun z hz=>?_⟩
  · obtain⟨x,hx,rfl⟩:=List.mem_map.1 hy
    obtain⟨j,hj,rfl⟩:=List.mem_iff_getElem.1 (aK.1 hx)
    obtain⟨h1,h2⟩:=hs j hj
    refine⟨_,List.mem_map_of_mem (List.getElem_mem (l:=Ls) (n:=j) (by omega)),?_⟩
    rw[hp.vl g g' h1]
    rw[List.getD_eq_getElem?_getD,List.getElem?_eq_getElem (by omega),Option.getD_some] at h2
    exact h2
  · obtain⟨F,hF,rfl⟩:=List.mem_map.1 hz
    obtain⟨j,hj,rfl⟩:=List.mem_iff_getElem.1 hF
    obtain⟨h1,h2⟩:=hs j (by omega)
    refine⟨_,List.mem_map_of_mem (aK.2 (List.getElem_mem (by omega:j<ls.length))),?_⟩
    rw[hp.vl g g' h1]
    rw[List.getD_eq_getElem?_getD,List.getElem?_eq_getElem hj,Option.getD_some] at h2
    exact h2
 obtain⟨a,b⟩:=key hl sl
 obtain⟨c,d⟩:=key hr sr
 rw[Cgt.same_iff,Cgt.ib g' hp.1,Cgt.gZ g' hp.1]
 exact⟨a,b,c,d⟩
end
section
open Go.RowKit
open Cgt (Dag Nd vl Same)
def M0 (Ls Rs:List Dag) (w:World) (e:Ending) (w':World):Prop :=
 ∃ vN F',e=.returned (.agg #[vN])∧bP w' w.heap.size vN F'∧Cgt.dH F'∧Same (Cgt.bE F') (.mk (Ls.map Cgt.bE) (Rs.map Cgt.bE))∧F'.length≤sizes Ls+sizes Rs+1∧Ext w w'
def tu (D:Dag) (Fs:List Dag) (ls:List Nat):Prop:=∀ j (h:j<ls.length),ls[j]<D.length∧Same (vl D ls[j]) (Cgt.bE (Fs.getD j []))
theorem tu.more {D D':Dag} {Fs:List Dag} {ls:List Nat} (h:tu D Fs ls) (g:Cgt.WF D) (g':Cgt.WF D') (hm:∃ E,D'=D++E):tu D' Fs ls:=by
 obtain⟨E,rfl⟩:=hm
 intro j hj
 obtain⟨a,b⟩:=h j hj
 exact⟨by simp;omega,by rw[Cgt.dV g g' _ a];exact b⟩
theorem tu.snoc {D:Dag} {Fs:List Dag} {ls:List Nat} {i:Nat} (h:tu D Fs ls) (hi:i<D.length) (hs:Same (vl D i) (Cgt.bE (Fs.getD ls.length []))):tu D Fs (ls++[i]) :=
 pq (P:=fun a j=>a<D.length∧Same (vl D a) (Cgt.bE (Fs.getD j []))) h ⟨hi,hs⟩
set_option maxHeartbeats 4000000 in
theorem yB (va vb:Value) (Ls Rs:List Dag) (w:World) (ha:Forms w va Ls) (hb:Forms w vb Rs) (gL:∀ F,F∈Ls→Cgt.Good F∧0<F.length) (gR:∀ F,F∈Rs→Cgt.Good F∧0<F.length) (hlL:Ls.length≤1000000) (hlR:Rs.length≤1000000) (hroom:sizes Ls+sizes Rs+1≤1000000) :
 Calls prog 130 #[va,vb] w (M0 Ls Rs w):=by
 obtain⟨i0,hi0,hz0,hz1,hz2⟩:=info_parts eO
 obtain⟨aA,sV,rfl,-⟩:=id ha
 obtain⟨aB,uV,rfl,-⟩:=id hb
 go_enter Tryz.func130,Tryz.ntmps130
 go_wp2
 obtain⟨we,hwe⟩:∃ we,we=(w.alloc (.cells #[.slice none 0 0] 28)).alloc (.cells #[.slice none 0 0,.slice none 0 0] 157):=⟨_,rfl⟩
 have hze:we.heap.size=w.heap.size+2:=by rw[hwe];simp
 have hb0:we.heap[w.heap.size]?=some (.cells #[.slice none 0 0] 28 (0,0)):=by
  rw[hwe,Below.heap_alloc _ _ _ (by simp)];exact heap_alloc_new _ _
 have hb1:we.heap[w.heap.size+1]?=some (.cells #[.slice none 0 0,.slice none 0 0] 157 (0,0)):=by
  rw[hwe];have h:=heap_alloc_new (w.alloc (.cells #[.slice none 0 0] 28)) (.cells #[.slice none 0 0,.slice none 0 0] 157);rw[sA_] at h;exact h
 have hxe:Ext w we:=by rw[hwe];go_grown
 have hBe:=oK hb1
 have hB:kz w we (w.heap.size+1) (.slice none 0 0) (.slice none 0 0) []:=⟨hBe,fun b hb=>by
  rcases hb with h | h | h
  · omega
  · simp[Value.ownBlock] at h
  · simp[Value.ownBlock] at h,hxe⟩
 have hsd:∀ b,b<w.heap.size+1→Beside we (w.heap.size+1) (.slice none 0 0) (.slice none 0 0) [] b:=fun b hb=>⟨fun k=>by
  rcases k with h | h | h
  · omega
  · simp[Value.ownBlock] at h
  · simp[Value.ownBlock] at h,fun ⟨i,g,cap,v,hi,_⟩=>by simp at hi⟩
 rw[← hwe]
 have Cx:w.heap.size+1+1=we.heap.size:=by omega
 rw[Cx]
 have hxa:Ext we ((we.alloc (.cells #[] 3)).alloc (.cells #[] 3)):=by go_grown
 have hzl:w.heap.size+1<we.heap.size:=by omega
 clear hwe hze Cx
 go_loopw [6,8] (fun lv ii wr=>∃ k vn vb D ls,k≤Ls.length∧ii=.int .i64 ((k:Nat):Int)∧ls.length=k∧wr.ownsRow we.heap.size 3 1 lv k ((toZ ls).map (Value.int .i64))∧bu wr (w.heap.size+1) vn vb D∧dz we wr (w.heap.size+1) (.slice none 0 0) (.slice none 0 0) [] vn vb D∧D.length≤sizes (Ls.take k) ∧
  (∀ b,lv.ownBlock=some b→we.heap.size≤b∧Beside wr (w.heap.size+1) vn vb D b)∧wr.heap[w.heap.size]?=some (.cells #[.slice none 0 0] 28 (0,0))∧Beside wr (w.heap.size+1) vn vb D w.heap.size ∧
  wr.ownsRow we.heap.size 3 1 (.slice (some ⟨we.heap.size+1,0,none⟩) 0 0) 0 []∧Beside wr (w.heap.size+1) vn vb D (we.heap.size+1)∧lv.ownBlock≠some (we.heap.size+1)∧Hid (tu D Ls ls)) (fun _ ii _=>Ls.length-(intOf ii).toNat)
 case atStart =>
  refine⟨0,_,_,[],[],Nat.zero_le _,rfl,rfl,(dD we _ (Nat.le_refl _) _).alloc _,hBe.ext hxa,dz.ext hBe hxa,Nat.zero_le _,fun b hb=>?_,?_,(hsd _ (by omega)).goE hBe hxa,ig we _ _ (Nat.le_refl _) _,(Beside.new hBe (by omega)).goE hBe hxa,by simp[Value.ownBlock],fun j h=>absurd h (by simp)⟩
  · simp[Value.ownBlock] at hb;subst hb
    exact⟨Nat.le_refl _,(Beside.new hBe (b:=we.heap.size) (Nat.le_refl _)).goE hBe hxa⟩
  · rw[hxa.block _ (by omega)];exact hb0
 case round =>
  obtain⟨k,vn1,vb1,D1,ls,hk,rfl,hal,hown,hB1,hG1,hD1,mq,hres,hrb,hr0,hrr,hne,HA⟩:=hrel
  have hBO:=hB.go hB1 hG1
  by_cases hlt:k<Ls.length
  · have h1:((k:Nat):Int)<(Ls.length:Int):=by omega
    obtain⟨bA,cA,aN,cN,he,hcA,hcell,hN⟩:=ha.at hlt
    simp only[Value.slice.injEq] at he
    obtain⟨rfl,-,rfl⟩:=he
    have cc:=(hBO.ext.cell (lt_of_cell hcell)).trans hcell
    obtain⟨g1,g2⟩:=gL _ (List.getElem_mem hlt)
    obtain⟨aL,cL,rfl,hcL,_⟩:=az hown
    have hrm:D1.length+(Ls[k]).length≤1000000:=by have:=oC hlt;have:=BI Ls (k+1);omega
    have HT:=Hd_ (oC hlt)
    go_wp2_with (first
     | (go_at_call 138;refine(wW _ vn1 vb1 D1 _ Ls[k] w _ hBO hN g1 g2 hrm).mono ?_;rintro e w3 ⟨vn2,vb2,D2,i2,rfl,hB3,dP,hD3,hi3,hS3⟩
        have hown3:=aI hown dP.keep (fun b hb=>(mq b hb).2.ins)
        have hG3:=hG1.trans dP
        have hzw:=hG3.keep.size
        have hx4:Ext w3 (w3.alloc (.cells #[.int .i64 ((i2:Nat):Int)] 3)):=by go_grown)
     | (at_builtin;refine aW rfl (.tmp 20) (.tmp 27) 80 rfl we.heap.size 3 i0 (.int .i64 0) 1 8 underlying80 hi0 hz0 hz1 hz2 rfl (by decide) (.slice aL k cL) k ((toZ ls).map (Value.int .i64)) rfl (aJ hown3 hx4) _ 1 _ [.int .i64 ((i2:Nat):Int)] rfl rfl (.inr ⟨_,rfl,bq (aO _ _ _)⟩) one_cell (by unfold maxLen;omega) (by omega) (by rw[sA_];omega) ?_;intro v5 w5 ho5 hg5 hl5))
    have kE:∀ b,Value.ownBlock (.slice aL k cL)=some b→we.heap.size≤b∧Beside w3 (w.heap.size+1) vn2 vb2 D2 b:=fun b hb=>⟨(mq b hb).1,(mq b hb).2.go (hown.lt b hb).2 dP⟩
    obtain⟨hB5,hG5,mo,hside⟩:=Beside.row hG3 hB3 kE hx4 hg5 hl5
    have ji:w3.heap[w.heap.size]?=some (.cells #[.slice none 0 0] 28 (0,0)):=by rw[dP.keep.block _ (ah hres) hrb.ins];exact hres
    have vW:w5.heap[w.heap.size]?=some (.cells #[.slice none 0 0] 28 (0,0)):=by
     rw[hg5.block _ (by rw[sA_];have:=ah ji;omega) (fun e=>by have:=(kE _ e.symm).1;omega),hx4.block _ (ah ji)];exact ji
    have zB:=hside _ (hrb.go (ah hres) dP)
    have Sq:=(hr0.lt (we.heap.size+1) rfl).2
    have hr3:=aI hr0 dP.keep (fun b hb=>by simp[Value.ownBlock] at hb;subst hb;exact hrr.ins)
    have Uv:=(hr3.lt (we.heap.size+1) rfl).2
    have hk5:bg (fun b=>Value.ownBlock (.slice aL k cL)=some b) (w3.alloc (.cells #[.int .i64 ((i2:Nat):Int)] 3)) w5:=⟨hg5.os,hg5.tape,hg5.output,hg5.size,fun k hk hn=>hg5.block k hk (fun e=>hn e.symm)⟩
    have hr5:=aI (aJ hr3 hx4) hk5 (fun b hb e=>by simp[Value.ownBlock] at hb;subst hb;exact hne e)
    have Sl:=hside _ (hrr.go Sq dP)
    have hne5:v5.ownBlock≠some (we.heap.size+1):=by
     rcases hl5 with h | ⟨g,h,h2⟩
     · rw[h];exact hne
     · rw[h];intro e;injection e with e;rw[sA_] at h2;omega
    have htk:=(HA.out.more hB1.good.wf hB3.good.wf dP.more).snoc hi3 (by rw[hal,List.getD_eq_getElem?_getD,List.getElem?_eq_getElem hlt];exact hS3)
    go_roundw
    case rel=>exact⟨k+1,vn2,vb2,D2,ls++[i2],by omega,by go_num,by rw[List.length_append,hal];rfl,by simpa [toZ] using ho5,hB5,hG5,by have:=HT.out;omega,mo,vW,zB,hr5,Sl,hne5,htk⟩
    case measure=>simp[intOf];omega
  · have hke:k=Ls.length:=by omega
    have h1:¬ (((k:Nat):Int)<(Ls.length:Int)):=by omega
    obtain⟨aL,cL,rfl,hcL,Vf⟩:=az hown
    rw[hke,List.take_of_length_le (Nat.le_refl _)] at hD1
    have hsb:∀ b,Value.ownBlock (.slice aL k cL)=some b→Value.ownBlock (.slice (some ⟨we.heap.size+1,0,none⟩) 0 0)≠some b:=fun b hb e=>hne (by rw[hb,← e];rfl)
    have sO:∀ b,Value.ownBlock (.slice (some ⟨we.heap.size+1,0,none⟩) 0 0)=some b→we.heap.size≤b∧Beside wr (w.heap.size+1) vn1 vb1 D1 b:=fun b hb=>by
     simp[Value.ownBlock] at hb;subst hb;exact⟨by omega,hrr⟩
    have HKE:=Hd_ hke
    clear hke hBO
    go_wp2_with fail
    obtain⟨wl,rfl⟩:∃ wl:World,wl=wr:=⟨_,rfl⟩
    go_loopw [7,9] (fun rv ii wr=>∃ q vn vb D rs,q≤Rs.length∧ii=.int .i64 ((q:Nat):Int)∧rs.length=q∧wr.ownsRow we.heap.size 3 1 rv q ((toZ rs).map (Value.int .i64))∧bu wr (w.heap.size+1) vn vb D∧dz we wr (w.heap.size+1) (.slice none 0 0) (.slice none 0 0) [] vn vb D∧D.length≤sizes Ls+sizes (Rs.take q) ∧
     (∀ b,rv.ownBlock=some b→we.heap.size≤b∧Beside wr (w.heap.size+1) vn vb D b)∧wr.heap[w.heap.size]?=some (.cells #[.slice none 0 0] 28 (0,0))∧Beside wr (w.heap.size+1) vn vb D w.heap.size ∧
     wr.ownsRow we.heap.size 3 1 (.slice aL k cL) k ((toZ ls).map (Value.int .i64))∧(∀ b,Value.ownBlock (.slice aL k cL)=some b→Beside wr (w.heap.size+1) vn vb D b)∧(∀ b,Value.ownBlock (.slice aL k cL)=some b→rv.ownBlock≠some b)∧Hid (tu D Ls ls)∧Hid (tu D Rs rs)) (fun _ ii _=>Rs.length-(intOf ii).toNat)
    case atStart=>exact⟨0,_,_,D1,[],Nat.zero_le _,rfl,rfl,hr0,hB1,hG1,by simpa [sizes] using hD1,sO,hres,hrb,hown,fun b hb=>(mq b hb).2,hsb,HA,fun j h=>absurd h (by simp)⟩
    case round =>
     clear hB1 hG1 hD1 mq hres hrb hr0 hrr hne HA hown hsb sO
     obtain⟨q,vn1,vb1,D1,rs,hq,rfl,har,vX,hB1,hG1,hD1,sO,hres,hrb,Br,Gy,hsb,HA,HAr⟩:=hrel
     have hBO:=hB.go hB1 hG1
     by_cases hlt:q<Rs.length
     · have h2:((q:Nat):Int)<(Rs.length:Int):=by omega
       obtain⟨bA,cA,aN,cN,he,hcA,hcell,hN⟩:=hb.at hlt
       simp only[Value.slice.injEq] at he
       obtain⟨rfl,-,rfl⟩:=he
       have cc:=(hBO.ext.cell (lt_of_cell hcell)).trans hcell
       obtain⟨g1,g2⟩:=gR _ (List.getElem_mem hlt)
       obtain⟨aR,cR,rfl,hcR,_⟩:=az vX
       have hrm:D1.length+(Rs[q]).length≤1000000:=by have:=oC hlt;have:=BI Rs (q+1);omega
       have HT:=Hd_ (oC hlt)
       go_wp2_with (first
        | (go_at_call 138;refine(wW _ vn1 vb1 D1 _ Rs[q] w _ hBO hN g1 g2 hrm).mono ?_;rintro e w3 ⟨vn2,vb2,D2,i2,rfl,hB3,dP,hD3,hi3,hS3⟩
           have hown3:=aI vX dP.keep (fun b hb=>(sO b hb).2.ins)
           have hG3:=hG1.trans dP
           have hzw:=hG3.keep.size
           have hx4:Ext w3 (w3.alloc (.cells #[.int .i64 ((i2:Nat):Int)] 3)):=by go_grown)
        | (at_builtin;refine aW rfl (.tmp 35) (.tmp 42) 80 rfl we.heap.size 3 i0 (.int .i64 0) 1 8 underlying80 hi0 hz0 hz1 hz2 rfl (by decide) (.slice aR q cR) q ((toZ rs).map (Value.int .i64)) rfl (aJ hown3 hx4) _ 1 _ [.int .i64 ((i2:Nat):Int)] rfl rfl (.inr ⟨_,rfl,bq (aO _ _ _)⟩) one_cell (by unfold maxLen;omega) (by omega) (by rw[sA_];omega) ?_;intro v5 w5 ho5 hg5 hl5))
       have kE:∀ b,Value.ownBlock (.slice aR q cR)=some b→we.heap.size≤b∧Beside w3 (w.heap.size+1) vn2 vb2 D2 b:=fun b hb=>⟨(sO b hb).1,(sO b hb).2.go (vX.lt b hb).2 dP⟩
       obtain⟨hB5,hG5,mo,hside⟩:=Beside.row hG3 hB3 kE hx4 hg5 hl5
       have ji:w3.heap[w.heap.size]?=some (.cells #[.slice none 0 0] 28 (0,0)):=by rw[dP.keep.block _ (ah hres) hrb.ins];exact hres
       have vW:w5.heap[w.heap.size]?=some (.cells #[.slice none 0 0] 28 (0,0)):=by
        rw[hg5.block _ (by rw[sA_];have:=ah ji;omega) (fun e=>by have:=(kE _ e.symm).1;omega),hx4.block _ (ah ji)];exact ji
       have zB:=hside _ (hrb.go (ah hres) dP)
       have hl3:=aI Br dP.keep (fun b hb=>(Gy b hb).ins)
       have hk5:bg (fun b=>Value.ownBlock (.slice aR q cR)=some b) (w3.alloc (.cells #[.int .i64 ((i2:Nat):Int)] 3)) w5:=⟨hg5.os,hg5.tape,hg5.output,hg5.size,fun k hk hn=>hg5.block k hk (fun e=>hn e.symm)⟩
       have S9:=aI (aJ hl3 hx4) hk5 (fun b hb e=>hsb b hb e)
       have Qi:∀ b,Value.ownBlock (.slice aL k cL)=some b→Beside w5 (w.heap.size+1) vn2 vb2 D2 b:=fun b hb=>hside _ ((Gy b hb).go (Br.lt b hb).2 dP)
       have Sj:∀ b,Value.ownBlock (.slice aL k cL)=some b→v5.ownBlock≠some b:=fun b hb=>by
        rcases hl5 with h | ⟨g,h,h2⟩
        · rw[h];exact hsb b hb
        · rw[h];intro e;injection e with e;rw[sA_] at h2;have:=(hl3.lt b hb).2;omega
       have htl:=HA.out.more hB1.good.wf hB3.good.wf dP.more
       have htk:=(HAr.out.more hB1.good.wf hB3.good.wf dP.more).snoc hi3 (by rw[har,List.getD_eq_getElem?_getD,List.getElem?_eq_getElem hlt];exact hS3)
       go_roundw
       case rel=>exact⟨q+1,vn2,vb2,D2,rs++[i2],by omega,by go_num,by rw[List.length_append,har];rfl,by simpa [toZ] using ho5,hB5,hG5,by have:=HT.out;omega,mo,vW,zB,S9,Qi,Sj,htl,htk⟩
       case measure=>simp[intOf];omega
     · have hqe:q=Rs.length:=by omega
       have h2:¬ (((q:Nat):Int)<(Rs.length:Int)):=by omega
       obtain⟨aR,cR,rfl,hcR,Vb⟩:=az vX
       have hkl:=HKE.out
       have hIl:=Ints.bG (l:=toZ ls) Br (by rw[aj];omega)
       have hIr:=Ints.bG (l:=toZ rs) vX (by rw[aj];omega)
       rw[hqe,List.take_of_length_le (Nat.le_refl _)] at hD1
       have bl:∀ x,x∈ls→x<D1.length:=fun x hx=>by obtain⟨j,hj,rfl⟩:=List.mem_iff_getElem.1 hx;exact(HA.out j hj).1
       have br:∀ x,x∈rs→x<D1.length:=fun x hx=>by obtain⟨j,hj,rfl⟩:=List.mem_iff_getElem.1 hx;exact(HAr.out j hj).1
       have HQE:=Hd_ hqe
       have HIL:=Hd_ hIl
       have HIR:=Hd_ hIr
       have HD1:=Hd_ hD1
       have HG1:=Hd_ hG1
       have HAL:=Hd_ (hal.trans hkl)
       have HAR:=Hd_ (har.trans hqe)
       clear hqe hkl hIl hIr Br vX sO Gy hsb hD1
       go_wp2_with (first
        | (go_at_call 134;refine(oQ _ vn1 vb1 D1 _ _ ls rs _ hB1 HIL.out HIR.out bl br (by have:=HAL.out;omega) (by have:=HAR.out;omega) (by have:=HD1.out;omega)).mono ?_;rintro e w3 ⟨vn2,vb2,D2,i2,rfl,hB3,hK3,hS3,hQ3,hP3⟩
           have ji:w3.heap[w.heap.size]?=some (.cells #[.slice none 0 0] 28 (0,0)):=by rw[hK3.block _ (ah hres) hrb.ins];exact hres
           have qW:=hB.go hB3 (HG1.out.trans (dz.BX hK3 hS3 hQ3 hP3)))
        | (go_at_call 133;refine(sS _ vn2 vb2 D2 i2 _ hB3 hP3.lt).mono ?_;rintro e w7 ⟨vN,F',rfl,hN7,hIF,hS7,hx7⟩
           obtain⟨aN,cN,rfl,-⟩:=id hN7
           have mf:w7.heap[w.heap.size]?=some (.cells #[.slice none 0 0] 28 (0,0)):=by rw[hx7.block _ (ah ji)];exact ji
           have cr7:=cell_of_row w7 w.heap.size 0 _ _ _ mf
           have fr7:=frozen_of_row w7 w.heap.size 0 _ _ mf
           have HH:Hid ((w7.setCell ⟨w.heap.size,0,none⟩ (.slice aN F'.length cN)).heap[w.heap.size]?=some (.cells #[.slice aN F'.length cN] 28 (0,0))):=heap_setCell_same w7 w.heap.size 0 _ _ (.slice aN F'.length cN) mf))
       (try simp only[Exit.inBlock,Exit.then])
       refine bodyPost_ret (results_cell_row rfl _ _ w.heap.size 28 #[.slice aN F'.length cN] (0,0) _ rfl HH.out underlying28 rfl (by kernel_rfl)) rfl ?_
       have hN8:=(hN7.set (p:=⟨w.heap.size,0,none⟩) (by show w.heap.size<w3.heap.size;exact ah ji) (.slice aN F'.length cN)).weaken (base':=w.heap.size) qW.ext.size
       have hsm:=OD hB3.good hP3.lt hIF hS7
       have hgm:=IY hB1.good.wf hB3.good.wf HAL.out HAR.out HA.out HAr.out hP3
       exact⟨_,F',rfl,hN8,hIF,Cgt.gu hS7 hgm,by have:=hP3.len;have:=HD1.out;omega,(aa qW.ext hx7).setCell (p:=⟨w.heap.size,0,none⟩) (Nat.le_refl _) _⟩
end
end Go.Proofs.YteknjeohbcgpdaaGreatDoor