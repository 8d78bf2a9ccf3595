/-
  Contract of the reference's l21Parts.
-/
import Derived.Test.YteknjeohbcgpdaaGreatDoorZ39
set_option maxRecDepth 100000
namespace Go.Proofs.YteknjeohbcgpdaaGreatDoor
open Tryz
open Go.RowKit
open Cgt (Brd GB bD Cs fr Grown sub cup pX none_ nC rQ Bd)
def qP:List Row:=[⟨0,[],74,[4]⟩,⟨1,[],75,[9]⟩,⟨2,[0,1],76,[73,74]⟩,⟨3,[2],77,[75]⟩,⟨4,[],78,[10]⟩,⟨5,[],79,[4]⟩,⟨6,[],80,[9]⟩,⟨7,[5,6],81,[78,79]⟩,⟨8,[7],82,[80]⟩,⟨9,[],83,[10]⟩,⟨10,[8,9],84,[81,82]⟩,⟨11,[10],85,[83]⟩,⟨12,[11],86,[84]⟩,⟨13,[12],87,[7,85]⟩,⟨14,[12],88,[9,85]⟩,⟨15,[13,14,12],89,[86,87,85]⟩,⟨16,[15,12],90,[88,85]⟩,⟨17,[12],91,[10,85]⟩,⟨18,[16,17,12],92,[89,90,85]⟩,⟨19,[18,12],93,[91,85]⟩,⟨20,[19,12],94,[92,85]⟩,⟨21,[12,20],95,[85,93]⟩,⟨22,[3,4,0,1,2,3,4,5,6,7,8,9,10,11,12,13,14,15,16,17,18,19,20,21],96,[76,77]⟩,⟨23,[22,21,12,0,1,2,3,4,5,6,7,8,9,10,11,12,13,14,15,16,17,18,19,20,21],0,[95,94]⟩]
def Hz (b:Brd) (w:World) (e:Ending) (w':World):Prop :=
 ∃ v PL,e=.returned v∧Rows ow 1 (fun b=>w.heap.size≤b∧b<w'.heap.size) w' v (PL.map (·.2))∧jL (fr b) (fr b) PL∧PL.length≤64∧Ext w w'
structure tC (S:Cs) (cl:Cl) (D:Nat→Nat→Prop) (PL:List (Cs × Brd)) (k:Nat):Prop where
 st:∃ U,jL S U PL∧gcs cl=sub S U
 done:∀ r c,D r c→gat cl r c=false
 len:PL.length≤k
theorem tC.skip {S:Cs} {cl:Cl} {D D':Nat→Nat→Prop} {PL:List (Cs × Brd)} {k k':Nat} (h:tC S cl D PL k) (hD:∀ r c,D' r c→D r c∨gat cl r c=false) (hk:k≤k'):tC S cl D' PL k' :=
 ⟨h.st,fun r c d=>by rcases hD r c d with e | e;exact h.done r c e;exact e,Nat.le_trans h.len hk⟩
theorem tC.add {S:Cs} {cl cl2 pl:Cl} {PL:List (Cs × Brd)} {i k n:Nat} {y:Brd} (h:tC S cl (fun r c=>r<i∨(r=i∧c<k)) PL n) (hg:Grown (gcs cl) none_ (gcs pl)) (ho:rR (gcs pl) y) (hik:gat pl i k=true)
 (he:∀ x z,gat cl2 x z=(gat cl x z && !gat pl x z)):tC S cl2 (fun r c=>r<i∨(r=i∧c<k+1)) (PL++[(gcs pl,y)]) (n+1):=by
 obtain⟨U,h1,h2⟩:=h.st
 refine⟨⟨_,h1.add (by rw[← h2];exact hg) ho,?_⟩,fun r c d=>?_,by rw[List.length_append];have:=h.len;simp;omega⟩
 · have e:gcs cl2=sub (gcs cl) (gcs pl):=by funext x z;exact he x z
   rw[e,h2,Cgt.N9]
 · rw[he]
   by_cases e:r=i∧c=k
   · rw[e.1,e.2,hik];simp
   · rw[h.done r c (by omega)];rfl
def Taken (cl pl cl2:Cl) (D:Nat→Nat→Bool):Prop:=∀ x z,gat cl2 x z=(gat cl x z && !(D x z && gat pl x z))
theorem Taken.step {cl pl cl2:Cl} {D D':Nat→Nat→Bool} {hh ww r q:Nat} (h:Taken cl pl cl2 D) (s:Sz cl2 hh ww) (hr:r<hh) (hq:q<ww) (hD:∀ x z,D' x z=(D x z || (x == r && z == q))) (hn:D r q=false) {b:Bool} (hb:b=(gat cl2 r q && !gat pl r q)):Taken cl pl (iM cl2 r q b) D':=by
 intro x z
 rw[EU s hr hq,hD]
 by_cases e:x=r∧z=q
 · obtain⟨rfl,rfl⟩:=e
   rw[if_pos ⟨rfl,rfl⟩,hb,h x z,hn];simp
 · rw[if_neg e,h x z]
   have:(x == r && z == q)=false:=by rw[Bool.eq_false_iff];intro k;simp at k;exact e k
   rw[this,Bool.or_false]
theorem Taken.mono {cl pl cl2:Cl} {D D':Nat→Nat→Bool} (h:Taken cl pl cl2 D) (hD:∀ x z,gat cl x z=true→D' x z=D x z):Taken cl pl cl2 D':=by
 intro x z
 rw[h x z]
 cases e:gat cl x z with
 | false=>rfl
 | true=>rw[hD x z e]
set_option maxHeartbeats 8000000 in
theorem Ck (v:Value) (ss:List ByteArray) (hh ww:Nat) (w:World) (h:Strs w v ss) (g:GB (bd ss) hh ww) :
 Calls prog 74 #[.agg #[v]] w (Hz (bd ss) w):=by
 obtain⟨a,cap,rfl,hcap,hml⟩:=h.open
 obtain⟨i0,hi0,hz0',hz1',hz2'⟩:=info_parts sM
 obtain⟨i1,hi1,hy0,hy1,hy2⟩:=info_parts yF
 obtain⟨i2,hi2,hu0,hu1,hu2⟩:=info_parts yG
 have h8:=g.h1
 have w8:=g.w1
 have hbb:((w.alloc (.cells #[.slice a ss.length cap] 31)).alloc (.cells #[] 31)).heap[w.heap.size]?=some (.cells #[.slice a ss.length cap] 31 (0,0)):=by
  rw[Below.heap_alloc _ _ _ (by simp)];exact heap_alloc_new _ _
 have hr0:=World.ownsRow_made (w.alloc (.cells #[.slice a ss.length cap] 31)) (base:=w.heap.size+1) (e:=31) (size:=1) #[] 0 (by rw[sA_];omega) (by decide) (by simp)
 have hx0:Ext w ((w.alloc (.cells #[.slice a ss.length cap] 31)).alloc (.cells #[] 31)):=by go_grown
 rw[sA_] at hr0
 have hzb:((w.alloc (.cells #[.slice a ss.length cap] 31)).alloc (.cells #[] 31)).heap.size=w.heap.size+2:=by rw[sA_,sA_]
 have HZB:=Hd_ hzb
 have hcell:∀ W,Ext w W→Calls prog 75 #[.agg #[.slice a ss.length cap]] W fun e w'=>∃ v' sl,e=.returned v'∧Gr w' W.heap.size v' sl (cK ss)∧Ext W w':=fun W hW=>l7 _ ss hh ww W (h.ext hW) g
 have HSZ:=Hd_ (jA g)
 have hnn:=(jA g).hgt
 have hmk:=fun W:World=>run_make (P:=prog) W 106 4 i2 (.bool false) underlying106 hi2 hu0 .i64 .i64 (ww:Int) (ww:Int) (by omega) (by omega) (by rw[hu2];omega) (by omega)
 simp only[Int.toNat_natCast,hu1,Nat.mul_one,Value.cells] at hmk
 clear g hzb
 go_enter Tryz.func74,Tryz.ntmps74
 go_upto_region 3 with (go_at_call 75;refine(hcell _ hx0).mono ?_;rintro e w1 ⟨vc,sl,rfl,hG,hx1⟩;obtain⟨gc,cc,rfl,-,-⟩:=hG.len)
 have hM0:PaM w w1 w1 (.slice a ss.length cap) (.slice gc hh cc) sl hh ww (cK ss) (.slice (some ⟨w.heap.size+1,0,none⟩) 0 0) [] []:=by
  rw[HZB.out,hnn] at hG
  exact⟨(hx1.block _ (ah hbb)).trans hbb,hG,HSZ.out,aJ hr0 hx1,fun b hb=>by simp[Value.ownBlock] at hb;exact .inl hb.symm,Items.nil fun b hb=>hb.2.1,aa hx0 hx1,fun b hb=>by rw[← hnn] at hb hG;exact(hG.lt hb).2,Nat.le_refl _⟩
 have Q9:Hid (tC (fr (bd ss)) (cK ss) (fun r _=>r<0) [] 0):=Hd_ ⟨⟨none_,jL.start _,by rw[yL];funext r c;simp[sub,none_]⟩,fun r c d=>absurd d (by omega),Nat.le_refl _⟩
 have HZ1:Hid (w.heap.size+2≤w1.heap.size):=Hd_ (by have:=hx1.size;have:=HZB.out;omega)
 clear hbb hr0 hx0 hx1 hcell hnn hG HZB
 go_wp2
 go_loopw [3,5,6,7,8,9,10] (fun ov ii _ _ _ _ _ wr=>∃ (i:Nat) (xs:List Value) (PL:List (Cs × Brd)) (cl:Cl),ii=.int .i64 ((i:Nat):Int)∧i≤hh∧PaM w w1 wr (.slice a ss.length cap) (.slice gc hh cc) sl hh ww cl ov xs (PL.map (·.2))∧Hid (tC (fr (bd ss)) cl (fun r _=>r<i) PL (i*ww))) (fun _ ii _ _ _ _ _ _=>hh-(intOf ii).toNat)
 case atStart=>exact⟨0,[],[],cK ss,rfl,Nat.zero_le _,hM0,Hd_ (Q9.out.skip (fun r c d=>.inl d) (by omega))⟩
 case round =>
  clear hM0 Q9 HSZ
  obtain⟨i,xs,PL,cl,rfl,hi,hM,HGO⟩:=hrel
  by_cases hlt:i<hh
  · have hil:((i:Nat):Int)<((hh:Nat):Int):=by omega
    have HLT:=Hd_ hlt
    obtain⟨gt,ct,ar,cr,et,er,hct⟩:=hM.grid.rowAt hM.sz hlt
    simp only[Value.slice.injEq,true_and] at et
    obtain⟨rfl,rfl⟩:=et
    clear er hlt
    go_wp2
    go_loopw [3,6,7,8,9,10] (fun ov kk _ _ _ _ wr=>∃ (k:Nat) (xs:List Value) (PL:List (Cs × Brd)) (cl:Cl),kk=.int .i64 ((k:Nat):Int)∧k≤ww∧PaM w w1 wr (.slice a ss.length cap) (.slice (some ⟨gt,0,none⟩) hh cc) sl hh ww cl ov xs (PL.map (·.2))∧Hid (tC (fr (bd ss)) cl (fun r c=>r<i∨(r=i∧c<k)) PL (i*ww+k))) (fun _ kk _ _ _ _ _=>ww-(intOf kk).toNat)
    case atStart=>exact⟨0,xs,PL,cl,rfl,Nat.zero_le _,hM,Hd_ (HGO.out.skip (fun r c d=>.inl (by omega)) (by omega))⟩
    case round =>
     clear hM HGO hct
     obtain⟨k,xs,PL,cl,rfl,hk,hM,HGO⟩:=hrel
     by_cases hkl:k<ww
     · have hkl':((k:Nat):Int)<((ww:Nat):Int):=by omega
       have HKL:=Hd_ hkl
       obtain⟨gt2,ct2,g2,c2,et2,eg2,htop,hbit,hfz⟩:=hM.grid.at2 hM.sz HLT.out hkl
       simp only[Value.slice.injEq,true_and,Option.some.injEq,Addr.mk.injEq,and_true] at et2
       obtain⟨rfl,rfl⟩:=et2
       have HM:=Hd_ hM
       clear hM eg2 hkl hfz
       cases hg0:gat cl i k with
       | false =>
         rw[hg0] at hbit
         have HN:=Hd_ (HGO.out.skip (D':=fun r c=>r<i∨(r=i∧c<k+1)) (k':=i*ww+(k+1)) (fun r c d=>by
          by_cases e:r=i∧c=k
          · exact .inr (by rw[e.1,e.2];exact hg0)
          · exact .inl (by omega)) (by omega))
         clear hg0
         go_wp2
         go_roundw
         case rel=>exact⟨k+1,xs,PL,cl,by go_num,HKL.out,HM.out,HN⟩
         case measure=>have:=HKL.out;simp[intOf];omega
       | true =>
         rw[hg0] at hbit
         have HG0:=Hd_ hg0
         clear hg0
         obtain⟨wa,hwa⟩:∃ wa,wa=wr:=⟨_,rfl⟩
         have hr1:=World.ownsRow_made wr (base:=wr.heap.size) (e:=106) (size:=1) #[] 0 (Nat.le_refl _) (by decide) (by simp)
         have hx1:=aM (Below.refl wr.heap.size wr) (.cells #[] 106)
         go_upto_region 12 with fail
         rw[← hwa] at HM hr1 hx1 htop hbit ⊢
         clear hwa hbit htop
         have Q0:Hid (Gr (wa.alloc (.cells #[] 106)) wa.heap.size (.slice (some ⟨wa.heap.size,0,none⟩) 0 0) (fun _=>.slice none 0 0) (List.replicate 0 (List.replicate ww false))):=Hd_ (Gr.nil hr1)
         clear hr1
         go_loopw [7,8] (fun pv rr wr=>∃ (r:Nat) (ps:Nat→Value),rr=.int .i64 ((r:Nat):Int)∧r≤hh∧Ext wa wr∧Hid (Gr wr wa.heap.size pv ps (List.replicate r (List.replicate ww false)))) (fun _ rr _=>hh-(intOf rr).toNat)
         case atStart=>exact⟨0,_,rfl,Nat.zero_le _,hx1,Q0⟩
         case round =>
          clear hx1 Q0
          obtain⟨r,ps,rfl,hr,hx,HPG⟩:=hrel
          by_cases hlt:r<hh
          · have hrl:((r:Nat):Int)<((hh:Nat):Int):=by omega
            have HLR:=Hd_ hlt
            obtain⟨gt3,ct3,ar3,cr3,et3,er3,LY⟩:=(HM.out.ext' hx).grid.rowAt HM.out.sz hlt
            simp only[Value.slice.injEq,true_and,Option.some.injEq,Addr.mk.injEq,and_true] at et3
            obtain⟨rfl,rfl⟩:=et3
            obtain⟨ap,cp,rfl,-,-⟩:=HPG.out.len
            have HXA:=Hd_ hx
            have Gi:=HPG.out.row
            have hlen:(List.replicate r (List.replicate ww false)).length=r:=by simp
            rw[hlen] at Gi
            have hzx:=hx.size
            have hro:(wr.alloc (.cells (madeCells #[.bool false] ww) 4)).ownsRow wr.heap.size 4 1 (.slice (some ⟨wr.heap.size,0,none⟩) ww ww) ww ((List.replicate ww false).map Value.bool):=by
             rw[← F4];exact World.ownsRow_lit wr _ _ (Nat.le_refl _) (by unfold maxLen;omega) (by rw[size_madeCells];simp)
            have hxm:=aM (Below.refl wr.heap.size wr) (.cells (madeCells #[.bool false] ww) 4)
            have HRO:=Hd_ hro
            have hown2:=aJ Gi hxm
            rw[hlen]
            clear hlt er3 hx hro Gi hlen
            go_wp2_with (at_builtin;refine aW rfl (.tmp 44) (.tmp 51) 104 rfl wa.heap.size 106 i1 (.slice none 0 0) 1 24 underlying104 hi1 hy0 hy1 hy2 rfl (by decide) (.slice ap r cp) r _ rfl (hown2.alloc _) _ 1 _ [.slice (some ⟨wr.heap.size,0,none⟩) ww ww] rfl rfl (.inr ⟨_,rfl,bq (nS _ _ _ _)⟩) lT (by unfold maxLen;omega) (by omega) (by rw[sA_,sA_];omega) ?_;intro v5 w5 ho5 hg5 hl5)
            go_roundw
            case rel =>
             have hl2:(List.replicate r (List.replicate ww false)).length=r:=by simp
             have HP2:=HPG.out
             rw[hl2] at HP2
             obtain⟨ps',hS⟩:=Gr.push (r:=List.replicate ww false) HP2 hxm hzx (by simpa using HRO.out) (by rw[hl2];exact ho5) hg5 hl5
             refine⟨r+1,ps',by go_num,HLR.out,aV (aM (aa HXA.out hxm) _) hg5 (fun q hq=>(HP2.lt (.inl hq)).1),Hd_ ?_⟩
             rw[List.replicate_succ'];exact hS
            case measure=>have:=HLR.out;simp[intOf];omega
          · have hrl:¬ (((r:Nat):Int)<((hh:Nat):Int)):=by omega
            have hre:r=hh:=by omega
            subst hre
            obtain⟨ap,cp,rfl,-,-⟩:=HPG.out.len
            have hlen:(List.replicate r (List.replicate ww false)).length=r:=by simp
            have hMx:=HM.out.ext' hx
            have Me:jU wr (w.heap.size+2) wa.heap.size (.slice (some ⟨gt,0,none⟩) r cc) sl cl (.slice ap (List.replicate r (List.replicate ww false)).length cp) ps (vE r ww) r ww :=
             ⟨hMx.grid,HPG.out,hMx.sz,Kg r ww,fun b hb hc=>by
              have h1:=HM.out.lt b hc
              have h2:=(HPG.out.lt (.inr (by rw[hlen];exact hb))).1
              have:=HM.out.z1
              omega⟩
            have hgrow:=D9 wr (w.heap.size+2) wa.heap.size _ sl cl _ ps (vE r ww) r ww (i:Int) (k:Int) Me h8 w8 (by omega) (by omega)
            rw[hlen] at hgrow ⊢
            have HX:=Hd_ hx
            have M7:=Hd_ Me
            clear hx hlen Me hlt hMx
            go_upto_region 16 with (go_at_call 125;refine hgrow.mono ?_;rintro e w4 ⟨pl,rfl,hP4,hK4,hG4,hN4⟩)
            have hx4:Ext wa w4:=iD HX.out hK4 (fun b hb=>(M7.out.part.lt (.inr (by rw[M7.out.ss.hgt];exact hb))).1)
            have HIK:=Hd_ (hN4 (by unfold isC;simp only[Bool.and_eq_true,decide_eq_true_eq,Int.toNat_natCast];exact⟨⟨by have:=HLT.out;omega,by have:=HKL.out;omega⟩,HG0.out⟩))
            have HG4:=Hd_ hG4
            have HPT:=Hd_ hP4.part
            have HSP:=Hd_ hP4.ss
            have hM4:=HM.out.ext' hx4
            have QY:Hid (Taken cl pl cl (fun x _=>decide (x<0))):=Hd_ (fun x z=>by simp)
            have HZA:=Hd_ HM.out.z1
            clear hgrow hP4 hK4 hG4 hN4 hx4 HX M7 HPG
            go_wp2
            go_loopw [9,10] (fun rr _ wr=>∃ (q:Nat) (cl2:Cl),rr=.int .i64 ((q:Nat):Int)∧q≤r∧PaM w w1 wr (.slice a ss.length cap) (.slice (some ⟨gt,0,none⟩) r cc) sl r ww cl2 u3 xs (PL.map (·.2))∧Hid (Gr wr wa.heap.size (.slice ap r cp) ps pl)∧Hid (Taken cl pl cl2 (fun x _=>decide (x<q)))) (fun rr _ _=>r-(intOf rr).toNat)
            case atStart=>exact⟨0,cl,rfl,Nat.zero_le _,hM4,HPT,QY⟩
            case round =>
             clear hM4 QY
             obtain⟨q,cl2,rfl,hq,hM,HPT,HTK⟩:=hrel
             by_cases hlt:q<r
             · have hql:((q:Nat):Int)<((r:Nat):Int):=by omega
               have HLQ:=Hd_ hlt
               obtain⟨gt3,ct3,ar3,cr3,et3,er3,LY⟩:=hM.grid.rowAt hM.sz hlt
               simp only[Value.slice.injEq,true_and,Option.some.injEq,Addr.mk.injEq,and_true] at et3
               obtain⟨rfl,rfl⟩:=et3
               clear er3 hlt
               go_wp2
               go_loopw [10] (fun zz wr=>∃ (z:Nat) (cl2:Cl),zz=.int .i64 ((z:Nat):Int)∧z≤ww∧PaM w w1 wr (.slice a ss.length cap) (.slice (some ⟨gt,0,none⟩) r cc) sl r ww cl2 u3 xs (PL.map (·.2))∧Hid (Gr wr wa.heap.size (.slice ap r cp) ps pl)∧Hid (Taken cl pl cl2 (fun x y=>decide (x<q∨(x=q∧y<z))))) (fun zz _=>ww-(intOf zz).toNat)
               case atStart=>exact⟨0,cl2,rfl,Nat.zero_le _,hM,HPT,Hd_ (HTK.out.mono fun x y _=>by rw[decide_eq_decide];omega)⟩
               case round =>
                clear hM HTK LY
                obtain⟨z,cl2,rfl,hz,hM,HPT,HTK⟩:=hrel
                by_cases hlz:z<ww
                · have hzl:((z:Nat):Int)<((ww:Nat):Int):=by omega
                  have HLZ:=Hd_ hlz
                  obtain⟨gt3,ct3,g3,c3,et3,e3,m1,m2,m3⟩:=hM.grid.at2 hM.sz HLQ.out hlz
                  simp only[Value.slice.injEq,true_and,Option.some.injEq,Addr.mk.injEq,and_true] at et3
                  obtain⟨rfl,rfl⟩:=et3
                  obtain⟨gp,cp2,g4,c4,ep,e4,n1,n2,-⟩:=HPT.out.at2 HSP.out HLQ.out hlz
                  simp only[Value.slice.injEq,true_and] at ep
                  obtain⟨rfl,rfl⟩:=ep
                  have hql:((q:Nat):Int)<((r:Nat):Int):=by have:=HLQ.out;omega
                  have hxd:Ext wr wr.drew:=⟨rfl,rfl,rfl,Nat.le_refl _,fun _ _=>rfl⟩
                  have hMd:=hM.ext' hxd
                  have HMK:=fun x=>Hd_ (hMd.mark HLQ.out hlz e3 x)
                  have HPK:=fun x=>Hd_ ((HPT.out.ext hxd).keep (hMd.mark HLQ.out hlz e3 x).2.1 fun b hb hbe=>by
                   have h1:=(HPT.out.lt hb).1
                   have h2:=(hMd.mark HLQ.out hlz e3 x).2.2
                   have:=HZA.out
                   omega)
                  have HTS:=fun b hb=>Hd_ (HTK.out.step (D':=fun x y=>decide (x<q∨(x=q∧y<z+1))) hM.sz HLQ.out hlz (fun x y=>by
                   rw[Bool.eq_iff_iff];simp;omega) (by simp) (b:=b) hb)
                  clear hM hMd hxd e3 e4 hlz HPT HTK
                  cases hx1:gat cl2 q z with
                  | false =>
                    rw[hx1] at m2
                    have HN:=HTS false (by rw[hx1];rfl)
                    clear HTS hx1
                    go_upto_region 22 with fail
                    refine bz (fun W=>W.cell? ⟨gt,q,none⟩=some (.slice (some ⟨g3,0,none⟩) ww c3)∧W.cell? ⟨g3,z,none⟩=some (.bool false)∧W.cell? ⟨gp,q,none⟩=some (.slice (some ⟨g4,0,none⟩) ww c4)∧W.cell? ⟨g4,z,none⟩=some (.bool (gat pl q z))) [23] qP (by kernel_rfl) ⟨by kernel_rfl,by kernel_rfl,by kernel_rfl⟩ ⟨m1,m2,n1,n2⟩ (fun ae hHeld=>?_)
                    ((refine tkB ae (i:=0) hHeld ?_);(try simp only[nP]);(refine tkB ae (i:=1) hHeld ?_);(try simp only[nP]);(refine tkB ae (i:=2) hHeld ?_);(try simp only[nP]);(refine tkB ae (i:=3) hHeld ?_);(try simp only[nP]);(refine tkB ae (i:=4) hHeld ?_);(try simp only[nP]);(refine tkB ae (i:=5) hHeld ?_);(try simp only[nP]);(refine tkB ae (i:=6) hHeld ?_);(try simp only[nP]);(refine tkB ae (i:=7) hHeld ?_);(try simp only[nP]);(refine tkB ae (i:=8) hHeld ?_);(try simp only[nP]);(refine tkB ae (i:=9) hHeld ?_);(try simp only[nP]);(refine tkB ae (i:=10) hHeld ?_);(try simp only[nP]);(refine tkB ae (i:=11) hHeld ?_);(try simp only[nP]);(refine tkB ae (i:=12) hHeld ?_);(try simp only[nP]))
                    ((refine bH ae (i:=13) (oi:=_) (v:=undef) (by simp only[gE];rfl) (by kernel_rfl) (by exact fun _ _ _ h=>h) hHeld (Or.inr ⟨by rfl,rfl⟩) ?r14);(try simp only[nP]);(refine bH ae (i:=14) (oi:=_) (v:=undef) (by simp only[gE];rfl) (by kernel_rfl) (by exact fun _ _ _ h=>h) hHeld (Or.inr ⟨by rfl,rfl⟩) ?r15);(try simp only[nP]);(refine bH ae (i:=15) (oi:=_) (v:=undef) (by simp only[gE];rfl) (by kernel_rfl) (by exact fun _ _ _ h=>h) hHeld (Or.inr ⟨by rfl,rfl⟩) ?r16);(try simp only[nP]);(refine bH ae (i:=16) (oi:=_) (v:=undef) (by simp only[gE];rfl) (by kernel_rfl) (by exact fun _ _ _ h=>h) hHeld (Or.inr ⟨by rfl,rfl⟩) ?r17);(try simp only[nP]);(refine bH ae (i:=17) (oi:=_) (v:=undef) (by simp only[gE];rfl) (by kernel_rfl) (by exact fun _ _ _ h=>h) hHeld (Or.inr ⟨by rfl,rfl⟩) ?r18);(try simp only[nP]);(refine bH ae (i:=18) (oi:=_) (v:=undef) (by simp only[gE];rfl) (by kernel_rfl) (by exact fun _ _ _ h=>h) hHeld (Or.inr ⟨by rfl,rfl⟩) ?r19);(try simp only[nP]);(refine bH ae (i:=19) (oi:=_) (v:=undef) (by simp only[gE];rfl) (by kernel_rfl) (by exact fun _ _ _ h=>h) hHeld (Or.inr ⟨by rfl,rfl⟩) ?r20);(try simp only[nP]);(refine bH ae (i:=20) (oi:=_) (v:=undef) (by simp only[gE];rfl) (by kernel_rfl) (by exact fun _ _ _ h=>h) hHeld (Or.inr ⟨by rfl,rfl⟩) ?r21);(try simp only[nP]))
                    ((refine tkB ae (i:=21) hHeld ?_);(try simp only[nP]);(refine tkB ae (i:=22) hHeld ?_);(try simp only[nP]))
                    refine tlB ae [23] [_] ?_
                    clear ae hHeld
                    go_wp2
                    go_roundw
                    case rel=>exact⟨z+1,_,by go_num,HLZ.out,(HMK false).out.1,HPK false,HN⟩
                    case measure=>have:=HLZ.out;simp[intOf];omega
                  | true =>
                    rw[hx1] at m2
                    cases hx2:gat pl q z with
                    | false =>
                      rw[hx2] at n2
                      have HN:=HTS true (by rw[hx1,hx2];rfl)
                      clear HTS hx1 hx2
                      go_upto_region 22 with fail
                      refine bz (fun W=>W.cell? ⟨gt,q,none⟩=some (.slice (some ⟨g3,0,none⟩) ww c3)∧W.cell? ⟨g3,z,none⟩=some (.bool true)∧W.cell? ⟨gp,q,none⟩=some (.slice (some ⟨g4,0,none⟩) ww c4)∧W.cell? ⟨g4,z,none⟩=some (.bool false)) [23] qP (by kernel_rfl) ⟨by kernel_rfl,by kernel_rfl,by kernel_rfl⟩ ⟨m1,m2,n1,n2⟩ (fun ae hHeld=>?_)
                      ((refine tkB ae (i:=0) hHeld ?_);(try simp only[nP]);(refine tkB ae (i:=1) hHeld ?_);(try simp only[nP]);(refine tkB ae (i:=2) hHeld ?_);(try simp only[nP]);(refine tkB ae (i:=3) hHeld ?_);(try simp only[nP]);(refine tkB ae (i:=4) hHeld ?_);(try simp only[nP]);(refine tkB ae (i:=5) hHeld ?_);(try simp only[nP]);(refine tkB ae (i:=6) hHeld ?_);(try simp only[nP]);(refine tkB ae (i:=7) hHeld ?_);(try simp only[nP]);(refine tkB ae (i:=8) hHeld ?_);(try simp only[nP]);(refine tkB ae (i:=9) hHeld ?_);(try simp only[nP]);(refine tkB ae (i:=10) hHeld ?_);(try simp only[nP]);(refine tkB ae (i:=11) hHeld ?_);(try simp only[nP]);(refine tkB ae (i:=12) hHeld ?_);(try simp only[nP]);(refine tkB ae (i:=13) hHeld ?_);(try simp only[nP]);(refine tkB ae (i:=14) hHeld ?_);(try simp only[nP]);(refine tkB ae (i:=15) hHeld ?_);(try simp only[nP]);(refine tkB ae (i:=16) hHeld ?_);(try simp only[nP]);(refine tkB ae (i:=17) hHeld ?_);(try simp only[nP]);(refine tkB ae (i:=18) hHeld ?_);(try simp only[nP]);(refine tkB ae (i:=19) hHeld ?_);(try simp only[nP]);(refine tkB ae (i:=20) hHeld ?_);(try simp only[nP]);(refine tkB ae (i:=21) hHeld ?_);(try simp only[nP]);(refine tkB ae (i:=22) hHeld ?_);(try simp only[nP]))
                      refine tlB ae [23] [_] ?_
                      clear ae hHeld
                      go_wp2
                      go_roundw
                      case rel=>exact⟨z+1,_,by go_num,HLZ.out,(HMK true).out.1,HPK true,HN⟩
                      case measure=>have:=HLZ.out;simp[intOf];omega
                    | true =>
                      rw[hx2] at n2
                      have HN:=HTS false (by rw[hx1,hx2];rfl)
                      clear HTS hx1 hx2
                      go_upto_region 22 with fail
                      refine bz (fun W=>W.cell? ⟨gt,q,none⟩=some (.slice (some ⟨g3,0,none⟩) ww c3)∧W.cell? ⟨g3,z,none⟩=some (.bool true)∧W.cell? ⟨gp,q,none⟩=some (.slice (some ⟨g4,0,none⟩) ww c4)∧W.cell? ⟨g4,z,none⟩=some (.bool true)) [23] qP (by kernel_rfl) ⟨by kernel_rfl,by kernel_rfl,by kernel_rfl⟩ ⟨m1,m2,n1,n2⟩ (fun ae hHeld=>?_)
                      ((refine tkB ae (i:=0) hHeld ?_);(try simp only[nP]);(refine tkB ae (i:=1) hHeld ?_);(try simp only[nP]);(refine tkB ae (i:=2) hHeld ?_);(try simp only[nP]);(refine tkB ae (i:=3) hHeld ?_);(try simp only[nP]);(refine tkB ae (i:=4) hHeld ?_);(try simp only[nP]);(refine tkB ae (i:=5) hHeld ?_);(try simp only[nP]);(refine tkB ae (i:=6) hHeld ?_);(try simp only[nP]);(refine tkB ae (i:=7) hHeld ?_);(try simp only[nP]);(refine tkB ae (i:=8) hHeld ?_);(try simp only[nP]);(refine tkB ae (i:=9) hHeld ?_);(try simp only[nP]);(refine tkB ae (i:=10) hHeld ?_);(try simp only[nP]);(refine tkB ae (i:=11) hHeld ?_);(try simp only[nP]);(refine tkB ae (i:=12) hHeld ?_);(try simp only[nP]);(refine tkB ae (i:=13) hHeld ?_);(try simp only[nP]);(refine tkB ae (i:=14) hHeld ?_);(try simp only[nP]);(refine tkB ae (i:=15) hHeld ?_);(try simp only[nP]);(refine tkB ae (i:=16) hHeld ?_);(try simp only[nP]);(refine tkB ae (i:=17) hHeld ?_);(try simp only[nP]);(refine tkB ae (i:=18) hHeld ?_);(try simp only[nP]);(refine tkB ae (i:=19) hHeld ?_);(try simp only[nP]);(refine tkB ae (i:=20) hHeld ?_);(try simp only[nP]);(refine tkB ae (i:=21) hHeld ?_);(try simp only[nP]);(refine tkB ae (i:=22) hHeld ?_);(try simp only[nP]))
                      refine tlB ae [23] [_] ?_
                      clear ae hHeld
                      go_wp2
                      go_roundw
                      case rel=>exact⟨z+1,_,by go_num,HLZ.out,(HMK false).out.1,HPK false,HN⟩
                      case measure=>have:=HLZ.out;simp[intOf];omega
                · have hzl:¬ (((z:Nat):Int)<((ww:Nat):Int)):=by omega
                  have hze:z=ww:=by omega
                  have HZE:=Hd_ hze
                  have hql:((q:Nat):Int)<((r:Nat):Int):=by have:=HLQ.out;omega
                  obtain⟨gt3,ct3,ar3,cr3,et3,er3,LY⟩:=hM.grid.rowAt hM.sz HLQ.out
                  simp only[Value.slice.injEq,true_and,Option.some.injEq,Addr.mk.injEq,and_true] at et3
                  obtain⟨rfl,rfl⟩:=et3
                  have HM5:=Hd_ hM
                  clear hze hlz hM er3
                  go_wp2
                  go_roundw
                  case rel=>exact⟨q+1,cl2,by go_num,HLQ.out,HM5.out,HPT,Hd_ (HTK.out.mono fun x y hxy=>by
                   have h1:=mE HM.out.sz hxy
                   have:=HZE.out
                   rw[decide_eq_decide];omega)⟩
                  case measure=>have:=HLQ.out;simp[intOf];omega
             · have hql:¬ (((q:Nat):Int)<((r:Nat):Int)):=by omega
               have hqe:q=r:=by omega
               have HQE:=Hd_ hqe
               have hb6:=pJ _ ps pl r ww _ wr HPT.out HSP.out h8 w8
               have HE2:Hid (∀ x z,gat cl2 x z=(gat cl x z && !gat pl x z)):=Hd_ fun x z=>by
                rw[HTK.out x z]
                cases e:gat cl x z with
                | false=>rfl
                | true =>
                  have:=(mE HM.out.sz e).1
                  have hd:decide (x<q)=true:=decide_eq_true (by omega)
                  simp only[hd,Bool.true_and]
               obtain⟨ao,co,rfl,-,-⟩:=az hM.own
               have hoM:=hM.own
               rw[List.length_map] at hoM
               have hbl:PL.length≤80:=by
                have l1:=HGO.out.len
                have l2:=Nat.mul_le_mul (show i≤8 by have:=HLT.out;omega) w8.2
                have:=HKL.out
                omega
               have HM6:=Hd_ hM
               have HGC:Hid (GB (eH pl) r ww):=Hd_ (AV HSP.out h8 w8)
               have HFC:Hid (∃ r c,fr (eH pl) r c=true):=Hd_ ⟨i,k,by rw[qF];show gat pl i k=true;have:=HIK.out;simpa using this⟩
               have hzw:=hM.ext.size
               have Gd:=HZ1.out
               have UG:=hM.z1
               clear hqe hlt hM HTK HQE
               rw[List.length_map]
               go_wp2_with (first
                | (go_at_call 126;refine(D7 _ s6 r ww _ Sg hg6 hf6).mono ?_;rintro e w7 ⟨v7,s7,t7,bo7,f7,o7,rfl,ho7,Gx,L8,hx7⟩;obtain⟨a7,c7,rfl,-,-⟩:=az ho7;have SE:=aJ SG hx7;have hz7:=hx7.size)
                | (go_at_call 127;refine hb6.mono ?_;rintro e w6 ⟨v6,s6,rfl,ho6,L9,hx6⟩;obtain⟨a6,c6,rfl,-,-⟩:=az ho6;have hg6:GB (bd s6) r ww:=by (rw[L9];exact HGC.out)
                   have hf6:∃ r c,fr (bd s6) r c=true:=by (rw[L9];exact HFC.out)
                   have Sg:=Strs.bG ho6 (by have:=mD hg6;omega)
                   have SG:=aJ hoM hx6
                   have hz6:=hx6.size)
                | (at_builtin;refine aW rfl (.tmp 96) (.tmp 100) 57 rfl (w.heap.size+1) 31 i0 (.agg #[.slice none 0 0]) 1 24 underlying57 hi0 hz0' hz1' hz2' rfl (by decide) (.slice ao PL.length co) PL.length xs rfl (SE.alloc _) _ 1 _ [.slice a7 s7.length c7] rfl rfl (.inr ⟨_,rfl,bq (aO _ _ _)⟩) lT (by unfold maxLen;omega) (by omega) (by rw[sA_];omega) ?_;intro v8 w8' ho8 hg8 hl8))
               go_roundw
               case rel =>
                have hg7:=zI hg6 Gx
                have hs7:s7.length≤8:=by
                 have e1:=hg7.1.hgt
                 have e2:=hg7.1.h1
                 rw[← L8,dS] at e1
                 omega
                rw[L9] at L8 Gx
                rw[qF] at Gx
                have HNX:=(HGO.out.add (y:=ni (eH pl) t7 bo7 f7 o7) (by have:=HG4.out;rw[Kh] at this;exact this) (Od HSP.out h8 w8 Gx) (by have:=HIK.out;simpa using this) HE2.out)
                have hMP:=HM6.out
                rw[List.length_map] at hMP
                have HPM:=hMP.push (aa hx6 hx7) (ic ho7 hz6) L8 hs7 (by rw[List.length_map];exact ho8) hg8 hl8
                exact⟨k+1,_,PL++[(gcs pl,ni (eH pl) t7 bo7 f7 o7)],cl2,by go_num,HKL.out,by rw[List.map_append];exact HPM,Hd_ ⟨HNX.st,HNX.done,by have:=HNX.len;omega⟩⟩
               case measure=>have:=HKL.out;simp[intOf];omega
     · have hkl':¬ (((k:Nat):Int)<((ww:Nat):Int)):=by omega
       have hke:k=ww:=by omega
       have HKE:=Hd_ hke
       obtain⟨gt2,ct2,ar2,cr2,et2,er2,hct⟩:=hM.grid.rowAt hM.sz HLT.out
       simp only[Value.slice.injEq,true_and,Option.some.injEq,Addr.mk.injEq,and_true] at et2
       obtain⟨rfl,rfl⟩:=et2
       have HM:=Hd_ hM
       clear hke hkl hM er2
       go_wp2
       go_roundw
       case rel=>exact⟨i+1,xs,PL,cl,by go_num,HLT.out,HM.out,Hd_ (HGO.out.skip (fun r c d=>by
        by_cases e:gat cl r c=true
        · have h1:=mE HM.out.sz e
          have:=HKE.out
          exact .inl (by omega)
        · exact .inr (by simpa using e)) (by rw[HKE.out,Nat.succ_mul];exact Nat.le_refl _))⟩
       case measure=>have:=HLT.out;simp[intOf];omega
  · have hil:¬ (((i:Nat):Int)<((hh:Nat):Int)):=by omega
    have hie:i=hh:=by omega
    have HIE:=Hd_ hie
    obtain⟨ao,co,rfl,-,-⟩:=az hM.own
    have HM:=Hd_ hM
    clear hie hlt hM
    go_wp2
    go_ret
    have hM:=HM.out
    rw[List.length_map] at hM
    refine⟨.slice ao PL.length co,PL,rfl,Rows.bG hM.own rfl hM.it (fun b hb=>⟨by have:=hb.1;have:=HZ1.out;omega,hb.2.1⟩) (fun b hb=>⟨by have:=(hM.own.lt b hb).1;omega,(hM.own.lt b hb).2⟩) (fun b hb=>hb.2),?_,?_,hM.ext⟩
    · obtain⟨U,h1,h2⟩:=HGO.out.st
      have e:U=fr (bd ss):=Cgt.yN fun x y=>⟨fun hU=>h1.shut.1 _ _ hU,fun hS=>by
       cases hU:U x y with
       | true=>rfl
       | false =>
         exfalso
         have h3:gcs cl x y=true:=by rw[h2];exact Cgt.mJ.2 ⟨hS,hU⟩
         have h4:=(mE hM.sz h3).1
         have h5:=HGO.out.done x y (by have:=HIE.out;omega)
         unfold gcs at h3
         rw[h5] at h3;cases h3⟩
      rw[e] at h1;exact h1
    · have l1:=HGO.out.len
      have l2:=Nat.mul_le_mul (show i≤8 by omega) w8.2
      omega
end Go.Proofs.YteknjeohbcgpdaaGreatDoor