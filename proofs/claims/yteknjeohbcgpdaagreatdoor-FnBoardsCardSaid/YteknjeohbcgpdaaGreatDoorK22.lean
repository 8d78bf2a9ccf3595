/-
  The walk of the reference's l21Moves.
-/
import Derived.Test.YteknjeohbcgpdaaGreatDoorK18
set_option maxRecDepth 100000
namespace Go.Proofs.YteknjeohbcgpdaaGreatDoor
open Tryz
open Go.RowKit
open bO (fw GB fD Cs pq iM wS rD pK can fr)
set_option maxHeartbeats 4000000 in
theorem G8(v:Value)(ss:List ByteArray)(hh ww:Nat)(left:Bool)(w:World)(h:Strs w v ss)(g:GB (bd ss) hh ww):
 Calls prog 129 #[.agg #[v],.bool left] w (IB left (bd ss) hh ww w):=by
 obtain⟨a,cap,rfl,hcap,p8⟩:=h.open;obtain⟨i0,hi0,hz0',hz1',hz2'⟩:=info_parts tZ;have h8:=g.h1;have w8:=g.w1;have hbb:((w.alloc (.cells #[.slice a ss.length cap] 31)).alloc (.cells #[] 31)).heap[w.heap.size]?=some (.cells #[.slice a ss.length cap] 31 (0,0)):=by
  rw[Below.heap_alloc _ _ _ (by simp)];exact heap_alloc_new _ _
 have hr0:=World.ownsRow_made (w.alloc (.cells #[.slice a ss.length cap] 31)) (base:=w.heap.size+1) (e:=31) (size:=1) #[] 0 (by rw[eQ];omega) (by decide) (by simp);have hx0:Ext w ((w.alloc (.cells #[.slice a ss.length cap] 31)).alloc (.cells #[] 31)):=by go_grown
 rw[eQ]at hr0;have hzb:((w.alloc (.cells #[.slice a ss.length cap] 31)).alloc (.cells #[] 31)).heap.size=w.heap.size+2:=by rw[eQ,eQ]
 have ZZ:=aQ hzb;have hcell:∀W,Ext w W->Calls prog 75 #[.agg #[.slice a ss.length cap]] W λe w'=>∃v' sl,e=.returned v'/\Gr w' W.heap.size v' sl (gK ss)/\Ext W w':=λW hW=>pW _ ss hh ww W (h.ext hW) g
 have HG:=aQ g;have uB:=aQ (nL g);have ahB:=aQ (Rh ss (nL g) left);have ahb:=aQ (Qn g left);have hnn:=(nL g).hgt;clear g hzb;go_enter Tryz.func129,Tryz.ntmps129
 cases left with
 |true=>
  go_upto_region 6 with(go_at_call 75;refine(hcell _ hx0).mono ?_;rintro e w1 ⟨vc,sl,rfl,hG,hx1⟩;obtain⟨gc,cc,rfl,-,-⟩:=hG.len)
  have acV:∀(i k:Nat) (W:World),Gr W (w.heap.size+2) (.slice gc hh cc) sl (gK ss)->Calls prog 172 #[.slice gc hh cc,.int .i64 ((i:Int)+1),.int .i64 (k:Int)] W λe w'=>e=.returned (.bool (EK (gK ss) hh ww (rD true i:Nat) (pK true k:Nat)))/\RD W w':=λi k W hW=>Av _ sl _ hh ww _ _ _ W hW uB.out h8 w8
  have HZ1:Hid (w.heap.size+2<=w1.heap.size):=aQ (by have:=hx1.size;have:=ZZ.out;omega);have hE1:=aQ (ax hx0 hx1);have hzz:w.heap.size+2=((w.alloc (.cells #[.slice a ss.length cap] 31)).alloc (.cells #[] 31)).heap.size:=by rw[eQ,eQ]
  have Vp:=(hx1.block _ (bu hbb)).trans hbb;rw[<-hzz]at hG;rw[hnn]at hG
  have hM0:LG w w1 w1 (.slice (some ⟨w.heap.size+1,0,none⟩) 0 0) [] []:=
   ⟨fq (Below.refl _ _),bY hr0 hx1,λb hb=>by simp[Value.ownBlock]at hb;exact .inl hb.symm,Items.nil λb hb=>hb.2.1⟩
  have HB1:=aQ Vp;have X5:=aQ hG;clear hG Vp hzz hbb hr0 hx0 hx1 hcap p8 hnn;go_wp2
  go_loopw [5,9,10,11] (λov ii _ _ wr=>∃(i:Nat) (xs:List Value) (bs:List fw),ii=.int .i64 ((i:Nat):Int)/\i<=hh/\LG w w1 wr ov xs bs/\Hid (bs=iM true (bd ss) ww i)) (λ_ ii _ _ _=>hh-(intOf ii).toNat)
  case atStart=>exact⟨0,[],[],rfl,aJ _,hM0,aQ rfl⟩
  case round=>
   clear hM0;obtain⟨i,xs,bs,rfl,hi,hM,yI⟩:=hrel;by_cases hlt:i<hh
   .have hil:((i:Nat):Int)<((hh:Nat):Int):=by omega
    have fJ:=aQ hlt;obtain⟨gt,ct,ar,cr,et,er,hct⟩:=(hM.grid X5.out (ay _)).rowAt uB.out hlt;simp only[Value.slice.injEq,true_and]at et;obtain⟨rfl,rfl⟩:=et;clear er hlt;go_wp2
    go_loopw [5,10,11] (λov kk _ wr=>∃(k:Nat) (xs:List Value) (bs:List fw),kk=.int .i64 ((k:Nat):Int)/\k<=ww/\LG w w1 wr ov xs bs/\Hid (bs=iM true (bd ss) ww i++pq true (bd ss) i k)) (λ_ kk _ _=>ww-(intOf kk).toNat)
    case atStart=>exact⟨0,xs,bs,rfl,aJ _,hM,aQ (by rw[yI.out];simp[pq])⟩
    case round=>
     clear hM yI hct;obtain⟨k,xs,bs,rfl,hk,hM,yI⟩:=hrel;have uh:=hM.grid X5.out (ay _);obtain⟨gt',ct',ar',LC,et,er,hct⟩:=uh.rowAt uB.out fJ.out;simp only[Value.slice.injEq,true_and,bN,Addr.mk.injEq,and_true]at et;obtain⟨rfl,rfl⟩:=et;by_cases hkl:k<ww
     .have hkl':((k:Nat):Int)<((ww:Nat):Int):=by omega
      have jl:=aQ hkl;obtain⟨gt2,ct2,g2,c2,Kz,Zu,htop,hbit,hfz⟩:=uh.at2 uB.out fJ.out hkl;rw[Zu]at er;simp only[Value.slice.injEq,true_and]at er;obtain⟨rfl,rfl⟩:=er;simp only[Value.slice.injEq,true_and,bN,Addr.mk.injEq,and_true]at Kz;obtain⟨rfl,rfl⟩:=Kz;have Es:=ahB.out i k;have AB:=acV i k wr uh;have hEr:=hM.ext hE1.out;have HM:=aQ hM;have HER:=aQ hEr;have HGr:=aQ uh;clear hM uh hEr htop Zu hkl hfz;cases hg0:jk (gK ss) i k with
      |false=>
       rw[hg0]at hbit Es;have HN:=aQ (wY Es);clear hg0 Es AB;go_wp2
       go_roundw
       case rel=>exact⟨k+1,xs,bs,by go_num,jl.out,HM.out,aQ (by rw[yI.out,HN.out])⟩
       case measure=>have:=jl.out;simp[intOf];omega
      |true=>
       rw[hg0]at hbit Es;rw[xB]at Es;cases hic:EK (gK ss) hh ww (rD true i:Nat) (pK true k:Nat)with
       |false=>
        rw[hic]at Es AB;have HN:=aQ (wY Es);clear hg0 Es hic;go_wp2_with (go_at_call 172;refine AB.mono ?_;rintro e w2 ⟨rfl,m,rfl⟩)
        go_roundw
        case rel=>exact⟨k+1,xs,bs,by go_num,jl.out,HM.out.drewN m,aQ (by rw[yI.out,HN.out])⟩
        case measure=>have:=jl.out;simp[intOf];omega
       |true=>
        rw[hic]at Es AB;have HN:=aQ (Du Es);have hab:rD true i<hh/\pK true k<ww:=by
         unfold EK at hic;simp only[dK,decide_eq_true_eq]at hic;omega
        have Xt:=aQ hab;have hbr:=HB1.out;clear hg0 Es hic hab;go_upto_region 13 with(go_at_call 172;refine AB.mono ?_;rintro e w2 ⟨rfl,m,rfl⟩)
        have Lu:=HM.out.drewN m;have hbd:(wr.drewN m).heap[w.heap.size]?=some (.cells #[.slice a ss.length cap] 31 (0,0)):=(Lu.keep.block _ (bu hbr) (by omega)).trans hbr;have Zl:=Lu.ext hE1.out;obtain⟨ao,co,rfl,-,-⟩:=bH Lu.own;have hbl:bs.length<=100:=by
         rw[yI.out,aK];have l1:=bO.vw true (bd ss) ww i;have l2:=bO.zq true (bd ss) i k;have l3:=gu (show i<=8 by omega) w8.2;omega
        clear hbr HER HGr HM AB hbit;generalize wr.drewN m=wd at *;have c0d:=cell_of_row wd w.heap.size 0 _ _ _ hbd;simp only[gE]at c0d;go_upto_region 14 with(go_at_call 75;refine(hcell _ Zl).mono ?_;rintro e w2 ⟨vn,sn,rfl,hGn,hx2⟩)
        obtain⟨gn,cn,gi,ci,rfl,en,hn1,hn2,hn3⟩:=hGn.at2 uB.out fJ.out jl.out;obtain⟨hG3,tC,hgi⟩:=hGn.mark uB.out fJ.out jl.out en false;have hx3:=hx2.setCell (p:=⟨gi,k,none⟩) hgi (.bool false);go_upto_region 15 with fail
        have HEd:=aQ Zl;have HMd:=aQ Lu;clear hGn hx2 en hn1 hn2 hn3 hbd c0d Zl Lu hgi;generalize w2.setCell ⟨gi,k,none⟩ (.bool false)=w3 at *;obtain⟨gn',AU,g5,c5,e1,e5,m1,m2,m3⟩:=hG3.at2 tC Xt.out.1 Xt.out.2;simp only[Value.slice.injEq,true_and,bN,Addr.mk.injEq,and_true]at e1;obtain⟨rfl,rfl⟩:=e1;obtain⟨hG4,Pb,hg5⟩:=hG3.mark tC Xt.out.1 Xt.out.2 e5 false;have hx4:=hx3.setCell (p:=⟨g5,pK true k,none⟩) hg5 (.bool false);have hPL:=ahb.out i k;have X7:=aQ hG4;have XY:=aQ hx4;have HS4:=aQ Pb;have PK:=aQ hPL;have hiA:((i:Nat):Int)+1<((hh:Nat):Int):=(by have:=Xt.out.1;simp only[rD,if_true]at this;omega);have hiB:((k:Nat):Int)<((ww:Nat):Int):=hkl';clear hG3 tC hx3 e5 hG4 Pb hx4 hPL hg5;simp only[rD,pK,if_true]at m1 m2 m3;go_upto_region 16 with fail
        have hBd:=tV _ sn _ hh ww _ _ X7.out HS4.out h8 w8;have PQ:=aQ hBd;have hx4:=XY.out;simp only[pK,if_true]at hx4 PQ;clear m1 m2 m3 hBd XY;generalize w3.setCell ⟨g5,k,none⟩ (.bool false)=w4 at *;have hoM:=bY HMd.out.own hx4;have XY:=aQ hx4;have MP:=hx4.size;have hz0:=HMd.out.keep.size;have hz1:=HZ1.out;clear hx4
        go_wp2_with (first
         |(go_at_call 127;refine PQ.out.mono ?_;rintro e w5 ⟨vb,sb,rfl,XJ,hbe,hx5⟩;obtain⟨ab,cb,rfl,-,-⟩:=bH XJ;have ab6:=bY hoM hx5;have UA:=hx5.size)
         |(at_builtin;refine dC rfl (.tmp 68) (.tmp 71) 57 rfl (w.heap.size+1) 31 i0 (.agg #[.slice none 0 0]) 1 24 underlying57 hi0 hz0' hz1' hz2' rfl (by decide) (.slice ao bs.length co) bs.length xs rfl (ab6.alloc _) _ 1 _ [.slice ab sb.length cb] rfl rfl (.inr ⟨_,rfl,dJ (dh _ _ _)⟩) mD (by unfold maxLen;omega) (by omega) (by rw[eQ];omega) ?_;intro v6 w6 OZ Km YX))
        go_roundw
        case rel=>
         have hs8:sb.length<=8:=by
          have h2:=congrArg List.length hbe;have h3:=HS4.out.hgt;simp only[pK,if_true]at h3;rw[iy,jE,bD,h3]at h2;omega
         exact⟨k+1,_,bs++[wS true (bd ss) i k],by go_num,jl.out,HMd.out.push hE1.out (ax XY.out hx5) (jV XJ MP) (by rw[hbe];exact PK.out) hs8 OZ Km YX,aQ (by rw[yI.out,HN.out,dA])⟩
        case measure=>have:=jl.out;simp[intOf];omega
     .have hkl':¬(((k:Nat):Int)<((ww:Nat):Int)):=by omega
      have hke:k=ww:=(by omega);have Er:=aQ hke;have HM:=aQ hM;clear hke hkl hM uh er;go_wp2
      go_roundw
      case rel=>exact⟨i+1,xs,bs,by go_num,fJ.out,HM.out,aQ (by rw[yI.out,Er.out,bO.su])⟩
      case measure=>have:=fJ.out;simp[intOf];omega
   .have hil:¬(((i:Nat):Int)<((hh:Nat):Int)):=by omega
    have hie:i=hh:=(by omega);have Gq:=aQ hie;have HM:=aQ hM;obtain⟨ao,co,rfl,-,-⟩:=bH hM.own;clear hie hlt hM;go_wp2
    go_ret
    have hM:=HM.out;refine⟨_,rfl,?_,hM.ext hE1.out⟩;rw[<-Gq.out,<-yI.out];exact Rows.eD hM.own rfl hM.it (λb hb=>⟨hb.1,hb.2.1⟩) (λb hb=>⟨by have:=(hM.own.lt b hb).1;omega,(hM.own.lt b hb).2⟩) (λb hb=>hb.2)
 |false=>
  go_upto_region 6 with(go_at_call 75;refine(hcell _ hx0).mono ?_;rintro e w1 ⟨vc,sl,rfl,hG,hx1⟩;obtain⟨gc,cc,rfl,-,-⟩:=hG.len)
  have acV:∀(i k:Nat) (W:World),Gr W (w.heap.size+2) (.slice gc hh cc) sl (gK ss)->Calls prog 172 #[.slice gc hh cc,.int .i64 (i:Int),.int .i64 ((k:Int)+1)] W λe w'=>e=.returned (.bool (EK (gK ss) hh ww (rD false i:Nat) (pK false k:Nat)))/\RD W w':=λi k W hW=>Av _ sl _ hh ww _ _ _ W hW uB.out h8 w8
  have HZ1:Hid (w.heap.size+2<=w1.heap.size):=aQ (by have:=hx1.size;have:=ZZ.out;omega);have hE1:=aQ (ax hx0 hx1);have hzz:w.heap.size+2=((w.alloc (.cells #[.slice a ss.length cap] 31)).alloc (.cells #[] 31)).heap.size:=by rw[eQ,eQ]
  have Vp:=(hx1.block _ (bu hbb)).trans hbb;rw[<-hzz]at hG;rw[hnn]at hG
  have hM0:LG w w1 w1 (.slice (some ⟨w.heap.size+1,0,none⟩) 0 0) [] []:=
   ⟨fq (Below.refl _ _),bY hr0 hx1,λb hb=>by simp[Value.ownBlock]at hb;exact .inl hb.symm,Items.nil λb hb=>hb.2.1⟩
  have HB1:=aQ Vp;have X5:=aQ hG;clear hG Vp hzz hbb hr0 hx0 hx1 hcap p8 hnn;go_wp2
  go_loopw [5,9,10,11] (λov ii _ _ wr=>∃(i:Nat) (xs:List Value) (bs:List fw),ii=.int .i64 ((i:Nat):Int)/\i<=hh/\LG w w1 wr ov xs bs/\Hid (bs=iM false (bd ss) ww i)) (λ_ ii _ _ _=>hh-(intOf ii).toNat)
  case atStart=>exact⟨0,[],[],rfl,aJ _,hM0,aQ rfl⟩
  case round=>
   clear hM0;obtain⟨i,xs,bs,rfl,hi,hM,yI⟩:=hrel;by_cases hlt:i<hh
   .have hil:((i:Nat):Int)<((hh:Nat):Int):=by omega
    have fJ:=aQ hlt;obtain⟨gt,ct,ar,cr,et,er,hct⟩:=(hM.grid X5.out (ay _)).rowAt uB.out hlt;simp only[Value.slice.injEq,true_and]at et;obtain⟨rfl,rfl⟩:=et;clear er hlt;go_wp2
    go_loopw [5,10,11] (λov kk _ wr=>∃(k:Nat) (xs:List Value) (bs:List fw),kk=.int .i64 ((k:Nat):Int)/\k<=ww/\LG w w1 wr ov xs bs/\Hid (bs=iM false (bd ss) ww i++pq false (bd ss) i k)) (λ_ kk _ _=>ww-(intOf kk).toNat)
    case atStart=>exact⟨0,xs,bs,rfl,aJ _,hM,aQ (by rw[yI.out];simp[pq])⟩
    case round=>
     clear hM yI hct;obtain⟨k,xs,bs,rfl,hk,hM,yI⟩:=hrel;have uh:=hM.grid X5.out (ay _);obtain⟨gt',ct',ar',LC,et,er,hct⟩:=uh.rowAt uB.out fJ.out;simp only[Value.slice.injEq,true_and,bN,Addr.mk.injEq,and_true]at et;obtain⟨rfl,rfl⟩:=et;by_cases hkl:k<ww
     .have hkl':((k:Nat):Int)<((ww:Nat):Int):=by omega
      have jl:=aQ hkl;obtain⟨gt2,ct2,g2,c2,Kz,Zu,htop,hbit,hfz⟩:=uh.at2 uB.out fJ.out hkl;rw[Zu]at er;simp only[Value.slice.injEq,true_and]at er;obtain⟨rfl,rfl⟩:=er;simp only[Value.slice.injEq,true_and,bN,Addr.mk.injEq,and_true]at Kz;obtain⟨rfl,rfl⟩:=Kz;have Es:=ahB.out i k;have AB:=acV i k wr uh;have hEr:=hM.ext hE1.out;have HM:=aQ hM;have HER:=aQ hEr;have HGr:=aQ uh;clear hM uh hEr htop Zu hkl hfz;cases hg0:jk (gK ss) i k with
      |false=>
       rw[hg0]at hbit Es;have HN:=aQ (wY Es);clear hg0 Es AB;go_wp2
       go_roundw
       case rel=>exact⟨k+1,xs,bs,by go_num,jl.out,HM.out,aQ (by rw[yI.out,HN.out])⟩
       case measure=>have:=jl.out;simp[intOf];omega
      |true=>
       rw[hg0]at hbit Es;rw[xB]at Es;cases hic:EK (gK ss) hh ww (rD false i:Nat) (pK false k:Nat)with
       |false=>
        rw[hic]at Es AB;have HN:=aQ (wY Es);clear hg0 Es hic;go_wp2_with (go_at_call 172;refine AB.mono ?_;rintro e w2 ⟨rfl,m,rfl⟩)
        go_roundw
        case rel=>exact⟨k+1,xs,bs,by go_num,jl.out,HM.out.drewN m,aQ (by rw[yI.out,HN.out])⟩
        case measure=>have:=jl.out;simp[intOf];omega
       |true=>
        rw[hic]at Es AB;have HN:=aQ (Du Es);have hab:rD false i<hh/\pK false k<ww:=by
         unfold EK at hic;simp only[dK,decide_eq_true_eq]at hic;omega
        have Xt:=aQ hab;have hbr:=HB1.out;clear hg0 Es hic hab;go_upto_region 13 with(go_at_call 172;refine AB.mono ?_;rintro e w2 ⟨rfl,m,rfl⟩)
        have Lu:=HM.out.drewN m;have hbd:(wr.drewN m).heap[w.heap.size]?=some (.cells #[.slice a ss.length cap] 31 (0,0)):=(Lu.keep.block _ (bu hbr) (by omega)).trans hbr;have Zl:=Lu.ext hE1.out;obtain⟨ao,co,rfl,-,-⟩:=bH Lu.own;have hbl:bs.length<=100:=by
         rw[yI.out,aK];have l1:=bO.vw false (bd ss) ww i;have l2:=bO.zq false (bd ss) i k;have l3:=gu (show i<=8 by omega) w8.2;omega
        clear hbr HER HGr HM AB hbit;generalize wr.drewN m=wd at *;have c0d:=cell_of_row wd w.heap.size 0 _ _ _ hbd;simp only[gE]at c0d;go_upto_region 14 with(go_at_call 75;refine(hcell _ Zl).mono ?_;rintro e w2 ⟨vn,sn,rfl,hGn,hx2⟩)
        obtain⟨gn,cn,gi,ci,rfl,en,hn1,hn2,hn3⟩:=hGn.at2 uB.out fJ.out jl.out;obtain⟨hG3,tC,hgi⟩:=hGn.mark uB.out fJ.out jl.out en false;have hx3:=hx2.setCell (p:=⟨gi,k,none⟩) hgi (.bool false);go_upto_region 15 with fail
        have HEd:=aQ Zl;have HMd:=aQ Lu;clear hGn hx2 en hn1 hn2 hn3 hbd c0d Zl Lu hgi;generalize w2.setCell ⟨gi,k,none⟩ (.bool false)=w3 at *;obtain⟨gn',AU,g5,c5,e1,e5,m1,m2,m3⟩:=hG3.at2 tC Xt.out.1 Xt.out.2;simp only[Value.slice.injEq,true_and,bN,Addr.mk.injEq,and_true]at e1;obtain⟨rfl,rfl⟩:=e1;obtain⟨hG4,Pb,hg5⟩:=hG3.mark tC Xt.out.1 Xt.out.2 e5 false;have hx4:=hx3.setCell (p:=⟨g5,pK false k,none⟩) hg5 (.bool false);have hPL:=ahb.out i k;have X7:=aQ hG4;have XY:=aQ hx4;have HS4:=aQ Pb;have PK:=aQ hPL;have hiA:((i:Nat):Int)<((hh:Nat):Int):=hil;have hiB:((k:Nat):Int)+1<((ww:Nat):Int):=(by have:=Xt.out.2;simp only[pK,lF,if_false]at this;omega);clear hG3 tC hx3 e5 hG4 Pb hx4 hPL hg5;simp only[rD,pK,lF,if_false]at m1 m2 m3;go_upto_region 16 with fail
        have hBd:=tV _ sn _ hh ww _ _ X7.out HS4.out h8 w8;have PQ:=aQ hBd;have hx4:=XY.out;simp only[pK,lF,if_false]at hx4 PQ;clear m1 m2 m3 hBd XY;generalize w3.setCell ⟨g5,k+1,none⟩ (.bool false)=w4 at *;have hoM:=bY HMd.out.own hx4;have XY:=aQ hx4;have MP:=hx4.size;have hz0:=HMd.out.keep.size;have hz1:=HZ1.out;clear hx4
        go_wp2_with (first
         |(go_at_call 127;refine PQ.out.mono ?_;rintro e w5 ⟨vb,sb,rfl,XJ,hbe,hx5⟩;obtain⟨ab,cb,rfl,-,-⟩:=bH XJ;have ab6:=bY hoM hx5;have UA:=hx5.size)
         |(at_builtin;refine dC rfl (.tmp 68) (.tmp 71) 57 rfl (w.heap.size+1) 31 i0 (.agg #[.slice none 0 0]) 1 24 underlying57 hi0 hz0' hz1' hz2' rfl (by decide) (.slice ao bs.length co) bs.length xs rfl (ab6.alloc _) _ 1 _ [.slice ab sb.length cb] rfl rfl (.inr ⟨_,rfl,dJ (dh _ _ _)⟩) mD (by unfold maxLen;omega) (by omega) (by rw[eQ];omega) ?_;intro v6 w6 OZ Km YX))
        go_roundw
        case rel=>
         have hs8:sb.length<=8:=by
          have h2:=congrArg List.length hbe;have h3:=HS4.out.hgt;simp only[pK,lF,if_false]at h3;rw[iy,jE,bD,h3]at h2;omega
         exact⟨k+1,_,bs++[wS false (bd ss) i k],by go_num,jl.out,HMd.out.push hE1.out (ax XY.out hx5) (jV XJ MP) (by rw[hbe];exact PK.out) hs8 OZ Km YX,aQ (by rw[yI.out,HN.out,dA])⟩
        case measure=>have:=jl.out;simp[intOf];omega
     .have hkl':¬(((k:Nat):Int)<((ww:Nat):Int)):=by omega
      have hke:k=ww:=(by omega);have Er:=aQ hke;have HM:=aQ hM;clear hke hkl hM uh er;go_wp2
      go_roundw
      case rel=>exact⟨i+1,xs,bs,by go_num,fJ.out,HM.out,aQ (by rw[yI.out,Er.out,bO.su])⟩
      case measure=>have:=fJ.out;simp[intOf];omega
   .have hil:¬(((i:Nat):Int)<((hh:Nat):Int)):=by omega
    have hie:i=hh:=(by omega);have Gq:=aQ hie;have HM:=aQ hM;obtain⟨ao,co,rfl,-,-⟩:=bH hM.own;clear hie hlt hM;go_wp2
    go_ret
    have hM:=HM.out;refine⟨_,rfl,?_,hM.ext hE1.out⟩;rw[<-Gq.out,<-yI.out];exact Rows.eD hM.own rfl hM.it (λb hb=>⟨hb.1,hb.2.1⟩) (λb hb=>⟨by have:=(hM.own.lt b hb).1;omega,(hM.own.lt b hb).2⟩) (λb hb=>hb.2)
end Go.Proofs.YteknjeohbcgpdaaGreatDoor