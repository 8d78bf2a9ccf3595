/-
  Plain law: the parts of a board, told by both; the sum of their forms is the board's; no condition. (4 texts.)
-/
import Derived.Test.YteknjeohbcgpdaaGreatDoorK50
import Derived.Test.YteknjeohbcgpdaaGreatDoorK51
set_option maxRecDepth 100000
namespace Go.Proofs.YteknjeohbcgpdaaGreatDoor
open Tryz
section
open Go.RowKit
open bO (fw GB fr Cs Grown none_ Bd IA iG)
def NU(b:fw)(hh ww:Nat)(w:World)(e:Ending)(w':World):Prop:=
 ∃v ks ys,e=.returned v/\Rows uM 1 (λb=>w.heap.size<=b/\b<w'.heap.size) w' v ys/\jL (fr b) hh ww (λ_ _=>True) ks ys/\Ext w w'
theorem SG{b y:fw}{hh ww:Nat}(g:GB b hh ww)(ht:NQ b y):y.length<=8:=by
 rcases ht with⟨t,bo,f,o,hb,rfl⟩|⟨_,rfl⟩
 .have gc:=(zT g hb).1
  have:=gc.hgt;have:=gc.h1;omega
 .decide
theorem rV(hh ww:Nat):(uD hh ww).length=hh:=by simp[uD]
set_option maxHeartbeats 8000000 in
theorem Mo(v:Value)(ss:List ByteArray)(hh ww:Nat)(w:World)(h:Strs w v ss)(g:GB (bd ss) hh ww):
 Calls prog 73 #[.agg #[v]] w (NU (bd ss) hh ww w):=by
 obtain⟨i0,hi0,hz0',hz1',hz2'⟩:=info_parts tZ;obtain⟨a,cap,rfl,hcap,p8⟩:=h.open;have hh8:=g.h1;have hw8:=g.w1;have hlen:ss.length=hh:=oh g;have HG:=aQ g;have uB:Hid (∀s,s∈ss->s.size=ww):=aQ λs hs=>by
  obtain⟨i,hi,rfl⟩:=aW.1 hs;exact og g hi
 have HLEN:=aQ hlen;have Xl:Hid (ss.length<=8):=aQ (by omega);have ahC:Hid (∀b,Value.ownBlock (.slice a ss.length cap)=some b->b<w.heap.size):=aQ λb hb=>lN.blk h (by rw[bD];omega) hb
 have hfr:∀W,Ext w W->∀r c:Int,(-100<=r/\r<=100)->(-100<=c/\c<=100)->Calls prog 109 #[.agg #[.slice a ss.length cap],.int .i64 r,.int .i64 c] W λe w'=>e=.returned (.bool (Hd (bd ss) r c))/\Ext W w':=λW hW r c hr hc=>zO _ ss hh ww r c W (h.ext hW) g hr hc
 have Xr:Hid (∀i (hi:i<ss.length) k (hk:k<(ss[i]).size),((ss[i])[k]).toNat<128):=aQ λi hi k hk=>by
  refine A9 g (r:=ll ss[i]) (aH.2 ⟨ss[i],ai hi,rfl⟩) ?_;exact Array.getElem_mem_toList ..
 have hbb:((w.alloc (.cells #[.slice a ss.length cap] 31)).alloc (.cells #[] 31)).heap[w.heap.size]?=some (.cells #[.slice a ss.length cap] 31 (0,0)):=by
  rw[Below.heap_alloc _ _ _ (by simp)];exact heap_alloc_new _ _
 have hr0:=World.ownsRow_made (w.alloc (.cells #[.slice a ss.length cap] 31)) (base:=w.heap.size+1) (e:=31) (size:=1) #[] 0 (by rw[eQ];omega) (by decide) (by simp);rw[eQ]at hr0;have hx0:Ext w ((w.alloc (.cells #[.slice a ss.length cap] 31)).alloc (.cells #[] 31)):=by go_grown
 have hzb:((w.alloc (.cells #[.slice a ss.length cap] 31)).alloc (.cells #[] 31)).heap.size=w.heap.size+2:=by rw[eQ,eQ]
 have ZZ:=aQ hzb;clear hlen g hzb;go_enter Tryz.func73,Tryz.ntmps73
 go_upto_region 2 with fail
 generalize ((w.alloc (.cells #[.slice a ss.length cap] 31)).alloc (.cells #[] 31))=We at *;have c0:=cell_of_row We w.heap.size 0 _ _ _ hbb;simp only[gE]at c0;go_upto_region 3 with(go_at_call 122;refine(FM _ ss hh ww We (h.ext hx0) HG.out).mono ?_;rintro e w1 ⟨sv,sl,rfl,uh,hx1⟩;obtain⟨ae,ce,rfl,-,-⟩:=uh.len)
 rw[ZZ.out]at uh;rw[rV]at uh ⊢
 have hM0:Ei w w1 w1 w.heap.size (.slice a ss.length cap) (.slice ae hh ce) sl hh ww (uD hh ww) (.slice (some ⟨w.heap.size+1,0,none⟩) 0 0) [] []:=
  ⟨(hx1.block _ (bu hbb)).trans hbb,uh,CP hh ww,bY hr0 hx1,λb hb=>.inl (by simpa [Value.ownBlock]using hb.symm),⟨λ_=>False,Items.nil λb hb=>hb.elim,λb hb=>hb.elim⟩,by simp[Value.ownBlock],λb hb=>(uh.lt (b:=b) (by rw[rV];exact hb)).2,ay _,by have:=hx1.size;have:=ZZ.out;omega,ax hx0 hx1⟩
 clear c0 hbb hr0 hx0 hx1 uh;have c1:=cell_of_row w1 w.heap.size 0 _ _ _ hM0.b0;simp only[gE]at c1;go_upto_region 4 with fail
 clear c1;go_loopw [3,5,6,7,14] (λov _ _ _ ii wr=>∃(i:Nat) (xs:List Value) (bs:List fw) (ks:List Nat) (cl:Cl),ii=.int .i64 ((i:Nat):Int)/\i<=ss.length/\Ei w w1 wr w.heap.size (.slice a ss.length cap) (.slice ae hh ce) sl hh ww cl ov xs bs/\Hid (jL (fr (bd ss)) hh ww (λr _=>r<i) ks bs/\Seen (fr (bd ss)) (lK cl) (λr _=>r<i))) (λ_ _ _ _ ii _=>ss.length-(intOf ii).toNat)
 case atStart=>exact⟨0,[],[],[],_,rfl,aJ _,hM0,aQ ⟨(jL.nil _ hh ww).skip (λ_ _ h=>h.elim) (λ_ _ h _=>absurd h (by omega)),by rw[uQ];exact(Seen.nil _).skip (λ_ _ h=>h.elim) (λ_ _ h _=>absurd h (by omega))⟩⟩
 case round=>
  clear hM0;obtain⟨i,xs,bs,ks,cl,rfl,hi,hM,HX⟩:=hrel;by_cases hlt:i<ss.length
  .have hil:((i:Nat):Int)<((ss.length:Nat):Int):=by omega
   have fJ:=aQ hlt;obtain⟨b,off,rfl,hcl⟩:=(h.ext hM.ext).at hlt;have ci:=hcl i hlt;have cb:=cell_of_row wr w.heap.size 0 _ _ _ hM.b0;simp only[gE]at cb;have hsi:=uB.out _ (ai fJ.out);obtain⟨si,rU⟩:∃si:ByteArray,ss[i]'(fJ.out)=si:=⟨_,rfl⟩;have hasc:∀k (hk:k<si.size),(si[k]).toNat<128:=(by subst rU;exact Xr.out i fJ.out);rw[rU]at ci hsi;have HM:=aQ hM;have Xf:=aQ hsi;have aeW:si.size<=8:=(by omega);have HAS:=aQ hasc;clear hM hlt hcl rU hsi hasc;go_upto_region 7 with fail
   have hst:=HM.out.start si;have hit:=World.iter_heap wr si 0;have QS:w1.heap.size<=wr.heap.size:=HM.out.z1;clear HM cb ci;generalize wr.iter si 0=W0 at *;generalize wr.heap.size=kI at *;go_loopw [3,6,7] (λov _ _ w3=>∃(k:Nat) (xs:List Value) (bs:List fw) (ks:List Nat) (cl:Cl),k<=si.size/\Ei w w1 w3 kI (.slice (some ⟨b,off,none⟩) ss.length cap) (.slice ae hh ce) sl hh ww cl ov xs bs/\w3.heap[kI]?=some (.stringIter si k)/\Hid (jL (fr (bd ss)) hh ww (λr c=>r<i\/(r=i/\c<k)) ks bs/\Seen (fr (bd ss)) (lK cl) (λr c=>r<i\/(r=i/\c<k)))) (λ_ _ _ w3=>si.size-w3.iterPos kI)
   case atStart=>exact⟨0,xs,bs,ks,cl,aJ _,hst,hit,aQ ⟨HX.out.1.skip (λ_ _ h=>.inl h) (λ_ _ h _=>by omega),HX.out.2.skip (λ_ _ h=>.inl h) (λ_ _ h _=>.inl (by omega))⟩⟩
   case round=>
    clear hst hit HX;obtain⟨k,xs,bs,ks,cl,hk,hM,hit,HX⟩:=hrel;have ET:=aQ (iterPos_of hit);by_cases hkl:k<si.size
    .have jl:=aQ hkl
     obtain⟨rn,hnx⟩:∃rn:Int,∀ty,(Instr.next (.pointer (some ⟨kI,0,none⟩)) true ty).run prog wr=.ok (.tuple #[.bool true,.int .i64 ((k:Nat):Int),.int .i32 rn]) (wr.iterAt kI si (k+1)):=⟨_,λty=>Lib.run_next_ascii_at (P:=prog) wr kI si k ty hit hkl (HAS.out k hkl)⟩;have hMs:=hM.step QS si (k+1);have hit2:=Lib.iterAt_heap wr kI si k (k+1) hit;clear hM hit;go_upto_region 9 with fail
     clear hnx hkl;generalize wr.iterAt kI si (k+1)=W1 at *;have cb:=cell_of_row W1 w.heap.size 0 _ _ _ hMs.b0;simp only[gE]at cb;have hE1:=hMs.ext;have hi8:=Xl.out;have HIT:=aQ hit2;have Rz:=aQ hMs;have hkw:k<ww:=(by have:=Xf.out;have:=jl.out;omega);have hih:i<hh:=(by have:=HLEN.out;have:=fJ.out;omega);clear hMs hit2;cases hf0:fr (bd ss) i k with
     |false=>
      have HN:Hid (jL (fr (bd ss)) hh ww (λr c=>r<i\/(r=i/\c<k+1)) ks bs/\Seen (fr (bd ss)) (lK cl) (λr c=>r<i\/(r=i/\c<k+1))):=aQ
       ⟨HX.out.1.skip (λ_ _ h=>by omega) (λr c h hf=>by
        by_cases e:r=i/\c=k
        .have:=hf.1;rw[e.1,e.2,hf0]at this;cases this
        .omega),HX.out.2.skip (λ_ _ h=>by omega) (λr c h hs=>by
        by_cases e:r=i/\c=k
        .rw[e.1,e.2,hf0]at hs;cases hs
        .exact .inl (by omega))⟩
      go_wp2_with (go_at_call 109;refine(hfr _ hE1 _ _ (by omega) (by omega)).mono ?_;rintro e w2 ⟨he,hx2⟩;rw[mE,hf0]at he;subst he)
      go_roundw
      case rel=>exact⟨k+1,xs,bs,ks,cl,jl.out,Rz.out.ext' hx2,(hx2.block _ (mQ HIT.out)).trans HIT.out,HN⟩
      case measure=>have:=iterPos_of ((hx2.block _ (mQ HIT.out)).trans HIT.out);have:=ET.out;have:=jl.out;omega
     |true=>
      obtain⟨gt,ct,g2,c2,et,eg,htop,hbit,-⟩:=Rz.out.grid.at2 Rz.out.sz hih hkw;simp only[Value.slice.injEq,true_and]at et;obtain⟨rfl,rfl⟩:=et;have aj0:((i:Nat):Int)<((hh:Nat):Int):=(by omega);have ajS:((k:Nat):Int)<((ww:Nat):Int):=(by omega);clear eg;cases hu:jk cl i k with
      |true=>
       rw[hu]at hbit
       have HN:Hid (jL (fr (bd ss)) hh ww (λr c=>r<i\/(r=i/\c<k+1)) ks bs/\Seen (fr (bd ss)) (lK cl) (λr c=>r<i\/(r=i/\c<k+1))):=aQ
        ⟨HX.out.1.skip (λ_ _ h=>by omega) (λr c h hf=>by
         by_cases e:r=i/\c=k
         .rw[e.1,e.2]at hf;exact absurd hf (HX.out.2.TY hu)
         .omega),HX.out.2.skip (λ_ _ h=>by omega) (λr c h hs=>by
         by_cases e:r=i/\c=k
         .rw[e.1,e.2];exact .inr hu
         .exact .inl (by omega))⟩
       go_wp2_with (go_at_call 109;refine(hfr _ hE1 _ _ (by omega) (by omega)).mono ?_;rintro e w2 ⟨he,hx2⟩;rw[mE,hf0]at he;subst he;have m1:=(hx2.cell (lt_of_cell htop)).trans htop;have m2:=(hx2.cell (lt_of_cell hbit)).trans hbit)
       go_roundw
       case rel=>exact⟨k+1,xs,bs,ks,cl,jl.out,Rz.out.ext' hx2,(hx2.block _ (mQ HIT.out)).trans HIT.out,HN⟩
       case measure=>have:=iterPos_of ((hx2.block _ (mQ HIT.out)).trans HIT.out);have:=ET.out;have:=jl.out;omega
      |false=>
       rw[hu]at hbit;have HFI:=aQ (HX.out.2.first hf0 hu);go_upto_region 10 with(go_at_call 109;refine(hfr _ hE1 _ _ (by omega) (by omega)).mono ?_;rintro e w2 ⟨he,hx2⟩;rw[mE,hf0]at he;subst he;have m1:=(hx2.cell (lt_of_cell htop)).trans htop;have m2:=(hx2.cell (lt_of_cell hbit)).trans hbit)
       have hM2:=Rz.out.ext' hx2;have hit2:=(hx2.block _ (mQ HIT.out)).trans HIT.out;have Wp:=cell_of_row w2 w.heap.size 0 _ _ _ hM2.b0;simp only[gE]at Wp;have hE2:=hM2.ext;have Ae:=aQ (And.intro hM2 hit2);clear htop hbit m1 m2 hx2 hM2 hit2 cb hE1;go_upto_region 11 with(go_at_call 122;refine(FM _ ss hh ww w2 (h.ext hE2) HG.out).mono ?_;rintro e w3 ⟨vI,slI,rfl,hGI,hx3⟩;obtain⟨aI,cI,rfl,-,-⟩:=hGI.len)
       rw[rV]at hGI ⊢;have hPI:om w3 w2.heap.size (.slice (some ⟨b,off,none⟩) ss.length cap) ss (.slice aI hh cI) slI (uD hh ww) hh ww:=⟨h.ext (ax hE2 hx3),hGI,CP hh ww,λq hq e=>by
        have h1:=(hGI.lt (b:=q) (.inr (by rw[rV];exact hq))).1;have:=ahC.out q e;have:=hE2.size;omega⟩
       have cb3:=(hx3.cell (lt_of_cell Wp)).trans Wp;have hIN:=yc w3 w2.heap.size _ ss _ slI (uD hh ww) hh ww (i:Int) (k:Int) hPI HG.out (by omega) (by omega);have HIB:Hid (∀q,Lg slI hh q->w2.heap.size<=q):=aQ λq hq=>(hGI.lt (b:=q) (.inr (by rw[rV];exact hq))).1
       clear hPI hGI Wp;go_upto_region 12 with(go_at_call 123;refine hIN.mono ?_;rintro e w4 ⟨plI,rfl,RZ,hK4,hG4,Pd,hD4⟩)
       have hx24:Ext w2 w4:=jw hx3 hK4 λq hq=>HIB.out q hq
       have Ac:=Ae.out.1.ext' hx24;have afx:=(hx24.block _ (mQ Ae.out.2)).trans Ae.out.2;have IV:=Ac.ext;have cb4:=cell_of_row w4 w.heap.size 0 _ _ _ Ac.b0;simp only[gE]at cb4;have hPS:om w4 (w.heap.size+2) (.slice (some ⟨b,off,none⟩) ss.length cap) ss (.slice (some ⟨gt,0,none⟩) hh ce) sl cl hh ww:=⟨h.ext IV,Ac.grid,Ac.sz,λq hq e=>by
        have h1:=(Ac.grB (b:=q) (.inr hq)).1;have:=ahC.out q e;omega⟩
       have hSE:=yc w4 (w.heap.size+2) _ ss _ sl cl hh ww (i:Int) (k:Int) hPS HG.out (by omega) (by omega);have PK:=aQ (And.intro hG4 (And.intro (Pd (by rw[mE];exact hf0)) hD4));have HP4:=aQ RZ;have RA:=aQ (And.intro Ac afx);have as4:=aQ hx24;clear hIN RZ hK4 hG4 Pd hD4 hx3 cb3 hPS Ac afx;go_upto_region 13 with(go_at_call 123;refine hSE.mono ?_;rintro e w5 ⟨cl5,rfl,Hm,XV,AL,hN5,hD5⟩)
       have BJ:=RA.out.1.mark XV Hm.part Hm.sz;have hzk:w1.heap.size<=w2.heap.size:=Ae.out.1.z1;have agw:=HP4.out.part.keep XV (λq hq e=>by
        have h1:=(HP4.out.part.lt (b:=q) hq).1;have:=(RA.out.1.grB (b:=q) (.inr e)).2;omega)
       have afw:=(XV.block _ (mQ RA.out.2) (λe=>by
        have:=(RA.out.1.grB (b:=kI) (.inr e)).2;omega)).trans RA.out.2
       have hE5:=BJ.ext;have cb5:=cell_of_row w5 w.heap.size 0 _ _ _ BJ.b0;simp only[gE]at cb5;obtain⟨ao,co,rfl,-,-⟩:=bH BJ.own;have iT:=BJ.own;have UA:=hE5.size;have hbl:bs.length<=64:=HX.out.1.len HG.out.bd;have akB:=TT _ ss hh ww w5 (h.ext hE5) HG.out _ _ slI plI agw HP4.out.sz;have HSN:=aQ (And.intro AL (And.intro (hN5 (by rw[mE];exact hf0)) hD5));have IE:=aQ (And.intro BJ afw);have N9:=aQ (zh (pl:=plI) HG.out);clear hSE Hm XV AL hN5 hD5 agw cb4 BJ afw hx24
       go_wp2_with (first
        |(at_builtin;refine dC rfl (.tmp 52) (.tmp 57) 57 rfl (w.heap.size+1) 31 i0 (.agg #[.slice none 0 0]) 1 24 underlying57 hi0 hz0' hz1' hz2' rfl (by decide) (.slice ao bs.length co) bs.length xs rfl (BF.alloc _) _ 1 _ [.slice aT sT.length cT] rfl rfl (.inr ⟨_,rfl,dJ (dh _ _ _)⟩) mD (by unfold maxLen;omega) (by omega) (by rw[eQ];omega) ?_;intro v8 w8 ho8 hg8 hl8)
        |(go_at_call 66;refine(Jd _ sO hh ww w6 (Strs.eD hoO (by omega)) (by rw[hbO];exact N9.out)).mono ?_;rintro e w7 ⟨vT,sT,rfl,hT,hoT,hx7⟩;obtain⟨aT,cT,rfl,-,-⟩:=bH hoT;have BF:=bY iT (ax hx6 hx7);have hz7:=hx7.size;have hz6:=hx6.size)
        |(go_at_call 124;refine akB.mono ?_;rintro e w6 ⟨vO,sO,rfl,hoO,hbO,hx6⟩;obtain⟨aO,cO,rfl,-,-⟩:=bH hoO;have hsO:sO.length<=8:=(by have e1:=N9.out.hgt;rw[<-hbO,iy]at e1;omega)))
       go_roundw
       case rel=>
        have hPc:=Qs (P:=lK plI) (by have:=PK.out.1;rw[uQ]at this;exact this) PK.out.2.1 (by have:=PK.out.2.2;simp only[dP,uQ]at this;exact this);have hsub:∀x y,lK plI x y=true->fr (bd ss) x y=true:=λx y q=>((hPc x y).1 q).cell
        have hY:BV hh ww (lK plI) (bd sT):=TM HG.out hsub PK.out.2.1 (by rw[<-hbO];exact hT);have hX1:=HX.out.1.add (P:=lK plI) (y:=bd sT) (by omega) HFI.out (λr c d _=>d) hPc hY;have hX2:=hX1.skip (D':=λr c=>r<i\/(r=i/\c<k+1)) (λr c q=>by omega) (λr c q _=>by omega);have hS2:=HX.out.2.add (D':=λr c=>r<i\/(r=i/\c<k+1)) HSN.out.1 HSN.out.2.1 (by have:=HSN.out.2.2;simp only[dP]at this;exact this) (λr c q=>by omega) (λr c q=>by omega) (by omega);have h8:sT.length<=8:=by
         have:=SG (N9.out) (by rw[<-hbO];exact hT);rw[iy]at this;exact this
        have hM8:=IE.out.1.push (mQ IE.out.2) (ax hx6 hx7) hz6 hoT rfl h8 ho8 hg8 hl8;have acj:w8.heap[kI]?=some (.stringIter si (k+1)):=by
         have q1:=mQ IE.out.2;rw[hg8.block _ (by rw[eQ];omega) (λe=>IE.out.1.nk e.symm),Below.heap_alloc _ _ _ (by omega),hx7.block _ (by omega),hx6.block _ q1];exact IE.out.2
        exact⟨k+1,_,_,_,cl5,jl.out,hM8,acj,aQ ⟨hX2,hS2⟩⟩
       case measure=>
        have acj:w8.heap[kI]?=some (.stringIter si (k+1)):=by
         have q1:=mQ IE.out.2;rw[hg8.block _ (by rw[eQ];omega) (λe=>IE.out.1.nk e.symm),Below.heap_alloc _ _ _ (by omega),hx7.block _ (by omega),hx6.block _ q1];exact IE.out.2
        have:=iterPos_of acj;have:=ET.out;have:=jl.out;omega
    .have hnx:=λty=>Lib.run_next_end_at (P:=prog) wr kI si k ty hit hkl
     have hke:k=ww:=by have:=Xf.out;omega
     have Ey:Hid (jL (fr (bd ss)) hh ww (λr _=>r<i+1) ks bs/\Seen (fr (bd ss)) (lK cl) (λr _=>r<i+1)):=aQ
      ⟨HX.out.1.skip (λ_ _ h=>by omega) (λr c h hf=>by have:=(HG.out.Az hf.1).2;omega),HX.out.2.skip (λ_ _ h=>by omega) (λr c h hs=>.inl (by have:=(HG.out.Az hs).2;omega))⟩
     have X3:=aQ hM.stop;clear hM HX hke;go_wp2
     go_roundw
     case rel=>exact⟨i+1,xs,bs,ks,cl,by go_num,fJ.out,X3.out,Ey⟩
     case measure=>have:=fJ.out;simp[intOf];omega
  .have h1:¬(((i:Nat):Int)<((ss.length:Nat):Int)):=by omega
   have hie:i=hh:=(by have:=HLEN.out;omega);have HR:Hid (Rows uM 1 (λb=>w.heap.size<=b/\b<wr.heap.size) wr u3 bs):=aQ (by
    obtain⟨S,s1,s2⟩:=hM.it;have XH:=hM.zw;exact Rows.eD hM.own rfl s1 (λb hb=>⟨by have:=(s2 b hb).1;omega,s1.2.1 b hb⟩) (λb hb=>⟨by have:=(hM.own.lt b hb).1;omega,(hM.own.lt b hb).2⟩) (λb hb=>hb.2))
   have HE:=aQ hM.ext;have Ey:=aQ (HX.out.1.skip (D':=λ_ _=>True) (λ_ _ _=>trivial) (λr c _ hf=>by have:=(HG.out.Az hf.1).1;omega));clear hM hie HX;go_wp2
   go_ret
   exact⟨_,ks,bs,rfl,HR.out,Ey.out,HE.out⟩
end
section
open Go.RowKit
open bO (fw GB iG fD fr)
variable {w w':World} {b:fw} {hh ww:Nat}
theorem Rows.wide{α:Type}{R:World->List Value->α->Prop}{S T:Nat->Prop}{size:Nat}{v:Value}{Ts:List α}(h:Rows R size S w v Ts)(hS:∀b,S b->T b)(hT:∀b,T b->b<w.heap.size):Rows R size T w v Ts:=by
 obtain⟨xs,a,cap,rfl,h1,h2,h3,h4⟩:=h;exact⟨xs,a,cap,rfl,h1,h2,h3.mono hS hT,λh0=>by obtain⟨b,rfl,hb,hc⟩:=h4 h0;exact⟨b,rfl,hS b hb,hc⟩⟩
def NS(b:fw)(hh ww:Nat)(w:World)(e:Ending)(w':World):Prop:=
 ∃v ks ys,e=.returned (.tuple #[v,.bool true])/\Rows uM 1 (λb=>w.heap.size<=b/\b<w'.heap.size) w' v ys/\jL (fr b) hh ww (λ_ _=>True) ks ys/\Ext w w'
set_option maxHeartbeats 2000000 in
theorem Mr(v:Value)(ss:List ByteArray)(hh ww:Nat)(w:World)(h:Strs w v ss)(hl:ss.length<=1048576)(hs:∀s,s∈ss->s.size<=1048576)(g:GB (bd ss) hh ww):
 Calls prog 34 #[.agg #[v]] w (NS (bd ss) hh ww w):=by
 obtain⟨a,cap,rfl,hcap,p8⟩:=h.open;have hg:iG (bd ss)=true:=bO.nK.2 ⟨hh,ww,g⟩;have hb1:=heap_alloc_new w (.cells #[.slice a ss.length cap] 31);have hx1:Ext w (w.alloc (.cells #[.slice a ss.length cap] 31)):=by go_grown
 have hz:=hx1.size;go_enter Tryz.func34,Tryz.ntmps34
 go_upto_region 1 with fail
 generalize w.alloc (.cells #[.slice a ss.length cap] 31)=W at *;have c0:=cell_of_row W w.heap.size 0 _ _ _ hb1;go_upto_region 3 with(go_at_call 41;refine(jU _ ss _ (h.ext hx1) hl hs).mono ?_;rintro e w1 ⟨he,hx2⟩;rw[hg]at he;subst he;have c1:=(hx2.cell (lt_of_cell c0)).trans c0)
 have hE:=ax hx1 hx2;have hz1:=hE.size;go_wp2_with (go_at_call 73;refine(Mo _ ss hh ww w1 (h.ext hE) g).mono ?_;rintro e w2 ⟨vP,ks,ys,rfl,hR,hX,hx3⟩)
 go_ret2
 exact⟨vP,ks,ys,rfl,hR.wide (λb hb=>⟨by omega,hb.2⟩) (λb hb=>hb.2),hX,ax hE hx3⟩
def oJ(b:fw)(w:World)(e:Ending)(w':World):Prop:=
 ∃so,e=.returned (.tuple #[.string so,.bool (iG b)])/\(iG b=true->ll so=fD b)/\(iG b=false->so=⟨#[]⟩)/\Ext w w'
theorem oJ.yes{so:ByteArray}(hg:iG b=true)(h:ll so=fD b)(hx:Ext w w'):oJ b w (.returned (.tuple #[.string so,.bool true])) w':=
 ⟨so,by rw[hg],λ_=>h,(λk=>by rw[hg]at k;cases k),hx⟩
theorem oJ.no(hg:iG b=false)(hx:Ext w w'):oJ b w (.returned (.tuple #[.string ⟨#[]⟩,.bool false])) w':=
 ⟨_,by rw[hg],λk=>(by rw[hg]at k;cases k),λ_=>rfl,hx⟩
set_option maxHeartbeats 2000000 in
theorem uZ(v:Value)(ss:List ByteArray)(w:World)(h:Strs w v ss)(hl:ss.length<=1048576)(hs:∀s,s∈ss->s.size<=1048576):
 Calls prog 32 #[.agg #[v]] w (oJ (bd ss) w):=by
 obtain⟨a,cap,rfl,hcap,p8⟩:=h.open;have hb1:=heap_alloc_new w (.cells #[.slice a ss.length cap] 31);have hx1:Ext w (w.alloc (.cells #[.slice a ss.length cap] 31)):=by go_grown
 cases hg:iG (bd ss)with
 |true=>
  obtain⟨hh,ww,g⟩:=bO.nK.1 hg;go_enter Tryz.func32,Tryz.ntmps32
  go_upto_region 1 with fail
  generalize w.alloc (.cells #[.slice a ss.length cap] 31)=W at *;have c0:=cell_of_row W w.heap.size 0 _ _ _ hb1;go_upto_region 3 with(go_at_call 41;refine(jU _ ss _ (h.ext hx1) hl hs).mono ?_;rintro e w1 ⟨he,hx2⟩;rw[hg]at he;subst he;have c1:=(hx2.cell (lt_of_cell c0)).trans c0)
  have hE:=ax hx1 hx2;go_wp2_with (go_at_call 43;refine(sW _ ss hh ww w1 (h.ext hE) g).mono ?_;rintro e w2 ⟨so,rfl,hso,hx3⟩)
  go_ret2
  exact oJ.yes hg hso (ax hE hx3)
 |false=>
  go_enter Tryz.func32,Tryz.ntmps32
  go_upto_region 1 with fail
  generalize w.alloc (.cells #[.slice a ss.length cap] 31)=W at *;have c0:=cell_of_row W w.heap.size 0 _ _ _ hb1;go_wp2_with (go_at_call 41;refine(jU _ ss _ (h.ext hx1) hl hs).mono ?_;rintro e w1 ⟨he,hx2⟩;rw[hg]at he;subst he)
  go_ret2
  exact oJ.no hg (ax hx1 hx2)
def WT(sb:ByteArray)(w:World)(e:Ending)(w':World):Prop:=
 ∃a n c ok,e=.returned (.tuple #[.agg #[.slice a n c],.bool ok])/\(∀b hh ww,GB b hh ww->ll sb=fD b->ok=true/\∃ss,n=ss.length/\bd ss=b/\Strs w' (.slice a n c) ss)/\Ext w w'
theorem SC{sb:ByteArray}(g:GB b hh ww)(h:ll sb=fD b):sb.size<=72:=by
 have h8:=g.h1;have hl:=g.hgt;have:=rW (b:=b) λr hr=>by have:=(g.row r hr).1;have:=g.w1;omega
 rw[<-h,jA]at this;omega
theorem abq(g:GB b hh ww)(h:ll ⟨#[]⟩=fD b):False:=by
 have:=(qR (s:=⟨#[]⟩) g h).2;have e:bd (Lib.splitB ⟨#[47]⟩ 0 (Lib.countB ⟨#[]⟩ ⟨#[47]⟩) ⟨#[]⟩)=[[]]:=by decide
 rw[e]at this;have h1:=g.row [] (by rw[<-this];simp);have h2:=g.w1;have:=h1.1;simp at this;omega
set_option maxHeartbeats 4000000 in
theorem uY(sb:ByteArray)(m:Int)(w:World)(hb:sb=⟨#[]⟩\/∃b hh ww,GB b hh ww/\ll sb=fD b)(hm:w.cell? ⟨0,0,none⟩=some (.int .i64 m)):
 Calls prog 33 #[.string sb] w (WT sb w):=by
 have hsz:sb.size<=72:=by
  rcases hb with rfl|⟨b,hh,ww,g,e⟩
  .decide
  .exact SC g e
 have hq:¬((72:Int)<((sb.size:Nat):Int)):=by omega
 have hx1:Ext w (w.alloc (.cells #[.slice none 0 0] 31)):=by go_grown
 have hb1:=heap_alloc_new w (.cells #[.slice none 0 0] 31);have hm1:=(hx1.cell (lt_of_cell hm)).trans hm;have hz1:(w.alloc (.cells #[.slice none 0 0] 31)).heap.size=w.heap.size+1:=eQ _ _;obtain⟨parts,hparts⟩:∃parts,parts=Lib.splitB ⟨#[47]⟩ 0 (Lib.countB sb ⟨#[47]⟩) sb:=⟨_,rfl⟩;have Xi:=aQ hparts;have hpl:Lib.countB sb ⟨#[47]⟩+1=parts.length/\parts.length<=8/\(∀s,s∈parts->s.size<=1048576)/\((sb=⟨#[]⟩/\iG (bd parts)=false)\/∃hh ww,GB (bd parts) hh ww/\ll sb=fD (bd parts)):=by
  rcases hb with rfl|⟨b,hh,ww,g,e⟩
  .subst hparts
   exact⟨by decide,by decide,by decide,.inl ⟨rfl,by decide⟩⟩
  .obtain⟨h1,h2⟩:=qR g e
   rw[<-hparts]at h2;have h3:=congrArg List.length h2;rw[iy]at h3;have h4:=g.hgt;have h5:=g.h1;subst h2;exact⟨by omega,by omega,λs hs=>by
    obtain⟨i,hi,rfl⟩:=aW.1 hs;have:=og g hi;have:=g.w1;omega,.inr ⟨hh,ww,g,e⟩⟩
 have hst:=Jh (w.alloc (.cells #[.slice none 0 0] 31)) parts (by omega) hpl.1;have hx2:Ext (w.alloc (.cells #[.slice none 0 0] 31)) ((w.alloc (.cells #[.slice none 0 0] 31)).alloc (.cells (parts.map Value.string).toArray 9)):=by go_grown
 have hsplit:=Tryz.strings_Split sb ⟨#[47]⟩ m (w.alloc (.cells #[.slice none 0 0] 31)) (by omega) hm1 (by decide);rw[<-hparts,hz1]at hsplit;rw[hz1]at hst;have aeX:∀b hh ww,GB b hh ww->ll sb=fD b->bd parts=b:=λb hh ww g e=>by
  rw[Xi.out];exact(qR g e).2
 have alI:=aQ aeX;obtain⟨hp1,hp8,hps,hpg⟩:=hpl;have hb2:=(hx2.block _ (bu hb1)).trans hb1;have IM:=ax hx1 hx2;have hzz:=hx2.size;rw[hz1]at hzz;have hz2:((w.alloc (.cells #[.slice none 0 0] 31)).alloc (.cells (parts.map Value.string).toArray 9)).heap.size=w.heap.size+2:=by rw[eQ,eQ]
 generalize Lib.countB sb ⟨#[47]⟩+1=nc at *;subst hp1;obtain⟨W2,hW2⟩:∃W2,W2=(w.alloc (.cells #[.slice none 0 0] 31)).alloc (.cells (parts.map Value.string).toArray 9):=⟨_,rfl⟩;rw[<-hW2]at hx2 IM hst hb2 hz2 hzz hsplit;have hb3:=heap_alloc_new W2 (.cells #[.slice (some ⟨w.heap.size+1,0,none⟩) parts.length parts.length] 31);have hx3:Ext W2 (W2.alloc (.cells #[.slice (some ⟨w.heap.size+1,0,none⟩) parts.length parts.length] 31)):=by go_grown
 rw[hz2]at hb3;have hb4:=(hx3.block _ (bu hb2)).trans hb2;have aeT:=hst.ext hx3;have HB:=aQ hb;have HG:=aQ hpg;clear hparts aeX hb hm hm1 hx1 hx2 hz1 hb1 hb2 hW2 hst hpg Xi;go_enter Tryz.func33,Tryz.ntmps33
 go_upto_region 4 with(go_at_call 72;refine hsplit.mono ?_;rintro e w2 ⟨rfl,rfl⟩)
 clear hsplit;generalize w2.alloc (.cells #[.slice (some ⟨w.heap.size+1,0,none⟩) parts.length parts.length] 31)=W3 at *;have c3:=cell_of_row W3 (w.heap.size+2) 0 _ _ _ hb3;have hgd:=jU _ parts W3 aeT (by omega) hps;have ui:=ax IM hx3;rcases HG.out with⟨he0,hg⟩|⟨hh,ww,g,htx⟩
 .have HE0:=aQ he0
  clear he0;go_upto_region 5 with(go_at_call 41;refine hgd.mono ?_;rintro e w4 ⟨he,hx4⟩;rw[hg]at he;subst he)
  have hr1:=(hx4.block _ (bu hb4)).trans hb4;have d0:=cell_of_row w4 w.heap.size 0 _ _ _ hr1;have f0:=frozen_of_row w4 w.heap.size 0 _ _ hr1;have HE:=aQ (ax ui hx4);go_wp2
  have HW:=aQ (heap_setCell_same w4 w.heap.size 0 _ _ (.slice none 0 0) hr1);(try simp only[Exit.inBlock,Exit.then]);refine bodyPost_ret (dO rfl _ _ w.heap.size 31 #[.slice none 0 0] (0,0) _ rfl HW.out underlying31 rfl (by kernel_rfl) rfl) rfl ?_;exact⟨none,0,0,false,rfl,λb h1 w1 gb e=>absurd e (by rw[HE0.out];intro q;exact abq gb q),HE.out.setCell (p:=⟨w.heap.size,0,none⟩) (ay _) _⟩
 .have hg:iG (bd parts)=true:=bO.nK.2 ⟨hh,ww,g⟩
  have HTX:=aQ (And.intro g htx);clear g htx;go_upto_region 6 with(go_at_call 41;refine hgd.mono ?_;rintro e w4 ⟨he,hx4⟩;rw[hg]at he;subst he)
  have hr1:=(hx4.block _ (bu hb4)).trans hb4;have hr3:=(hx4.block _ (bu hb3)).trans hb3;have d0:=cell_of_row w4 w.heap.size 0 _ _ _ hr1;have f0:=frozen_of_row w4 w.heap.size 0 _ _ hr1;have e0:=cell_of_row w4 (w.heap.size+2) 0 _ _ _ hr3;simp only[gE]at e0;have HE:=aQ (ax ui hx4);have HST:=aQ (aeT.ext hx4);go_wp2
  have HW:=aQ (heap_setCell_same w4 w.heap.size 0 _ _ (.slice (some ⟨w.heap.size+1,0,none⟩) parts.length parts.length) hr1);(try simp only[Exit.inBlock,Exit.then]);refine bodyPost_ret (dO rfl _ _ w.heap.size 31 #[.slice (some ⟨w.heap.size+1,0,none⟩) parts.length parts.length] (0,0) _ rfl HW.out underlying31 rfl (by kernel_rfl) rfl) rfl ?_;refine⟨_,_,_,true,rfl,λb h1 w1 gb e=>⟨rfl,parts,rfl,alI.out b h1 w1 gb e,?_⟩,HE.out.setCell (p:=⟨w.heap.size,0,none⟩) (ay _) _⟩;exact lN.keep HST.out λq hl hq=>(dV (w:=w4) (p:=⟨w.heap.size,0,none⟩)).block q (lN.blk HST.out hl hq) (λe=>by simp[Value.ownBlock]at hq;have:q=w.heap.size:=e;omega)
end
section
open Go.RowKit
open bO (fw GB iG fD fr Cs)
def NT(b:fw)(w:World)(e:Ending)(w':World):Prop:=
 ∃v PL hh ww ks,e=.returned (.tuple #[v,.bool true])/\Rows uM 1 (λb=>b<w'.heap.size) w' v (PL.map (·.2))/\qP (fr b) (fr b) PL/\GB b hh ww/\jL (fr b) hh ww (λ_ _=>True) ks (PL.map (·.2))/\Ext w w'
set_option maxHeartbeats 2000000 in
theorem ED(v:Value)(ss:List ByteArray)(hh ww:Nat)(w:World)(h:Strs w v ss)(hl:ss.length<=1048576)(hs:∀s,s∈ss->s.size<=1048576)(g:GB (bd ss) hh ww):
 Calls prog 35 #[.agg #[v]] w (NT (bd ss) w):=by
 obtain⟨a,cap,rfl,hcap,p8⟩:=h.open;have hg:iG (bd ss)=true:=bO.nK.2 ⟨hh,ww,g⟩;have hb1:=heap_alloc_new w (.cells #[.slice a ss.length cap] 31);have hx1:Ext w (w.alloc (.cells #[.slice a ss.length cap] 31)):=by go_grown
 go_enter Tryz.func35,Tryz.ntmps35
 go_upto_region 1 with fail
 generalize w.alloc (.cells #[.slice a ss.length cap] 31)=W at *;have c0:=cell_of_row W w.heap.size 0 _ _ _ hb1;go_upto_region 3 with(go_at_call 30;refine(jG _ ss _ (h.ext hx1) hl hs).mono ?_;rintro e w1 ⟨he,hx2⟩;rw[hg]at he;subst he;have c1:=(hx2.cell (lt_of_cell c0)).trans c0)
 have hE:=ax hx1 hx2;go_wp2_with (go_at_call 74;refine(zC _ ss hh ww w1 (h.ext hE) g).mono ?_;rintro e w2 ⟨vP,PL,rfl,hR,hPT,-,⟨h2,w2',ks,hGB,hX⟩,hx3⟩)
 go_ret2
 exact⟨vP,PL,h2,w2',ks,rfl,(by
  obtain⟨xs,a,cap,rfl,q1,q2,q3,q4⟩:=hR;exact⟨xs,a,cap,rfl,q1,q2,q3.mono (λb hb=>hb.2) (λb hb=>hb),λh0=>by obtain⟨b,rfl,hb,hc⟩:=q4 h0;exact⟨b,rfl,hb.2,hc⟩⟩),hPT,hGB,hX,ax hE hx3⟩
end
section
open bO
theorem agJ{b:fw}{h w h' w':Nat}(g:GB b h w)(g':GB b h' w'):h=h'/\w=w':=by
 have:=g.hgt;have:=g'.hgt;have:=g.wid;have:=g'.wid;omega
section
variable {S:Cs} {PL:List (Cs × fw)} (h:qP S S PL)
include h in
theorem Qq(h9:cnt S<=9):PL.length<=9/\∀i (hi:i<PL.length),(∃hh ww,GB (PL[i]).2 hh ww)/\gX (PL[i]).2<=9:=by
 have key:∀i,i<=PL.length->i<=cnt (pI PL i):=λi=>by
  induction i with
  |zero=>intro _;omega
  |succ i ih=>
   intro hi;obtain⟨h1,h2⟩:=h.zV (i:=i) (by omega);have:=ih (by omega);omega
 refine⟨?_,λi hi=>⟨(h.ok _ (ai hi)).2.2.1,?_⟩⟩
 .have:=key _ (ay _)
  have:=h.CG PL.length;omega
 .obtain⟨h1,h2⟩:=h.zV hi
  have:=h.CG (i+1);omega
include h in
theorem Qp{Fs:List dH}(hl:Fs.length=PL.length)(hF:∀i (hi:i<Fs.length) (hi':i<PL.length),fO Fs[i] (gB (fr (PL[i]).2))):iO (uT Fs) (gB S):=by
 have key:∀i,i<=PL.length->iO (uT (Fs.take i)) (gB (pI PL i)):=λi=>by
  induction i with
  |zero=>
   intro _;rw[AP,Pk];exact iO.refl _
  |succ i ih=>
   intro hi;have hi1:i<PL.length:=(by omega);have hi2:i<Fs.length:=(by omega);rw[Bp hi2,xw hi1];have e:=(h.ok _ (ai hi1)).eqv.1;exact(Di (ih (by omega)) ((hF i hi2 hi1).eqv.trans e)).trans (KC _ (ay _) (h.bd i) (h.ok _ (ai hi1)).1 (h.apart hi1)).eqv.symm
 have:=key _ (ay _);have e:pI PL PL.length=S:=by unfold pI;rw[bU (ay _)];exact h.all
 rw[e,bU (by omega)]at this;exact this
end
theorem TL{S:Cs}{PL:List (Cs × fw)}{ys:List fw}(h:qP S S PL)(h9:cnt S<=9)(e:PL.map (·.2)=ys):ys.length<=9/\(∀i (hi:i<ys.length),(∃hh ww,GB ys[i] hh ww)/\gX ys[i]<=9)/\
 ∀Fs:List dH,Fs.length=ys.length->(∀i (hi:i<Fs.length) (hi':i<ys.length),fO Fs[i] (gB (fr ys[i])))->iO (uT Fs) (gB S):=by
 subst e;obtain⟨h1,h2⟩:=Qq h h9;refine⟨by rw[bD];exact h1,λi hi=>by rw[fT];exact h2 i (by rw[bD]at hi;exact hi),λFs hl hF=>Qp h (by rw[hl,bD]) λi hi hi'=>by
  have:=hF i hi (by rw[bD];exact hi');rw[fT]at this;exact this⟩
end
end Go.Proofs.YteknjeohbcgpdaaGreatDoor