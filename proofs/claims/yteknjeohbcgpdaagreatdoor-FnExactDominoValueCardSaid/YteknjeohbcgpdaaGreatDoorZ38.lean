/-
  Contract of the reference's l21Trim (of a board with a free cell). (2 texts.)
-/
import Derived.Test.YteknjeohbcgpdaaGreatDoorZ26
set_option maxRecDepth 100000
namespace Go.Proofs.YteknjeohbcgpdaaGreatDoor
open Tryz
section
open Go.RowKit
open Cgt (Brd GB bD Cs fr)
def mI (S:Cs) (hh ww:Nat) (D:Nat→Nat→Prop) (t b f o:Int):Prop :=
 (∀ r c,D r c→S r c=true→t≤(r:Int)∧(r:Int)≤b∧f≤(c:Int)∧(c:Int)≤o) ∧
 ((t=hh∧b=-1∧f=ww∧o=-1∧∀ r c,D r c→S r c=false)∨∃ r1 c1 r2 c2 r3 c3 r4 c4:Nat,S r1 c1=true∧t=r1∧S r2 c2=true∧b=r2∧S r3 c3=true∧f=c3∧S r4 c4=true∧o=c4)
theorem mI.skip {S:Cs} {hh ww:Nat} {D D':Nat→Nat→Prop} {t b f o:Int} (h:mI S hh ww D t b f o) (hD:∀ r c,D' r c→S r c=true→D r c):mI S hh ww D' t b f o:=by
 refine⟨fun r c d s=>h.1 r c (hD r c d s) s,?_⟩
 rcases h.2 with ⟨h1,h2,h3,h4,h5⟩ | h
 · refine .inl ⟨h1,h2,h3,h4,fun r c d=>?_⟩
   cases s:S r c with
   | false=>rfl
   | true=>rw[h5 r c (hD r c d s)] at s;cases s
 · exact .inr h
theorem mI.take {S:Cs} {hh ww:Nat} {D D':Nat→Nat→Prop} {t b f o:Int} {i k:Nat} (h:mI S hh ww D t b f o) (hi:i<hh) (hk:k<ww) (hs:S i k=true) (hD:∀ r c,D' r c→D r c∨(r=i∧c=k)) :
 mI S hh ww D' (if t<(i:Int) then t else (i:Int)) (max b (i:Int)) (if f<(k:Int) then f else (k:Int)) (max o (k:Int)):=by
 refine⟨fun r c d s=>?_,.inr ?_⟩
 · rcases hD r c d with d | ⟨rfl,rfl⟩
   · have:=h.1 r c d s
     refine⟨?_,by omega,?_,by omega⟩
     · split <;> omega
     · split <;> omega
   · refine⟨?_,by omega,?_,by omega⟩
     · split <;> omega
     · split <;> omega
 · rcases h.2 with ⟨h1,h2,h3,h4,-⟩ | ⟨r1,c1,r2,c2,r3,c3,r4,c4,s1,e1,s2,e2,s3,e3,s4,e4⟩
   · refine⟨i,k,i,k,i,k,i,k,hs,?_,hs,by omega,hs,?_,hs,by omega⟩
     · rw[if_neg (by omega)]
     · rw[if_neg (by omega)]
   · refine⟨if t<(i:Int) then r1 else i,if t<(i:Int) then c1 else k,if b<(i:Int) then i else r2,if b<(i:Int) then k else c2,if f<(k:Int) then r3 else i,if f<(k:Int) then c3 else k,if o<(k:Int) then i else r4,if o<(k:Int) then k else c4,?_,?_,?_,?_,?_,?_,?_,?_⟩
     · split <;> assumption
     · split <;> omega
     · split <;> assumption
     · split <;> omega
     · split <;> assumption
     · split <;> omega
     · split <;> assumption
     · split <;> omega
structure qJ (S:Cs) (t b f o:Nat):Prop where
 all:∀ r c,S r c=true→t≤r∧r≤b∧f≤c∧c≤o
 top:∃ c,S t c=true
 bot:∃ c,S b c=true
 from_:∃ r,S r f=true
 upto:∃ r,S r o=true
theorem qJ.unique {S:Cs} {t b f o t' b' f' o':Nat} (h:qJ S t b f o) (k:qJ S t' b' f' o'):t=t'∧b=b'∧f=f'∧o=o':=by
 obtain⟨c1,h1⟩:=h.top;obtain⟨c2,h2⟩:=h.bot;obtain⟨c3,h3⟩:=h.from_;obtain⟨c4,h4⟩:=h.upto
 obtain⟨d1,k1⟩:=k.top;obtain⟨d2,k2⟩:=k.bot;obtain⟨d3,k3⟩:=k.from_;obtain⟨d4,k4⟩:=k.upto
 have:=k.all _ _ h1;have:=k.all _ _ h2;have:=k.all _ _ h3;have:=k.all _ _ h4
 have:=h.all _ _ k1;have:=h.all _ _ k2;have:=h.all _ _ k3;have:=h.all _ _ k4
 omega
theorem mI.box {S:Cs} {hh ww:Nat} {t b f o:Int} (h:mI S hh ww (fun _ _=>True) t b f o) (hS:∃ r c,S r c=true):∃ tn bn fn on:Nat,t=tn∧b=bn∧f=fn∧o=on∧qJ S tn bn fn on:=by
 obtain⟨r,c,hs⟩:=hS
 rcases h.2 with ⟨_,_,_,_,h5⟩ | ⟨r1,c1,r2,c2,r3,c3,r4,c4,s1,rfl,s2,rfl,s3,rfl,s4,rfl⟩
 · rw[h5 r c trivial] at hs;cases hs
 · exact⟨r1,r2,c3,c4,rfl,rfl,rfl,rfl,fun r c s=>by have:=h.1 r c trivial s;omega,⟨_,s1⟩,⟨_,s2⟩,⟨_,s3⟩,⟨_,s4⟩⟩
def ni (b:Brd) (t bo f o:Nat):Brd:=((b.drop t).take (bo+1-t)).map fun r=>(r.drop f).take (o+1-f)
theorem OE (b:Brd) (t bo f o r c:Nat) (hr:r<bo+1-t) (hc:c<o+1-f):Cgt.at_ (ni b t bo f o) r c=Cgt.at_ b (r+t) (c+f):=by
 unfold Cgt.at_ ni
 rw[List.getD_eq_getElem?_getD (l:=List.map _ _),List.getElem?_map,List.getElem?_take,if_pos hr,List.getElem?_drop,List.getD_eq_getElem?_getD (l:=b),Nat.add_comm t r]
 cases b[r+t]? with
 | none=>simp
 | some x =>
   simp only[Option.map_some,Option.getD_some]
   rw[List.getD_eq_getElem?_getD,List.getD_eq_getElem?_getD,List.getElem?_take,if_pos hc,List.getElem?_drop,Nat.add_comm f c]
theorem OB {b:Brd} {t bo f o:Nat} (hB:qJ (fr b) t bo f o) (r c:Nat):fr (ni b t bo f o) r c=fr b (r+t) (c+f):=by
 by_cases h:r<bo+1-t∧c<o+1-f
 · unfold fr;rw[OE b t bo f o r c h.1 h.2]
 · have e1:fr b (r+t) (c+f)=false:=by
    cases s:fr b (r+t) (c+f) with
    | false=>rfl
    | true=>have:=hB.all _ _ s;omega
   have e2:fr (ni b t bo f o) r c=false:=by
    cases s:fr (ni b t bo f o) r c with
    | false=>rfl
    | true =>
      exfalso
      unfold fr Cgt.at_ ni at s
      rw[List.getD_eq_getElem?_getD (l:=List.map _ _),List.getElem?_map,List.getElem?_take] at s
      by_cases hr:r<bo+1-t
      · rw[if_pos hr] at s
        have hc:¬ c<o+1-f:=fun k=>h ⟨hr,k⟩
        cases hx:(b.drop t)[r]? with
        | none=>rw[hx] at s;simp at s
        | some x =>
          rw[hx] at s
          simp only[Option.map_some,Option.getD_some] at s
          rw[List.getD_eq_getElem?_getD,List.getElem?_take,if_neg hc] at s
          exact absurd s (by decide)
      · rw[if_neg hr] at s;simp at s
   rw[e1,e2]
theorem zI {b:Brd} {hh ww t bo f o:Nat} (g:GB b hh ww) (hB:qJ (fr b) t bo f o):GB (ni b t bo f o) (bo+1-t) (o+1-f)∧t≤bo∧bo<hh∧f≤o∧o<ww:=by
 obtain⟨c1,h1⟩:=hB.top;obtain⟨c2,h2⟩:=hB.bot;obtain⟨c3,h3⟩:=hB.from_;obtain⟨c4,h4⟩:=hB.upto
 have:=hB.all _ _ h1;have:=hB.all _ _ h2;have:=hB.all _ _ h3;have:=hB.all _ _ h4
 have:=g.in_ h2;have:=g.in_ h4
 have g1:=g.h1
 have g2:=g.w1
 refine⟨⟨?_,by omega,by omega,fun r hr=>?_⟩,by omega,by omega,by omega,by omega⟩
 · unfold ni;rw[List.length_map,List.length_take,List.length_drop,g.hgt];omega
 · unfold ni at hr
   obtain⟨x,hx,rfl⟩:=List.mem_map.1 hr
   have hm:=g.row x (List.mem_of_mem_drop (List.mem_of_mem_take hx))
   refine⟨by rw[List.length_take,List.length_drop,hm.1];omega,fun c hc=>hm.2 c (List.mem_of_mem_drop (List.mem_of_mem_take hc))⟩
theorem Ep (s:ByteArray) (i j:Nat):bdr (s.extract i j)=((bdr s).drop i).take (j-i):=by
 unfold bdr
 rw[ByteArray.data_extract,Array.toList_extract]
theorem JP {b:Brd} {t f o k:Nat} (hk:t+k<b.length):((b.drop t).take (k+1)).map (fun r:List UInt8=>(r.drop f).take (o+1-f))=((b.drop t).take k).map (fun r:List UInt8=>(r.drop f).take (o+1-f))++[(b[t+k].drop f).take (o+1-f)]:=by
 rw[List.take_succ_eq_append_getElem (by rw[List.length_drop];omega),List.map_append,List.getElem_drop];rfl
end
section
open Go.RowKit
open Cgt (Brd GB bD Cs fr)
def IJ:List Row:=[⟨0,[],15,[3]⟩,⟨1,[0],16,[14]⟩,⟨2,[],17,[3]⟩,⟨3,[2],18,[16]⟩,⟨4,[3],19,[17]⟩,⟨5,[4],20,[18]⟩,⟨6,[1,0,1],5,[15]⟩,⟨7,[6,0,1,6],6,[]⟩,⟨8,[5,7,0,1,2,3,4,5,6,7],7,[19]⟩,⟨9,[8,0,1,2,3,4,5,6,7,8],8,[]⟩]
def Fv:List Row:=[⟨0,[],66,[10]⟩,⟨1,[0],67,[65]⟩,⟨2,[],68,[1]⟩,⟨3,[2],69,[67]⟩,⟨4,[],70,[11]⟩,⟨5,[3,4],71,[68,69]⟩,⟨6,[5],72,[70]⟩,⟨7,[],73,[6]⟩,⟨8,[],74,[7]⟩,⟨9,[8],75,[73]⟩,⟨10,[6,7,9],76,[71,72,74]⟩,⟨11,[10],77,[75]⟩,⟨12,[1,11],78,[66,76]⟩,⟨13,[0,1,2,3,4,5,6,7,8,9,10,11,12],79,[10]⟩,⟨14,[13,12,12,0,1,2,3,4,5,6,7,8,9,10,11,12],0,[78,77]⟩]
def MV (b:Brd) (w:World) (e:Ending) (w':World):Prop :=
 ∃ v' ss' t bo f o,e=.returned (.agg #[v'])∧w'.ownsRow w.heap.size 9 1 v' ss'.length (ss'.map Value.string)∧qJ (fr b) t bo f o∧bd ss'=ni b t bo f o∧Ext w w'
set_option maxHeartbeats 4000000 in
theorem D7 (v:Value) (ss:List ByteArray) (hh ww:Nat) (w:World) (h:Strs w v ss) (g:GB (bd ss) hh ww) (hfree:∃ r c,fr (bd ss) r c=true) :
 Calls prog 126 #[.agg #[v]] w (MV (bd ss) w):=by
 obtain⟨a,cap,rfl,hcap,hml⟩:=h.open
 obtain⟨i0,hi0,hz0,hz1,hz2⟩:=info_parts pK
 have h8:=g.h1
 have w8:=g.w1
 have hbb:((w.alloc (.cells #[.slice a ss.length cap] 31)).alloc (.cells #[.slice none 0 0] 31)).heap[w.heap.size]?=some (.cells #[.slice a ss.length cap] 31 (0,0)):=by
  rw[Below.heap_alloc _ _ _ (by simp)];exact heap_alloc_new _ _
 have hrr:((w.alloc (.cells #[.slice a ss.length cap] 31)).alloc (.cells #[.slice none 0 0] 31)).heap[w.heap.size+1]?=some (.cells #[.slice none 0 0] 31 (0,0)):=by
  have h:=heap_alloc_new (w.alloc (.cells #[.slice a ss.length cap] 31)) (.cells #[.slice none 0 0] 31);rw[sA_] at h;exact h
 have hx0:Ext w ((w.alloc (.cells #[.slice a ss.length cap] 31)).alloc (.cells #[.slice none 0 0] 31)):=by go_grown
 have hzb:((w.alloc (.cells #[.slice a ss.length cap] 31)).alloc (.cells #[.slice none 0 0] 31)).heap.size=w.heap.size+2:=by rw[sA_,sA_]
 have hcell:∀ W,Ext w W→Calls prog 75 #[.agg #[.slice a ss.length cap]] W fun e w'=>∃ v' sl,e=.returned v'∧Gr w' W.heap.size v' sl (cK ss)∧Ext W w':=fun W hW=>l7 _ ss hh ww W (h.ext hW) g
 have HG:=Hd_ g
 have HSZ:=Hd_ (jA g)
 have HF:=Hd_ hfree
 have hnn:=(jA g).hgt
 have HLN:=Hd_ (mD g)
 clear g hfree hml
 go_enter Tryz.func126,Tryz.ntmps126
 go_upto_region 2 with (go_at_call 75;refine(hcell _ hx0).mono ?_;rintro e w1 ⟨vc,sl,rfl,hG,hx1⟩;obtain⟨gc,cc,rfl,-,-⟩:=hG.len)
 have HX0:=Hd_ hx0
 have HE1:=Hd_ (aa hx0 hx1)
 have HB1:=Hd_ ((hx1.block _ (ah hbb)).trans hbb)
 have HR1:=Hd_ ((hx1.block _ (ah hrr)).trans hrr)
 have HZ1:Hid (w.heap.size+2≤w1.heap.size):=Hd_ (by have:=hx1.size;omega)
 rw[hzb] at hG
 rw[hnn] at hG
 have HGR:=Hd_ hG
 clear hbb hrr hx0 hx1 hcell hzb hnn
 obtain⟨gt,ct,a0,c0,et,-,htop⟩:=hG.rowAt HSZ.out (show 0<hh by omega)
 simp only[Value.slice.injEq,true_and] at et
 obtain⟨rfl,rfl⟩:=et
 clear hG
 have h0:0<hh:=by omega
 refine bz (fun W=>W.cell? ⟨gt,0,none⟩=some (.slice a0 ww c0)) [] IJ (by kernel_rfl) ⟨by kernel_rfl,by kernel_rfl,by kernel_rfl⟩ htop (fun ae hHeld=>?_)
 ((refine tkB ae (i:=0) hHeld ?_);(try simp only[nP]);(refine tkB ae (i:=1) hHeld ?_);(try simp only[nP]);(refine tkB ae (i:=2) hHeld ?_);(try simp only[nP]);(refine tkB ae (i:=3) hHeld ?_);(try simp only[nP]);(refine tkB ae (i:=4) hHeld ?_);(try simp only[nP]);(refine tkB ae (i:=5) hHeld ?_);(try simp only[nP]);(refine tkB ae (i:=6) hHeld ?_);(try simp only[nP]);(refine tkB ae (i:=7) hHeld ?_);(try simp only[nP]);(refine tkB ae (i:=8) hHeld ?_);(try simp only[nP]);(refine tkB ae (i:=9) hHeld ?_);(try simp only[nP]))
 refine tlB ae [] [] ?_ (hm:=rfl)
 go_wp2
 clear htop ae hHeld h0
 go_loopw [4,5,6,7,8,9] (fun tv bv fv ov ii _ wr=>∃ (i:Nat) (t b f o:Int),ii=.int .i64 ((i:Nat):Int)∧i≤hh∧tv=.int .i64 t∧bv=.int .i64 b∧fv=.int .i64 f∧ov=.int .i64 o∧Ext w1 wr∧Hid (mI (gcs (cK ss)) hh ww (fun r _=>r<i) t b f o)) (fun _ _ _ _ ii _ _=>hh-(intOf ii).toNat)
 case atStart=>exact⟨0,_,_,_,_,rfl,Nat.zero_le _,rfl,rfl,rfl,rfl,(by exact⟨rfl,rfl,rfl,Nat.le_refl _,fun _ _=>rfl⟩),Hd_ ⟨fun r c d=>absurd d (by omega),.inl ⟨rfl,rfl,rfl,rfl,fun r c d=>absurd d (by omega)⟩⟩⟩
 case round =>
  obtain⟨i,t,b,f,o,rfl,hi,rfl,rfl,rfl,rfl,hx,HBX⟩:=hrel
  have hGr:=HGR.out.ext hx
  by_cases hlt:i<hh
  · have hil:((i:Nat):Int)<((hh:Nat):Int):=by omega
    have HLT:=Hd_ hlt
    obtain⟨gt',ct',ar,cr,et,er,hct⟩:=hGr.rowAt HSZ.out hlt
    simp only[Value.slice.injEq,true_and,Option.some.injEq,Addr.mk.injEq,and_true] at et
    obtain⟨rfl,rfl⟩:=et
    have HX:=Hd_ hx
    clear er hlt hGr hx
    go_wp2
    obtain⟨wo,hwo⟩:∃ wo,wo=wr:=⟨_,rfl⟩
    rw[← hwo] at HX ⊢
    clear hct hwo
    go_loopw [4,5,6,7,9] (fun tv bv fv ov kk wr=>∃ (k:Nat) (t b f o:Int),kk=.int .i64 ((k:Nat):Int)∧k≤ww∧tv=.int .i64 t∧bv=.int .i64 b∧fv=.int .i64 f∧ov=.int .i64 o∧Ext w1 wr∧Hid (mI (gcs (cK ss)) hh ww (fun r c=>r<i∨(r=i∧c<k)) t b f o)) (fun _ _ _ _ kk _=>ww-(intOf kk).toNat)
    case atStart=>exact⟨0,t,b,f,o,rfl,Nat.zero_le _,rfl,rfl,rfl,rfl,HX.out,Hd_ (HBX.out.skip fun r c d _=>by omega)⟩
    case round =>
     obtain⟨k,t,b,f,o,rfl,hk,rfl,rfl,rfl,rfl,hx,HBX⟩:=hrel
     have hGr:=HGR.out.ext hx
     by_cases hkl:k<ww
     · have hkl':((k:Nat):Int)<((ww:Nat):Int):=by omega
       have HKL:=Hd_ hkl
       obtain⟨gt2,ct2,g2,c2,et2,eg2,htop,hbit,hfz⟩:=hGr.at2 HSZ.out HLT.out hkl
       simp only[Value.slice.injEq,true_and,Option.some.injEq,Addr.mk.injEq,and_true] at et2
       obtain⟨rfl,rfl⟩:=et2
       have HX:=Hd_ hx
       clear eg2 hkl hfz hGr hx
       cases hg0:gat (cK ss) i k with
       | false =>
         rw[hg0] at hbit
         have HN:=Hd_ (HBX.out.skip (D':=fun r c=>r<i∨(r=i∧c<k+1)) fun r c d s=>by
          by_cases e:r=i∧c=k
          · obtain⟨rfl,rfl⟩:=e;unfold gcs at s;rw[hg0] at s;cases s
          · omega)
         clear hg0
         go_wp2
         go_roundw
         case rel=>exact⟨k+1,t,b,f,o,by go_num,HKL.out,rfl,rfl,rfl,rfl,HX.out,HN⟩
         case measure=>have:=HKL.out;simp[intOf];omega
       | true =>
         rw[hg0] at hbit
         have HN:=Hd_ (HBX.out.take (D':=fun r c=>r<i∨(r=i∧c<k+1)) HLT.out HKL.out hg0 fun r c d=>by omega)
         clear hg0
         go_wp2_with (first
          | (go_at_call 159;refine(Ea _ _ _).mono ?_;rintro e wz ⟨rfl,rfl⟩)
          | (go_at_call 158;refine(l9 _ _ _).mono ?_;rintro e wz ⟨rfl,nz,rfl⟩))
         go_roundw
         case rel=>exact⟨k+1,_,_,_,_,by go_num,HKL.out,rfl,rfl,rfl,rfl,aa HX.out (by exact⟨rfl,rfl,rfl,Nat.le_refl _,fun _ _=>rfl⟩),HN⟩
         case measure=>have:=HKL.out;simp[intOf];omega
     · have hkl':¬ (((k:Nat):Int)<((ww:Nat):Int)):=by omega
       have hke:k=ww:=by omega
       have HKE:=Hd_ hke
       obtain⟨gt2,ct2,ar2,cr2,et2,er2,hct⟩:=hGr.rowAt HSZ.out HLT.out
       simp only[Value.slice.injEq,true_and,Option.some.injEq,Addr.mk.injEq,and_true] at et2
       obtain⟨rfl,rfl⟩:=et2
       have HX:=Hd_ hx
       clear hke hkl er2 hGr hx
       go_wp2
       go_roundw
       case rel=>exact⟨i+1,t,b,f,o,by go_num,HLT.out,rfl,rfl,rfl,rfl,HX.out,Hd_ (HBX.out.skip fun r c d s=>by
        have:=mE HSZ.out s
        have:=HKE.out
        by_cases e:r=i
        · exact .inr ⟨e,by omega⟩
        · exact .inl (by omega))⟩
       case measure=>have:=HLT.out;simp[intOf];omega
  · have hil:¬ (((i:Nat):Int)<((hh:Nat):Int)):=by omega
    have hie:i=hh:=by omega
    obtain⟨tn,bn,fn,on,rfl,rfl,rfl,rfl,dI⟩:=mI.box (HBX.out.skip (D':=fun _ _=>True) fun r c _ s=>by have:=(mE HSZ.out s).1;omega) (by rw[yL];exact HF.out)
    rw[yL] at dI
    obtain⟨hgb,hb1,hb2,hb3,hb4⟩:=zI HG.out dI
    have qb:=Hd_ dI
    have hneg:¬ (((bn:Nat):Int)<0):=by omega
    clear hie hlt hgb dI hGr
    have hq3:=heap_alloc_new wr (.cells #[.slice none 0 0] 31)
    have hx3:=aM (Below.refl wr.heap.size wr) (.cells #[.slice none 0 0] 31)
    have HE3:=Hd_ (aa HE1.out hx)
    have hbx:=(hx.block _ (ah HB1.out)).trans HB1.out
    have hrx:=(hx.block _ (ah HR1.out)).trans HR1.out
    have Ni:=Hd_ hbx
    have HRX:=Hd_ hrx
    have hzr:=hx.size
    have UJ:=HZ1.out
    clear hx hbx hrx
    go_upto_region 18 with fail
    obtain⟨wq,hwq⟩:∃ wq,wq=wr:=⟨_,rfl⟩
    rw[← hwq] at HE3 Ni HRX hq3 hx3 hzr ⊢
    clear hwq
    generalize wq.alloc (.cells #[.slice none 0 0] 31)=W3 at *
    go_loopw [11] (fun ii wr=>∃ (m:Nat) (ov:Value) (sb:List ByteArray),ii=.int .i64 ((m:Nat):Int)∧(tn≤m∧m≤bn+1)∧wr.heap[wq.heap.size]?=some (.cells #[ov] 31 (0,0))∧wr.ownsRow (wq.heap.size+1) 9 1 ov sb.length (sb.map Value.string)∧Ext wq wr∧Hid (bd sb=((((bd ss).drop tn).take (m-tn)).map fun r:List UInt8=>(r.drop fn).take (on+1-fn)))) (fun ii _=>bn+1-(intOf ii).toNat)
    case atStart=>exact⟨tn,_,[],rfl,⟨Nat.le_refl _,by omega⟩,hq3,⟨by simp,.inl ⟨rfl,rfl⟩⟩,hx3,Hd_ (by simp[bd])⟩
    case round =>
     clear hq3 hx3
     obtain⟨m,ov,sb,rfl,⟨hj0,hj⟩,hbo,ho,hx,HSB⟩:=hrel
     have hlen:sb.length=m-tn:=by
      have h2:=congrArg List.length HSB.out
      rw[dS,List.length_map,List.length_take,List.length_drop,dS] at h2
      have:=HLN.out;omega
     have hpq:=ah HRX.out
     have hpb:=ah Ni.out
     have hbx:=(hx.block _ hpb).trans Ni.out
     have hrx:=(hx.block _ hpq).trans HRX.out
     have cO:=cell_of_row wr wq.heap.size 0 _ _ _ hbo
     have cB:=cell_of_row wr w.heap.size 0 _ _ _ hbx
     simp only[gE] at cO cB
     have hEr:=aa HE3.out hx
     by_cases hlt:m≤bn
     · have h1:((m:Nat):Int)≤((bn:Nat):Int):=by omega
       have hli:m<ss.length:=by have:=HLN.out;omega
       obtain⟨b,off,rfl,hc⟩:=(h.ext hEr).at hli
       have cS:=hc _ hli
       have hsz:=og HG.out hli
       have HTK:=Hd_ (JP (f:=fn) (o:=on) (b:=bd ss) (t:=tn) (k:=m-tn) (by rw[dS];omega))
       simp only[show tn+(m-tn)=m by omega,show m-tn+1=m+1-tn by omega] at HTK
       rw[kZ hli] at HTK
       obtain⟨si,esi⟩:∃ si:ByteArray,ss[m]=si:=⟨_,rfl⟩
       rw[esi] at cS hsz HTK
       have HLT:=Hd_ hlt
       have HLEN:=Hd_ hlen
       have HX:=Hd_ hx
       obtain⟨ao,co,rfl,-,-⟩:=az ho
       have hn8:sb.length≤8:=by omega
       have hzx:=hx.size
       have hba:=fun (w5:World) (v5:Value) (n:Nat) (ys:List Value) (X:Obj) (wz:World) (hb':wz.heap[wq.heap.size]?=some (.cells #[.slice ao sb.length co] 31 (0,0))) (h1:w5.ownsRow (wq.heap.size+1) 9 1 v5 n ys) (h2:(wz.alloc X).grownBy w5 (Value.slice ao sb.length co).ownBlock)=>E8 hb' (fun b hb=>by have:=(ho.lt b hb).1;omega) (by omega) h1 h2
       have hfo:((fn:Nat):Int)≤((on:Nat):Int)+1:=by omega
       have hos:((on:Nat):Int)+1≤((si.size:Nat):Int):=by omega
       have hwo:IntKind.i64.wrap (((on:Nat):Int)+1)=((on:Nat):Int)+1:=by rw[IntKind.wrap_i64];omega
       have hsl:=fun W:World=>run_slice_string (P:=prog) (w:=W) 9 si .i64 .i64 ((fn:Nat):Int) (((on:Nat):Int)+1) underlying9 (by omega) (by omega) (by omega)
       have HRR:=Hd_ hrx
       clear hc hEr esi hlt hlen hx hbx hrx hzr
       go_upto_region 20 with fail
       refine bz (fun W=>W.cell? ⟨wq.heap.size,0,none⟩=some (.slice ao sb.length co)∧W.cell? ⟨w.heap.size,0,none⟩=some (.slice (some ⟨b,off,none⟩) ss.length cap)∧W.cell? ⟨b,off+m,none⟩=some (.string si)) [12,13,14] Fv (by kernel_rfl) ⟨by kernel_rfl,by kernel_rfl,by kernel_rfl⟩ ⟨cO,cB,cS⟩ (fun ae hHeld=>?_)
       ((refine tkB ae (i:=0) hHeld ?_);(try simp only[nP]);(refine tkB ae (i:=1) hHeld ?_);(try simp only[nP]);(refine tkB ae (i:=2) hHeld ?_);(try simp only[nP]);(refine tkB ae (i:=3) hHeld ?_);(try simp only[nP]);(refine tkB ae (i:=4) hHeld ?_);(try simp only[nP]);(refine tkB ae (i:=5) hHeld ?_);(try simp only[nP]);(refine tkB ae (i:=6) hHeld ?_);(try simp only[nP]);(refine tkB ae (i:=7) hHeld ?_);(try simp only[nP]);(refine tkB ae (i:=8) hHeld ?_);(try simp only[nP]);(refine tkB ae (i:=9) hHeld ?_);(try simp only[nP]);(refine tkB ae (i:=10) hHeld ?_);(try simp only[nP]))
       (refine stB ae (i:=11) fun K hK=>?_;go_simp)
       have hxd:Ext wr wr.drew:=⟨rfl,rfl,rfl,Nat.le_refl _,fun _ _=>rfl⟩
       have Qg:wr.drew.heap[wq.heap.size]?=some (.cells #[.slice ao sb.length co] 31 (0,0)):=hbo
       have ho':=aJ ho hxd
       obtain⟨z1,z2,z3⟩:=hHeld
       (refine hK.out _ _ (fun _=>?_) ?_)
       · exact⟨bU z1 _,bU z2 _,bU z3 _⟩
       clear hK K
       (try simp only[nP])
       refine stB ae (i:=12) fun K hK=>?_
       refine bO rfl (.tmp 66) (.tmp 76) 22 rfl (wq.heap.size+1) 9 i0 (.string ⟨#[]⟩) 1 16 underlying22 hi0 hz0 hz1 hz2 rfl (by decide) (.slice ao sb.length co) sb.length _ rfl (by exact ho'.alloc (.cells #[.string (si.extract fn (on+1))] 9)) _ 1 _ [.string (si.extract fn (on+1))] rfl rfl (.inr ⟨_,rfl,bq (by exact aO wr.drew _ _)⟩) BV (by unfold maxLen;omega) (by omega) (by show _≤(wr.alloc _).heap.size;rw[sA_];omega) ?_
       intro v6 w6 ho6 hg6 hl6
       obtain⟨x6,y6,rfl,-,-⟩:=az ho6
       obtain⟨q1,q2,q3,q4,q5⟩:=hba w6 _ _ _ _ wr.drew Qg ho6 hg6
       (refine hK.out _ _ (fun _=>?_) ?_)
       · rename_i hT;exact absurd hT (by decide)
       clear hK K
       (try simp only[nP])
       refine tlB ae [13,14] [_,_] ?_
       have HHO:=Hd_ ho
       clear hba ae z1 z2 z3 cO cB cS ho ho' ho6 hg6 hl6 hbo Qg
       go_wp2
       go_roundw
       case rel =>
        refine⟨m+1,_,sb++[si.extract fn (on+1)],by go_num,⟨by omega,by have:=HLT.out;omega⟩,q1,by rw[List.length_append,List.map_append];exact q2,iD (aa HX.out hxd) q5 (fun x hx=>?_),Hd_ ?_⟩
        · rcases hx with hx | hx
          · omega
          · have:=(HHO.out.lt _ hx).1;omega
        · rw[HTK.out,← HSB.out]
          unfold bd
          rw[List.map_append]
          congr 1
          simp only[List.map_cons,List.map_nil,Ep]
       case measure=>have:=HLT.out;simp[intOf];omega
     · have h1:¬ (((m:Nat):Int)≤((bn:Nat):Int)):=by omega
       obtain⟨ao,co,rfl,-,-⟩:=az ho
       have r0:=cell_of_row wr (w.heap.size+1) 0 _ _ _ hrx
       have hr1:=frozen_of_row wr (w.heap.size+1) 0 _ _ hrx
       simp only[gE] at r0
       have HH:=Hd_ (heap_setCell_same wr (w.heap.size+1) 0 _ _ (.slice ao sb.length co) hrx)
       have hks:=Hd_ (bJ (w:=wr) (p:=⟨w.heap.size+1,0,none⟩) (v:=.slice ao sb.length co))
       have hme:m=bn+1:=by omega
       have HME:=Hd_ hme
       have HO:=Hd_ ho
       have HER:=Hd_ hEr
       clear hme hlt hlen ho hx hEr hbx
       go_wp2
       (try simp only[Exit.inBlock,Exit.then])
       refine bodyPost_ret (results_cell_row rfl _ _ (w.heap.size+1) 31 #[.slice ao sb.length co] (0,0) _ rfl HH.out underlying31 rfl (by kernel_rfl)) rfl ?_
       refine⟨_,sb,tn,bn,fn,on,rfl,ic (aI HO.out hks.out (fun b hb q=>?_)) (by omega),qb.out,?_,HER.out.setCell (p:=⟨w.heap.size+1,0,none⟩) (by show w.heap.size≤w.heap.size+1;omega) _⟩
       · have:=(HO.out.lt b hb).1;have q':b=w.heap.size+1:=q;omega
       · rw[HSB.out,HME.out];rfl
end
end Go.Proofs.YteknjeohbcgpdaaGreatDoor