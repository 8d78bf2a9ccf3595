/-
  Contract of the program's CanonOf, at a valid form: the canonical form of its game. (10 texts.)
-/
import Derived.Test.YteknjeohbcgpdaaGreatDoorK28
import Derived.Test.YteknjeohbcgpdaaGreatDoorK31
import Derived.Test.YteknjeohbcgpdaaGreatDoorK35
import Derived.Test.YteknjeohbcgpdaaGreatDoorK42
import Derived.Test.YteknjeohbcgpdaaGreatDoorK47
set_option maxRecDepth 100000
namespace Go.Proofs.YteknjeohbcgpdaaGreatDoor
open Tryz
section
open Go.RowKit
open bO (fw GB iG fr)
def NQ(b b':fw):Prop:=(∃t bo f o,yf (fr b) t bo f o/\b'=oz b t bo f o)\/((∀r c,fr b r c=false)/\b'=bO.alo)
def Rp(b:fw)(w:World)(e:Ending)(w':World):Prop:=
 ∃v' ss',e=.returned (.agg #[v'])/\NQ b (bd ss')/\w'.ownsRow w.heap.size 9 1 v' ss'.length (ss'.map Value.string)/\Ext w w'
theorem Uh(a b:Int):min a b=if a<b then a else b:=by split <;> omega
def Qb:List Row:=[⟨0,[],61,[9]⟩,⟨1,[0],62,[60]⟩,⟨2,[],63,[11]⟩,⟨3,[],64,[5]⟩,⟨4,[],65,[6]⟩,⟨5,[4],66,[64]⟩,⟨6,[2,3,5],67,[62,63,65]⟩,⟨7,[6],68,[66]⟩,⟨8,[1,7],69,[61,67]⟩,⟨9,[0,1,2,3,4,5,6,7,8],70,[9]⟩,⟨10,[9,8,8,0,1,2,3,4,5,6,7,8],0,[69,68]⟩]
set_option maxHeartbeats 4000000 in
theorem Jd(v:Value)(ss:List ByteArray)(hh ww:Nat)(w:World)(h:Strs w v ss)(g:GB (bd ss) hh ww):
 Calls prog 66 #[.agg #[v]] w (Rp (bd ss) w):=by
 obtain⟨i0,hi0,hz0,hz1,hz2⟩:=info_parts pX;obtain⟨a,cap,rfl,hcap,p8⟩:=h.open;have hb1:((w.alloc (.cells #[.slice a ss.length cap] 31)).alloc (.cells #[.slice none 0 0] 31)).heap[w.heap.size]?=some (.cells #[.slice a ss.length cap] 31 (0,0)):=by
  rw[Below.heap_alloc _ _ _ (by simp)];exact heap_alloc_new _ _
 have hb2:((w.alloc (.cells #[.slice a ss.length cap] 31)).alloc (.cells #[.slice none 0 0] 31)).heap[w.heap.size+1]?=some (.cells #[.slice none 0 0] 31 (0,0)):=by
  have h:=heap_alloc_new (w.alloc (.cells #[.slice a ss.length cap] 31)) (.cells #[.slice none 0 0] 31);rw[eQ]at h;exact h
 have hx2:Ext w ((w.alloc (.cells #[.slice a ss.length cap] 31)).alloc (.cells #[.slice none 0 0] 31)):=by go_grown
 have hh8:=g.h1;have hw8:=g.w1;have hlen:ss.length=hh:=oh g;have HG:=aQ g;have HLEN:=aQ hlen;have HL8:Hid (ss.length<=8):=aQ (by omega);have uB:Hid (∀s,s∈ss->s.size=ww):=aQ λs hs=>by
  obtain⟨i,hi,rfl⟩:=aW.1 hs;exact og g hi
 have Xr:Hid (∀i (hi:i<ss.length) k (hk:k<(ss[i]).size),((ss[i])[k]).toNat<128):=aQ λi hi k hk=>by
  refine A9 g (r:=ll ss[i]) (aH.2 ⟨ss[i],ai hi,rfl⟩) ?_;exact Array.getElem_mem_toList ..
 have hfr:∀W,Ext w W->∀r c:Int,(-100<=r/\r<=100)->(-100<=c/\c<=100)->Calls prog 109 #[.agg #[.slice a ss.length cap],.int .i64 r,.int .i64 c] W λe w'=>e=.returned (.bool (Hd (bd ss) r c))/\Ext W w':=λW hW r c hr hc=>zO _ ss hh ww r c W (h.ext hW) g hr hc
 clear hlen g;go_enter Tryz.func66,Tryz.ntmps66
 go_upto_region 1 with fail
 generalize (w.alloc (.cells #[.slice a ss.length cap] 31)).alloc (.cells #[.slice none 0 0] 31)=We at *;have c0:=cell_of_row We w.heap.size 0 _ _ _ hb1;simp only[gE]at c0;go_wp2
 have HB1:=aQ hb1;have HB2:=aQ hb2;have Ey:=aQ hx2;clear c0 hb1 hb2 hx2;go_loopw [3,4,5,6,7,8,15] (λtv bv fv ov _ _ ii wr=>∃(i:Nat) (t b f o:Int),ii=.int .i64 ((i:Nat):Int)/\i<=ss.length/\tv=.int .i64 t/\bv=.int .i64 b/\fv=.int .i64 f/\ov=.int .i64 o/\Ext We wr/\Hid (qH (fr (bd ss)) 8 8 (λr _=>r<i) t b f o)) (λ_ _ _ _ _ _ ii _=>ss.length-(intOf ii).toNat)
 case atStart=>exact⟨0,_,_,_,_,rfl,aJ _,rfl,rfl,rfl,rfl,Below.refl _ _,aQ ⟨λr c d=>absurd d (by omega),.inl ⟨rfl,rfl,rfl,rfl,λr c d=>absurd d (by omega)⟩⟩⟩
 case round=>
  obtain⟨i,t,bo,f,o,rfl,hi,rfl,rfl,rfl,rfl,hx,yh⟩:=hrel;by_cases hlt:i<ss.length
  .have hil:((i:Nat):Int)<((ss.length:Nat):Int):=by omega
   have fJ:=aQ hlt;obtain⟨b,off,rfl,hcl⟩:=(h.ext (ax Ey.out hx)).at hlt;have ci:=hcl i hlt;have cb:=cell_of_row wr w.heap.size 0 _ _ _ ((hx.block _ (bu HB1.out)).trans HB1.out);simp only[gE]at cb;have hsi:=uB.out _ (ai fJ.out);obtain⟨si,rU⟩:∃si:ByteArray,ss[i]'(fJ.out)=si:=⟨_,rfl⟩;have HAS:Hid (∀k (hk:k<si.size),(si[k]).toNat<128):=aQ (by subst rU;exact Xr.out i fJ.out);rw[rU]at ci hsi;have Xf:=aQ hsi;have aeW:si.size<=8:=(by omega);have HX:=aQ hx;have QS:We.heap.size<=wr.heap.size:=hx.size;clear hlt hcl rU hsi hx;go_upto_region 6 with fail
   have hxi:Ext We (wr.iter si 0):=ax HX.out (bS (Below.refl _ _) _);have hit:=World.iter_heap wr si 0;clear cb ci HX;generalize wr.iter si 0=W0 at *;generalize wr.heap.size=kI at *;go_loopw [3,4,5,6,8] (λtv bv fv ov _ w3=>∃(k:Nat) (t b f o:Int),k<=si.size/\tv=.int .i64 t/\bv=.int .i64 b/\fv=.int .i64 f/\ov=.int .i64 o/\Ext We w3/\w3.heap[kI]?=some (.stringIter si k)/\Hid (qH (fr (bd ss)) 8 8 (λr c=>r<i\/(r=i/\c<k)) t b f o)) (λ_ _ _ _ _ w3=>si.size-w3.iterPos kI)
   case atStart=>exact⟨0,t,bo,f,o,aJ _,rfl,rfl,rfl,rfl,hxi,hit,aQ (yh.out.skip λr c d _=>by omega)⟩
   case round=>
    clear hxi hit yh;obtain⟨k,t,bo,f,o,hk,rfl,rfl,rfl,rfl,hx,hit,yh⟩:=hrel;have ET:=aQ (iterPos_of hit);by_cases hkl:k<si.size
    .have jl:=aQ hkl
     obtain⟨rn,hnx⟩:∃rn:Int,∀ty,(Instr.next (.pointer (some ⟨kI,0,none⟩)) true ty).run prog wr=.ok (.tuple #[.bool true,.int .i64 ((k:Nat):Int),.int .i32 rn]) (wr.iterAt kI si (k+1)):=⟨_,λty=>Lib.run_next_ascii_at (P:=prog) wr kI si k ty hit hkl (HAS.out k hkl)⟩;have hx2:=Lib.below_iterAt hx QS si (k+1);have hit2:=Lib.iterAt_heap wr kI si k (k+1) hit;clear hx hit;go_upto_region 8 with fail
     clear hnx hkl;generalize wr.iterAt kI si (k+1)=W1 at *;have cb:=cell_of_row W1 w.heap.size 0 _ _ _ ((hx2.block _ (bu HB1.out)).trans HB1.out);simp only[gE]at cb;have hE1:=ax Ey.out hx2;have hi8:=HL8.out;have HIT:=aQ hit2;have HX:=aQ hx2;clear hit2 hx2;cases hf0:fr (bd ss) i k with
     |false=>
      have HN:=aQ (yh.out.skip (D':=λr c=>r<i\/(r=i/\c<k+1)) λr c d s=>by
       by_cases e:r=i/\c=k
       .obtain⟨rfl,rfl⟩:=e;rw[hf0]at s;cases s
       .omega)
      go_wp2_with (go_at_call 109;refine(hfr _ hE1 _ _ (by omega) (by omega)).mono ?_;rintro e w2 ⟨he,hx2⟩;rw[mE,hf0]at he;subst he)
      go_roundw
      case rel=>exact⟨k+1,t,bo,f,o,jl.out,rfl,rfl,rfl,rfl,ax HX.out hx2,(hx2.block _ (mQ HIT.out)).trans HIT.out,HN⟩
      case measure=>have:=iterPos_of ((hx2.block _ (mQ HIT.out)).trans HIT.out);have:=ET.out;have:=jl.out;omega
     |true=>
      have hn:=yh.out.take (D':=λr c=>r<i\/(r=i/\c<k+1)) (show i<8 by have:=fJ.out;omega) (show k<8 by have:=jl.out;omega) hf0 λr c d=>by omega
      rw[<-Uh,<-Uh]at hn;have HN:=aQ hn;clear hn;go_upto_region 9 with(go_at_call 109;refine(hfr _ hE1 _ _ (by omega) (by omega)).mono ?_;rintro e w2 ⟨he,hx2⟩;rw[mE,hf0]at he;subst he)
      clear cb hE1 hf0;go_wp2
      exact⟨⟨k+1,_,_,_,_,jl.out,rfl,rfl,rfl,rfl,ax HX.out hx2,(hx2.block _ (mQ HIT.out)).trans HIT.out,HN⟩,by have:=iterPos_of ((hx2.block _ (mQ HIT.out)).trans HIT.out);have:=ET.out;have:=jl.out;omega⟩
    .have hnx:=λty=>Lib.run_next_end_at (P:=prog) wr kI si k ty hit hkl
     have Xq:Hid (qH (fr (bd ss)) 8 8 (λr _=>r<i+1) t bo f o):=aQ (yh.out.skip λr c d s=>by
      have:=(HG.out.Az s).2;have:=Xf.out;by_cases e:r=i
      .exact .inr ⟨e,by omega⟩
      .exact .inl (by omega))
     clear yh hkl;go_wp2
     go_roundw
     case rel=>exact⟨i+1,t,bo,f,o,by go_num,fJ.out,rfl,rfl,rfl,rfl,hx,Xq⟩
     case measure=>have:=fJ.out;simp[intOf];omega
  .have hil:¬(((i:Nat):Int)<((ss.length:Nat):Int)):=by omega
   have hbx:=yh.out.skip (D':=λ_ _=>True) λr c _ s=>by have:=(HG.out.Az s).1;have:=HLEN.out;omega
   have cb:=cell_of_row wr w.heap.size 0 _ _ _ ((hx.block _ (bu HB1.out)).trans HB1.out);have hr1:=(hx.block _ (bu HB2.out)).trans HB2.out;simp only[gE]at cb;have HX:=aQ hx;clear yh hlt;by_cases hF:∃r c,fr (bd ss) r c=true
   .obtain⟨tn,bn,fn,on,rfl,rfl,rfl,rfl,jF⟩:=qH.box hbx hF
    obtain⟨hgb,hb1,hb2,hb3,hb4⟩:=zT HG.out jF;have h0:0<ss.length:=(by have:=HLEN.out;omega);obtain⟨b,off,rfl,hcl⟩:=(h.ext (ax Ey.out hx)).at h0;have hneg:¬(((bn:Nat):Int)<0):=(by omega);have hq0:(0:Int)<=((tn:Nat):Int):=(by omega);have hq1:((tn:Nat):Int)<=((bn:Nat):Int)+1:=(by omega);have hq2:((bn:Nat):Int)+1<=((cap:Nat):Int):=(by have:=HLEN.out;omega);have Bf:=aQ (And.intro jF hcl);have HLL:=aQ HLEN.out;have hM0:XA w (wr.alloc (.cells #[.slice none 0 0] 31)) wr.heap.size (.slice (some ⟨b,off,none⟩) ss.length cap) (.slice none 0 0) []:=by
     have h1:=(hx.block _ (bu HB1.out)).trans HB1.out;exact⟨by rw[Below.heap_alloc _ _ _ (bu h1)];exact h1,by rw[Below.heap_alloc _ _ _ (bu hr1)];exact hr1,heap_alloc_new _ _,⟨by simp,.inl ⟨rfl,rfl⟩⟩,bu hr1,ax (ax Ey.out hx) (bS (Below.refl _ _) _)⟩
    clear hbx hF jF hgb hcl hx HLEN hr1;go_upto_region 14 with fail
    generalize wr.alloc (.cells #[.slice none 0 0] 31)=Wq at *;generalize wr.heap.size=po at *;clear cb;have cb:=cell_of_row Wq w.heap.size 0 _ _ _ hM0.b0;simp only[gE]at cb;go_upto_region 15 with fail
    obtain⟨nn,hnn⟩:∃nn,nn=bn+1-tn:=⟨_,rfl⟩;rw[<-hnn];have hn1:1<=nn/\nn<=8/\tn+nn=bn+1/\tn+nn<=ss.length:=(by have:=HLL.out;omega);have HN1:=aQ (And.intro hn1 hnn);have hn8:nn<=8:=hn1.2.1;clear cb hnn hn1 hneg hq0 hq1 hq2;go_loopw [11,56] (λ_ ii wr=>∃(q:Nat) (ov:Value) (out:List ByteArray),ii=.int .i64 ((q:Nat):Int)/\q<=nn/\XA w wr po (.slice (some ⟨b,off,none⟩) ss.length cap) ov out/\Hid (out.length=q/\bd out=(((bd ss).drop tn).take q).map λr=>(r.drop fn).take (on+1-fn))) (λ_ ii _=>nn-(intOf ii).toNat)
    case atStart=>exact⟨0,_,[],by go_num,aJ _,hM0,aQ ⟨rfl,rfl⟩⟩
    case round=>
     clear hM0;obtain⟨q,ov,out,rfl,hq,hM,xN⟩:=hrel;by_cases hqn:q<nn
     .have hqi:((q:Nat):Int)<((nn:Nat):Int):=by omega
      have oH:tn+q<ss.length:=(by have:=HN1.out.1;omega);obtain⟨b',off',e',hcl⟩:=(h.ext hM.ext).at h0;simp only[bN,Addr.mk.injEq,and_true]at e';obtain⟨rfl,rfl⟩:=e';have ci:=hcl (tn+q) oH;rw[<-Nat.add_assoc]at ci;have hsi:=uB.out _ (ai oH);have HQL:=aQ (And.intro oH hqn);obtain⟨si,rU⟩:∃si:ByteArray,si=ss[tn+q]'(HQL.out.1):=⟨_,rfl⟩;rw[<-rU]at ci hsi;have hs1:((fn:Nat):Int)<=((on:Nat):Int)+1:=(by omega);have hs2:((on:Nat):Int)+1<=((si.size:Nat):Int):=(by omega);have hs0:(0:Int)<=((fn:Nat):Int):=(by omega);have hs3:(0:Int)<=((on:Nat):Int)+1:=(by omega);have hwi:IntKind.i64.wrap (((on:Nat):Int)+1)=((on:Nat):Int)+1:=(Go.IntWalk.i64_left _).trans (by unfold wrap64;omega);have htn:(((on:Nat):Int)+1).toNat=on+1:=(by omega);have EU:=aQ rU;obtain⟨ao,co,rfl,Y3,Y2⟩:=bH hM.own;have k0:=cell_of_row wr po 0 _ _ _ hM.b2;simp only[gE]at k0;have hq8:out.length<=8:=(by have:=xN.out.1;omega);have yJ:=hM.own;have EL:=bu hM.b2;have HM:=aQ hM;clear hM hcl rU hsi oH hqn;go_upto_region 17 with fail
      refine bV (λV=>V.cell? ⟨po,0,none⟩=some (.slice ao out.length co)) [8,9,10] Qb (by kernel_rfl) ⟨by kernel_rfl,by kernel_rfl,by kernel_rfl⟩ k0 (λaz ah=>?_);(refine bT 0 az ah ?_;refine bT 1 az ah ?_;refine bT 2 az ah ?_;refine bT 3 az ah ?_;refine bT 4 az ah ?_;refine bT 5 az ah ?_;refine bT 6 az ah ?_);(refine nM az (i:=7) λK hK=>?_;go_simp);(refine hK.out _ _ (λ_=>?_) ?_)
      .exact bK k0 _
      clear hK K;(try simp only[nP]);refine nU az [8,9,10] [_,_,_] ?_;clear az ah;go_wp2_with (at_builtin;refine dC rfl (.tmp 61) (.tmp 67) 22 rfl (po+1) 9 i0 (.string ⟨#[]⟩) 1 16 underlying22 hi0 hz0 hz1 hz2 rfl (by decide) (.slice ao out.length co) out.length (out.map Value.string) rfl (own_drewN (yJ.alloc _) 1) _ 1 _ [.string (si.extract fn (on+1))] rfl rfl (.inr ⟨_,rfl,dJ (dh _ _ _)⟩) (by intro u hu;simp at hu;subst hu;rfl) (by unfold maxLen;omega) (by omega) (by show _<=(World.alloc _ _).heap.size;rw[eQ];omega) ?_;intro v5 w5 iT hg5 hl5;obtain⟨a5,c5,rfl,-⟩:=bH iT;obtain⟨BJ,g5,f5⟩:=HM.out.put iT ((jO _ 1 _).trans hg5);have IE:=aQ BJ;clear BJ)
      go_roundw
      case rel=>
       refine⟨q+1,_,out++[si.extract fn (on+1)],by go_num,HQL.out.2,IE.out,aQ ⟨by simp[xN.out.1],?_⟩⟩;have hb:tn+q<(bd ss).length:=(by rw[iy];exact HQL.out.1);rw[Gc hb,<-xN.out.2,PD,BS,EU.out];simp[bd]
      case measure=>have:=HQL.out.2;simp[intOf];omega
     .have hqi:¬(((q:Nat):Int)<((nn:Nat):Int)):=by omega
      have hqe:q=nn:=(by omega);obtain⟨ao,co,rfl,Y3,Y2⟩:=bH hM.own;have k0:=cell_of_row wr po 0 _ _ _ hM.b2;have k1:=cell_of_row wr (w.heap.size+1) 0 _ _ _ hM.b1;have k2:=frozen_of_row wr (w.heap.size+1) 0 _ _ hM.b1;simp only[gE]at k0 k1;have HM:=aQ hM;have hr1:=hM.b1;have HQE:=aQ hqe;clear hM hqe;go_wp2
      have HH:=aQ (heap_setCell_same wr (w.heap.size+1) 0 _ _ (.slice ao out.length co) hr1);(try simp only[Exit.inBlock,Exit.then]);refine bodyPost_ret (results_cell_row rfl _ _ (w.heap.size+1) 31 #[.slice ao out.length co] (0,0) _ rfl HH.out underlying31 rfl (by kernel_rfl)) rfl ?_;have hpz:=HM.out.pz;refine⟨_,out,rfl,.inl ⟨tn,bn,fn,on,Bf.out.1,?_⟩,jV (bI HM.out.own (dV (p:=⟨w.heap.size+1,0,none⟩)) (λb hb e=>by have:=(HM.out.own.lt b hb).1;have e':b=w.heap.size+1:=e;omega)) (by omega),HM.out.ext.setCell (p:=⟨w.heap.size+1,0,none⟩) (by show w.heap.size<=w.heap.size+1;omega) _⟩;rw[xN.out.2,HQE.out,HN1.out.2];rfl
   .have hno:bo=-1:=by
     rcases hbx.2 with⟨_,e,_⟩|⟨r1,c1,_,_,_,_,_,_,s1,_⟩
     .exact e
     .exact absurd ⟨r1,c1,s1⟩ hF
    subst hno;clear hbx;have hr2:(wr.alloc (.cells #[.string ⟨#[35]⟩] 9)).heap[w.heap.size+1]?=some (.cells #[.slice none 0 0] 31 (0,0)):=(by rw[Below.heap_alloc _ _ _ (bu hr1)];exact hr1);have k1:=cell_of_row (wr.alloc (.cells #[.string ⟨#[35]⟩] 9)) (w.heap.size+1) 0 _ _ _ hr2;have k2:=frozen_of_row (wr.alloc (.cells #[.string ⟨#[35]⟩] 9)) (w.heap.size+1) 0 _ _ hr2;have hlt:=bu hr1
    have HW:Hid ((wr.alloc (.cells #[.string ⟨#[35]⟩] 9)).ownsRow w.heap.size 9 1 (.slice (some ⟨wr.heap.size,0,none⟩) 1 1) [(⟨#[35]⟩:ByteArray)].length ([(⟨#[35]⟩:ByteArray)].map Value.string)):=
     aQ ⟨by simp,.inr ⟨wr.heap.size,1,#[.string ⟨#[35]⟩],rfl,by omega,heap_alloc_new wr _,ay _,by decide,rfl,by simp⟩⟩
    have HE:=aQ (ax (ax Ey.out hx) (bS (Below.refl _ _) (.cells #[.string ⟨#[35]⟩] 9)));have fJ:=aQ hlt;clear hlt;go_wp2
    have HH:=aQ (heap_setCell_same (wr.alloc (.cells #[.string ⟨#[35]⟩] 9)) (w.heap.size+1) 0 _ _ (.slice (some ⟨wr.heap.size,0,none⟩) 1 1) hr2);(try simp only[Exit.inBlock,Exit.then]);refine bodyPost_ret (results_cell_row rfl _ _ (w.heap.size+1) 31 #[.slice (some ⟨wr.heap.size,0,none⟩) 1 1] (0,0) _ rfl HH.out underlying31 rfl (by kernel_rfl)) rfl ?_;refine⟨_,[⟨#[35]⟩],rfl,.inr ⟨λr c=>?_,by decide⟩,bI HW.out (dV (p:=⟨w.heap.size+1,0,none⟩)) (λb hb e=>?_),HE.out.setCell (p:=⟨w.heap.size+1,0,none⟩) (by show w.heap.size<=w.heap.size+1;omega) _⟩
    .cases e:fr (bd ss) r c with
     |false=>rfl
     |true=>exact absurd ⟨r,c,e⟩ hF
    .have e':b=w.heap.size+1:=e
     have hb':wr.heap.size=b:=(by simpa [Value.ownBlock]using hb);have:=fJ.out;omega
end
section
open Go.RowKit
open bO (dH Nd Gm vl Same ng)
theorem jX.yQ{pp h:Nat}{s:iH}{w wr wa w2:World}{lv rv:Value}{L R:List Nat}{T:Nat->Prop}{A:World->Prop}(m:jX pp h s w wr lv rv L R)(a:nN T A wr)(hT:∀b,T b->s.S b)(hx:Ext wr wa)(hg:wa.grownBy w2 lv.ownBlock):nN T A w2:=
 (a.keep (fq (F:=λ_=>False) hx) (λ_ _=>id)).keep (fH hg) (λb hb hc=>(m.wh b (.inl hc)).2.2 (hT b hb))
end
section
open Go.RowKit
open bO (dH Nd Gm vl Same dZ)
def Ru(pp h:Nat)(s:iH)(F:dH)(w0 w:World)(e:Ending)(w':World):Prop:=
 ∃s' j,e=.returned (.int .i64 ((j:Nat):Int))/\j<s'.D.length/\Same (vl s'.D j) (dZ F)/\jK pp h s w s' w'/\s'.D.length<=s.D.length+F.length/\Ext w0 w'/\(∀b,jN pp h s' b->w0.heap.size<=b)
set_option maxHeartbeats 4000000 in
theorem Aj(pp h:Nat)(s:iH)(vf:Value)(F:dH)(w0 w:World)(hf:fu w0 0 vf F)(hF:bO.WF F)(hne:0<F.length)(hA:∀x,x∈F->x.1.length<=1000000/\x.2.length<=1000000)(hx:Ext w0 w)(hP:dz w pp h s)(hb0:∀b,jN pp h s b->w0.heap.size<=b)(IU:s.D.length+F.length<=900000):
 Calls prog 71 #[.pointer (some ⟨pp,0,none⟩),.agg #[vf]] w (Ru pp h s F w0 w):=by
 obtain⟨aF,iF,rfl,hcap,p8,-⟩:=id hf;have hx1:Ext w (w.alloc (.cells #[.slice aF F.length iF] 28)):=by go_grown
 have hbx:=cell_of_row (w.alloc (.cells #[.slice aF F.length iF] 28)) w.heap.size 0 _ _ _ (heap_alloc_new w _);go_enter Tryz.func71,Tryz.ntmps71
 go_upto_region 1 with fail
 have HC:=aQ (λV (hV:Ext w V)=>Uk pp h s (.slice aF F.length iF) F w0 V hf hF hA (ax hx hV) (hP.ext hV) hb0 IU);have vS:∀{s' w1 w2},Ext w w1->jK pp h s w1 s' w2->jK pp h s w s' w2:=λhV g=>(jK.refl hP hV).trans g
 have HG:=aQ (And.intro hne hx1);simp only[gE]at hbx;clear hf hA hx hb0 IU hP hne;generalize w.alloc (.cells #[.slice aF F.length iF] 28)=W at *;go_upto_region 2 with(go_at_call 120;refine(HC.out _ (by first|exact HG.out.2|exact ax HG.out.2 (eU ⟨1,rfl⟩))).mono ?_;rintro e w2 ⟨s2,v2,L,rfl,ho2,ib,hL2,hd2,hE2,hb2⟩)
 have hln:=hL2.len;obtain⟨g,cap,rfl,hc1,hc2,hc3⟩:=gV ho2 (by have:=HG.out.1;omega);have hlt:F.length-1<L.length:=by have:=HG.out.1;omega
 have hcl:=hc3 (L.length-1) (by omega);have hcz:((dD L).map (Value.int .i64))[L.length-1]?=some (.int .i64 ((L[F.length-1]:Nat):Int)):=by
  have e:L.length-1=F.length-1:=by omega
  rw[e,dm,dD,dm,aa hlt];rfl
 rw[hcz]at hcl;have hat:=aQ (hL2.at_ _ hlt);have HE:=aQ (And.intro hd2 (And.intro hE2 hb2));obtain⟨n,hn⟩:∃n,L.length=n+1:=⟨L.length-1,by omega⟩;rw[hn,qj]at hcl;rw[hn]at hc1 ⊢;clear hcz hc3 ho2 hd2 hE2 hb2 hL2 hln;have hi:((n:Nat):Int)<(((n+1:Nat)):Int):=by omega
 have hwk:wrap64 ((n:Nat):Int)=((n:Nat):Int):=by unfold maxLen at hc2;unfold wrap64;omega
 go_wp2
 go_ret
 exact⟨s2,_,rfl,hat.out.1,hat.out.2,vS (by first|exact HG.out.2|exact ax HG.out.2 (eU ⟨1,rfl⟩)) ib,HE.out.1,HE.out.2.1,HE.out.2.2⟩
end
section
open Go.RowKit
open bO (dH Nd Gm vl fC dZ Same ng)
def Dh:iH:=⟨.slice none 0 0,.slice none 0 0,.slice none 0 0,[],λ_=>False,λ_=>none⟩
theorem JC{pp h b:Nat}(hb:jN pp h Dh b):b=pp\/(h<=b/\b<h+1+1+1):=by
 rcases hb with h|h|h|h|h
 .exact .inl h
 .exact .inr h
 .simp[Dh,Value.ownBlock]at h
 .simp[Dh,Value.ownBlock]at h
 .simp[Dh,Value.ownBlock]at h
end
section
open bO
variable {b:fw} {F:dH} {ok:Bool}
theorem Jv{h w:Nat}(r:ES b F ok)(g:GB b h w)(h9:gX b<=9):ok=true/\fO F (gB (fr b))/\iQ F=true:=by
 rcases r with⟨_,_,G,hG,hk,hF⟩|⟨hn,_,_⟩
 .have hf:=NH g.bd (by rw[AR g];exact h9) hG
  rw[hf]at hk;subst hk;simp only[if_true]at hF;subst hF;exact⟨rfl,hG,hf⟩
 .rcases hn with e|e
  .rw[nK.2 ⟨h,w,g⟩]at e;cases e
  .exact absurd h9 e
theorem GI(r:ES b F ok)(hn:iG b=false\/¬gX b<=9):ok=false/\F=[]:=by
 rcases r with⟨h1,h2,_⟩|⟨_,h2,h3⟩
 .rcases hn with e|e
  .rw[h1]at e;cases e
  .exact absurd h2 e
 .exact⟨h2,h3⟩
section
variable {b:fw} {h w:Nat} (g:GB b h w) (h9:gX b<=9)
end
end
section
open Go.RowKit
def abv:List Row:=[⟨0,[],18,[0]⟩,⟨1,[],19,[5]⟩,⟨2,[0,1],20,[17,18]⟩,⟨3,[2],21,[19]⟩,⟨4,[],22,[1]⟩,⟨5,[],23,[5]⟩,⟨6,[4,5],24,[21,22]⟩,⟨7,[6],25,[23]⟩,⟨8,[3,7],26,[20,24]⟩]
set_option maxHeartbeats 400000 in
theorem Bu(v u:Value)(ss:List ByteArray)(w:World)(hv:Strs w v ss)(hu:Strs w u ss)(hl:ss.length<=1000000):Calls prog 24 #[v,u] w λe w'=>e=.returned (.bool true)/\Ext w w':=by
 obtain⟨a,cap,rfl,hcap,p8⟩:=hv.open;obtain⟨a2,cap2,rfl,hcap2,ajH⟩:=hu.open;go_enter Tryz.func24,Tryz.ntmps24
 go_wp2
 go_loopw [5] (λii wr=>∃k:Nat,k<=ss.length/\ii=.int .i64 ((k:Nat):Int)/\Ext w wr) (λii _=>ss.length-(intOf ii).toNat)
 case atStart=>exact⟨0,aJ _,by go_num,Below.refl _ _⟩
 case round=>
  obtain⟨k,hk,rfl,hx⟩:=hrel;by_cases hlt:k<ss.length
  .have h1:((k:Nat):Int)<((ss.length:Nat):Int):=by omega
   obtain⟨b,off,rfl,hcl⟩:=(hv.ext hx).at hlt;obtain⟨b2,abC,rfl,QV⟩:=(hu.ext hx).at hlt;have c1:=hcl k hlt;have c2:=QV k hlt;generalize ss[k]'hlt=sk at c1 c2;clear hcl QV hv hu;go_upto_region 6 with fail
   refine bV (λV=>V.cell? ⟨b,off+k,none⟩=some (.string sk)/\V.cell? ⟨b2,abC+k,none⟩=some (.string sk)) [] abv (by kernel_rfl) ⟨by kernel_rfl,by kernel_rfl,by kernel_rfl⟩ ⟨c1,c2⟩ (λaz ah=>?_);(refine bT 0 az ah ?_;refine bT 1 az ah ?_;refine bT 2 az ah ?_;refine bT 3 az ah ?_;refine bT 4 az ah ?_;refine bT 5 az ah ?_;refine bT 6 az ah ?_;refine bT 7 az ah ?_;refine bT 8 az ah ?_);refine nU az [] [] ?_ (hm:=rfl);clear az ah;go_wp2
   go_roundw
   case rel=>exact⟨k+1,by omega,by go_num,ax hx (eU ⟨1,rfl⟩)⟩
   case measure=>simp[intOf];omega
  .have h1:¬(((k:Nat):Int)<((ss.length:Nat):Int)):=by omega
   go_wp2
   go_ret
   exact⟨rfl,hx⟩
end
section
open Go.RowKit
open bO (dH Nd)
theorem Jz(a:Option Addr)(n cap:Nat)(w:World):Calls prog 16 #[.slice a n cap] w λe w'=>e=.returned (.bool (decide ((65536:Int)<((n:Nat):Int))))/\Ext w w':=by
 go_enter Tryz.func16,Tryz.ntmps16
 go_wp2
 go_ret
 exact⟨rfl,Below.refl _ _⟩
def abx:List Row:=[⟨0,[],18,[0]⟩,⟨1,[],19,[5]⟩,⟨2,[0,1],20,[17,18]⟩,⟨3,[2],21,[19]⟩,⟨4,[],22,[1]⟩,⟨5,[],23,[5]⟩,⟨6,[4,5],24,[21,22]⟩,⟨7,[6],25,[23]⟩,⟨8,[3,7],26,[20,24]⟩]
set_option maxHeartbeats 400000 in
theorem De(v u:Value)(l:List Int)(w:World)(hv:Ints w v l)(hu:Ints w u l)(hl:l.length<=1000000):Calls prog 59 #[v,u] w λe w'=>e=.returned (.bool true)/\Ext w w':=by
 obtain⟨a,cap,rfl,hcap,p8,-⟩:=id hv;obtain⟨a2,cap2,rfl,hcap2,ajH,-⟩:=id hu;go_enter Tryz.func59,Tryz.ntmps59
 go_wp2
 go_loopw [5] (λii wr=>∃k:Nat,k<=l.length/\ii=.int .i64 ((k:Nat):Int)/\Ext w wr) (λii _=>l.length-(intOf ii).toNat)
 case atStart=>exact⟨0,aJ _,by go_num,Below.refl _ _⟩
 case round=>
  obtain⟨k,hk,rfl,hx⟩:=hrel;by_cases hlt:k<l.length
  .have h1:((k:Nat):Int)<((l.length:Nat):Int):=by omega
   obtain⟨a',c',e',-,-,hc⟩:=hv.ext hx;obtain⟨b,off,ea,hcl⟩:=hc (by omega);obtain⟨a2',c2',e2',-,-,hc2⟩:=hu.ext hx;obtain⟨b2,abC,ea2,QV⟩:=hc2 (by omega);simp only[Value.slice.injEq]at e' e2';obtain⟨rfl,-,rfl⟩:=e';obtain⟨rfl,-,rfl⟩:=e2';subst ea;subst ea2;have c1:=hcl k hlt;have c2:=QV k hlt;generalize jo l k=sk at c1 c2;clear hcl QV hv hu hc hc2;go_upto_region 6 with fail
   refine bV (λV=>V.cell? ⟨b,off+k,none⟩=some (.int .i64 sk)/\V.cell? ⟨b2,abC+k,none⟩=some (.int .i64 sk)) [] abx (by kernel_rfl) ⟨by kernel_rfl,by kernel_rfl,by kernel_rfl⟩ ⟨c1,c2⟩ (λaz ah=>?_);(refine bT 0 az ah ?_;refine bT 1 az ah ?_;refine bT 2 az ah ?_;refine bT 3 az ah ?_;refine bT 4 az ah ?_;refine bT 5 az ah ?_;refine bT 6 az ah ?_;refine bT 7 az ah ?_;refine bT 8 az ah ?_);refine nU az [] [] ?_ (hm:=rfl);clear az ah;go_wp2
   go_roundw
   case rel=>exact⟨k+1,by omega,by go_num,ax hx (eU ⟨1,rfl⟩)⟩
   case measure=>simp[intOf];omega
  .have h1:¬(((k:Nat):Int)<((l.length:Nat):Int)):=by omega
   go_wp2
   go_ret
   exact⟨rfl,hx⟩
def aby:List Row:=[⟨0,[],21,[2]⟩,⟨1,[0],22,[20]⟩,⟨2,[],23,[5]⟩,⟨3,[1,2],24,[21,22]⟩,⟨4,[3],25,[23]⟩,⟨5,[4],26,[24]⟩,⟨6,[],27,[3]⟩,⟨7,[6],28,[26]⟩,⟨8,[],29,[5]⟩,⟨9,[7,8],30,[27,28]⟩,⟨10,[9],31,[29]⟩,⟨11,[10],32,[30]⟩,⟨12,[5,11],33,[25,31]⟩,⟨13,[12],34,[32]⟩,⟨14,[13,12],35,[33]⟩,⟨15,[14],36,[2,34]⟩,⟨16,[15,14],37,[35,34]⟩,⟨17,[14],38,[5,34]⟩,⟨18,[16,17,14],39,[36,37,34]⟩,⟨19,[18,14],40,[38,34]⟩,⟨20,[19,14],41,[39,34]⟩,⟨21,[14],42,[3,34]⟩,⟨22,[21,14],43,[41,34]⟩,⟨23,[14],44,[5,34]⟩,⟨24,[22,23,14],45,[42,43,34]⟩,⟨25,[24,14],46,[44,34]⟩,⟨26,[25,14],47,[45,34]⟩,⟨27,[20,26,14,14],48,[40,46,34]⟩,⟨28,[27,14],49,[47,34]⟩,⟨29,[14,28],50,[34,48]⟩]
set_option maxHeartbeats 1000000 in
theorem yw(v u:Value)(F:dH)(w:World)(h:fu w 0 v F)(k:fu w 0 u F)(IU:F.length<=1000000)(hl:∀i (hi:i<F.length),(F[i]).1.length<=1000000/\(F[i]).2.length<=1000000):Calls prog 22 #[.agg #[v],.agg #[u]] w λe w'=>e=.returned (.bool true)/\Ext w w':=by
 obtain⟨a,cap,rfl,hc1,hm1,-⟩:=id h;obtain⟨a2,cap2,rfl,hc2,hm2,-⟩:=id k;have hx2:Ext w ((w.alloc (.cells #[.slice a F.length cap] 28)).alloc (.cells #[.slice a2 F.length cap2] 28)):=by go_grown
 have b0:((w.alloc (.cells #[.slice a F.length cap] 28)).alloc (.cells #[.slice a2 F.length cap2] 28)).heap[w.heap.size]?=some (.cells #[.slice a F.length cap] 28 (0,0)):=by
  rw[Below.heap_alloc _ _ _ (by simp)];exact heap_alloc_new _ _
 have b1:((w.alloc (.cells #[.slice a F.length cap] 28)).alloc (.cells #[.slice a2 F.length cap2] 28)).heap[w.heap.size+1]?=some (.cells #[.slice a2 F.length cap2] 28 (0,0)):=by
  have h:=heap_alloc_new (w.alloc (.cells #[.slice a F.length cap] 28)) (.cells #[.slice a2 F.length cap2] 28);rw[eQ]at h;exact h
 have HL:=aQ hl;clear hl;go_enter Tryz.func22,Tryz.ntmps22
 go_upto_region 1 with fail
 generalize (w.alloc (.cells #[.slice a F.length cap] 28)).alloc (.cells #[.slice a2 F.length cap2] 28)=W at *;have c0:=cell_of_row W w.heap.size 0 _ _ _ b0;have c1:=cell_of_row W (w.heap.size+1) 0 _ _ _ b1;simp only[gE]at c0 c1;go_upto_region 4 with fail
 clear c0 c1;go_loopw [5] (λii wr=>∃i,i<=F.length/\ii=.int .i64 ((i:Nat):Int)/\Ext W wr) (λii _=>F.length-(intOf ii).toNat)
 case atStart=>exact⟨0,aJ _,rfl,Below.refl _ _⟩
 case round=>
  obtain⟨i,hi,rfl,hE⟩:=hrel;have c0:=cell_of_row wr w.heap.size 0 _ _ _ ((hE.block _ (bu b0)).trans b0);have c1:=cell_of_row wr (w.heap.size+1) 0 _ _ _ ((hE.block _ (bu b1)).trans b1);simp only[gE]at c0 c1;have VF:=ax hx2 hE;by_cases hlt:i<F.length
  .have h1:((i:Nat):Int)<(F.length:Int):=by omega
   obtain⟨b1',d1,aL,cL,aR,cR,he1,-,l1,r1,iL,iR⟩:=(h.ext VF).at hlt;obtain⟨b2',d2,LF,LD,NP,ND,he2,-,l2,r2,iL2,iR2⟩:=(k.ext VF).at hlt;simp only[Value.slice.injEq]at he1 he2;obtain⟨rfl,-,rfl⟩:=he1;obtain⟨rfl,-,rfl⟩:=he2
   have pF:∀V:World,Ext wr V->(V.cell? ⟨w.heap.size,0,none⟩=some (.slice (some ⟨b1',0,none⟩) F.length cap)/\V.cell? ⟨w.heap.size+1,0,none⟩=some (.slice (some ⟨b2',0,none⟩) F.length cap2))/\V.cell? ⟨b1',i*2,none⟩=some (.slice aL (F[i]).1.length cL)/\V.cell? ⟨b1',i*2+1,none⟩=some (.slice aR (F[i]).2.length cR)/\V.cell? ⟨b2',i*2,none⟩=some (.slice LF (F[i]).1.length LD)/\V.cell? ⟨b2',i*2+1,none⟩=some (.slice NP (F[i]).2.length ND):=λV hV=>
    ⟨⟨(hV.cell (lt_of_cell c0)).trans c0,(hV.cell (lt_of_cell c1)).trans c1⟩,(hV.cell (lt_of_cell l1)).trans l1,(hV.cell (lt_of_cell r1)).trans r1,(hV.cell (lt_of_cell l2)).trans l2,(hV.cell (lt_of_cell r2)).trans r2⟩
   have hI:∀V,Ext wr V->Calls prog 59 #[.slice aL (F[i]).1.length cL,.slice LF (F[i]).1.length LD] V (λe w'=>e=.returned (.bool true)/\Ext V w'):=λV hV=>De _ _ _ V (iL.ext hV) (iL2.ext hV) (by rw[bJ];exact(HL.out i hlt).1)
   have hJ:∀V,Ext wr V->Calls prog 59 #[.slice aR (F[i]).2.length cR,.slice NP (F[i]).2.length ND] V (λe w'=>e=.returned (.bool true)/\Ext V w'):=λV hV=>De _ _ _ V (iR.ext hV) (iR2.ext hV) (by rw[bJ];exact(HL.out i hlt).2)
   have HE:=aQ (And.intro hE hlt);have HS:=aQ pF;have HIJ:=aQ (And.intro hI hJ);have hxd:Ext wr wr.drew:=⟨rfl,rfl,rfl,ay _,λ_ _=>rfl⟩;have ah:=pF _ hxd;clear l1 r1 l2 r2 iL iR iL2 iR2 pF hI hJ hE VF;go_upto_region 6 with fail
   clear c0 c1;generalize (F[i]).1=lf at *;generalize (F[i]).2=rf at *;refine bV (λV:World=>(V.cell? ⟨w.heap.size,0,none⟩=some (.slice (some ⟨b1',0,none⟩) F.length cap)/\V.cell? ⟨w.heap.size+1,0,none⟩=some (.slice (some ⟨b2',0,none⟩) F.length cap2))/\V.cell? ⟨b1',i*2,none⟩=some (.slice aL lf.length cL)/\V.cell? ⟨b1',i*2+1,none⟩=some (.slice aR rf.length cR)/\V.cell? ⟨b2',i*2,none⟩=some (.slice LF lf.length LD)/\V.cell? ⟨b2',i*2+1,none⟩=some (.slice NP rf.length ND)) [29] aby (by kernel_rfl) ⟨by kernel_rfl,by kernel_rfl,by kernel_rfl⟩ ah (λaz ah=>?_);(refine bT 0 az ah ?_;refine bT 1 az ah ?_;refine bT 2 az ah ?_;refine bT 3 az ah ?_;refine bT 4 az ah ?_;refine bT 5 az ah ?_;refine bT 6 az ah ?_;refine bT 7 az ah ?_;refine bT 8 az ah ?_;refine bT 9 az ah ?_;refine bT 10 az ah ?_;refine bT 11 az ah ?_);(refine nM az (i:=12) λK hK=>?_;go_simp);refine(HIJ.out.1 _ hxd).mono ?_;rintro e w5 ⟨rfl,hx5⟩;have BD:=ax hxd hx5;have ah:=HS.out _ BD;refine hK.out _ _ (λ_=>ah) ?_;clear hK K;(try simp only[nP]);(refine bT 13 az ah ?_;refine bT 14 az ah ?_;refine bT 15 az ah ?_;refine bT 16 az ah ?_;refine bT 17 az ah ?_;refine bT 18 az ah ?_;refine bT 19 az ah ?_;refine bT 20 az ah ?_;refine bT 21 az ah ?_;refine bT 22 az ah ?_;refine bT 23 az ah ?_;refine bT 24 az ah ?_;refine bT 25 az ah ?_;refine bT 26 az ah ?_);(refine nM az (i:=27) λK hK=>?_;go_simp);refine(HIJ.out.2 _ BD).mono ?_;rintro e w6 ⟨rfl,hx6⟩;have aeJ:=ax BD hx6;have ah:=HS.out _ aeJ;refine hK.out _ _ (λ_=>ah) ?_;clear hK K;(try simp only[nP]);(refine bT 28 az ah ?_);refine nU az [29] [_] ?_;clear az ah;go_wp2
   go_roundw
   case rel=>exact⟨i+1,HE.out.2,by go_num,ax HE.out.1 aeJ⟩
   case measure=>have:=HE.out.2;simp[intOf];omega
  .have h1:¬(((i:Nat):Int)<(F.length:Int)):=by omega
   go_wp2
   go_ret
   exact⟨rfl,VF⟩
end
section
open Go.RowKit
open bO (dH Nd vl Same fw)
theorem Mh{b:fw}{F:dH}{ok:Bool}(h:ES b F ok):F.length<=120/\∀j,j<2*F.length->(oZ F j).length<=24:=by
 rcases h with⟨_,_,F',h1,h2,h3⟩|⟨_,_,h3⟩
 .cases ok with
  |false=>simp at h3;subst h3;simp
  |true=>
   simp at h3;subst h3;have hf:=h2.symm;unfold iQ at hf;obtain⟨_,f2,f3⟩:=of_decide_eq_true hf;refine⟨f2,λj hj=>?_⟩;have hi:j / 2<F.length:=(by omega);have g:F.getD (j / 2) ([],[])=F[j / 2]:=(by rw[aj,aa hi];rfl);unfold oZ;split
   .rw[bJ,g];exact(f3 _ hi).1
   .rw[bJ,g];exact(f3 _ hi).2
 .subst h3;simp
end
section
open Go.RowKit
open bO (dH Nd fw GB iG fr gB gX)
structure St(w W:World)(bs:List (Value × List ByteArray))(fs:List (Value × dH))(l:List (Nat × Value × TypeId)):Prop where
 ext:Ext w W
 box:∀x,x∈l->W.heap[x.1]?=some (.cells #[x.2.1] x.2.2 (0,0))
 Ad:∀x,x∈bs->x.2.length<=1000000->Strs W x.1 x.2
 Zq:∀x,x∈fs->fu W 0 x.1 x.2
section
variable {w W W':World} {bs:List (Value × List ByteArray)} {fs:List (Value × dH)} {l:List (Nat × Value × TypeId)}
variable {v:Value}
theorem St.go(h:St w W bs fs l)(e:Ext W W'):St w W' bs fs l:=
 ⟨ax h.ext e,λx hx=>(e.block _ (bu (h.box x hx))).trans (h.box x hx),λx hx hl=>(h.Ad x hx hl).ext e,λx hx=>(h.Zq x hx).ext e⟩
theorem St.pushB(h:St w W bs fs l)(e:Ext W W'){ss:List ByteArray}(hb:ss.length<=1000000->Strs W' v ss)(t:TypeId):St w (W'.alloc (.cells #[v] t)) ((v,ss):: bs) fs ((W'.heap.size,v,t):: l):=by
 have hx:Ext W' (W'.alloc (.cells #[v] t)):=bS (Below.refl _ _) _;have k:=(h.go e).go hx;refine⟨k.ext,λx hx'=>?_,λx hx' hl=>?_,k.Zq⟩
 .rcases eT.1 hx' with rfl|hx'
  .exact heap_alloc_new _ _
  .exact k.box x hx'
 .rcases eT.1 hx' with rfl|hx'
  .exact(hb hl).ext hx
  .exact k.Ad x hx' hl
theorem St.Ow(h:St w W bs fs l)(e:Ext W W'){F:dH}(hb:fu W' 0 v F)(t:TypeId):St w (W'.alloc (.cells #[v] t)) bs ((v,F):: fs) ((W'.heap.size,v,t):: l):=by
 have hx:Ext W' (W'.alloc (.cells #[v] t)):=bS (Below.refl _ _) _;have k:=(h.go e).go hx;refine⟨k.ext,λx hx'=>?_,k.Ad,λx hx'=>?_⟩
 .rcases eT.1 hx' with rfl|hx'
  .exact heap_alloc_new _ _
  .exact k.box x hx'
 .rcases eT.1 hx' with rfl|hx'
  .exact hb.ext hx
  .exact k.Zq x hx'
theorem St.cell(h:St w W bs fs l){p:Nat}{v:Value}{t:TypeId}(hm:(p,v,t)∈l):W.cell? ⟨p,0,none⟩=some v:=by
 have:=cell_of_row W p 0 _ _ _ (h.box _ hm)
 simpa using this
end
variable {F:dH}
theorem Kw{b:fw}{ok:Bool}{W:World}{B:Nat}{v:Value}{sl:Nat->Value}(r:ES b F ok)(h:FO W B v F.length sl (oZ F)):fu W 0 v F:=by
 obtain⟨h1,h2⟩:=Mh r;exact h.nodes (λj hj=>by have:=h2 j hj;omega) (by simp[maxLen];omega)
theorem Jm{ss:List ByteArray}{h w:Nat}(g:GB (bd ss) h w):ss.length<=1000000/\ss.length<=1048576/\∀s,s∈ss->s.size<=1048576:=by
 have h1:=oh g;have h2:=g.h1;have h3:=g.w1;refine⟨by omega,by omega,λs hs=>?_⟩;obtain⟨i,hi,rfl⟩:=aW.1 hs;have:=og g hi;omega
theorem F9(h:iQ F=true):F.length<=1000000/\∀i (hi:i<F.length),(F[i]).1.length<=1000000/\(F[i]).2.length<=1000000:=by
 unfold iQ at h;obtain⟨_,f2,f3⟩:=of_decide_eq_true h;exact⟨by omega,λi hi=>by have:=f3 i hi;omega⟩
end
section
open Go.RowKit
open bO (dH Nd Gm vl fC dZ Same Canon iO)
def El(P:dH->Prop)(w:World)(e:Ending)(w':World):Prop:=
 ∃E vN Fr ok sl,e=.returned (.tuple #[.agg #[vN],.bool ok])/\P E/\ok=iQ E/\Fr=(if ok then E else [])/\FO w' w.heap.size vN Fr.length sl (oZ Fr)/\Ext w w'
theorem MB(N:Nat)(cn:Nat->Option Nat):miss N cn<=N:=by
 unfold miss;have:=rz (λx=>(cn x).isNone) (List.range N);rwa [rR]at this
theorem Rf{pp h:Nat}{s s':iH}{w w':World}{f j:Nat}{g:Gm}(k:jK pp h s w s' w')(hw:bO.WF s.D)(hf:f<s.D.length)(hc:s'.cn f=some j)(hg:Same (vl s.D f) g):j<s'.D.length/\Hid (∀E,fC E->Same (dZ E) (vl s'.D j)->fO E g):=by
 obtain⟨h1,h2⟩:=k.pool.vY.lt f j hc;obtain⟨h3,h4,_⟩:=k.pool.vY.ok f j hc;exact⟨h2,aQ λE hE hS=>⟨hE,vl s'.D j,hS,h3,h4.trans (by rw[k.vl hw hf];exact hg.eqv)⟩⟩
set_option maxHeartbeats 1000000 in
theorem BP(v:Value)(F:dH)(w:World)(hf:fu w 0 v F)(hF:fC F)(hfit:iQ F=true):Calls prog 62 #[.agg #[v]] w (El (λE=>fO E (dZ F)) w):=by
 obtain⟨aF,iF,rfl,hcap,p8,-⟩:=id hf;obtain⟨l1,l2,DL⟩:=oI hfit;have hb1:((w.alloc (.cells #[.slice aF F.length iF] 28)).alloc (.cells #[.slice none 0 0] 28)).heap[w.heap.size]?=some (.cells #[.slice aF F.length iF] 28 (0,0)):=by
  rw[Below.heap_alloc _ _ _ (by simp)];exact heap_alloc_new _ _
 have hb2:((w.alloc (.cells #[.slice aF F.length iF] 28)).alloc (.cells #[.slice none 0 0] 28)).heap[w.heap.size+1]?=some (.cells #[.slice none 0 0] 28 (0,0)):=by
  have h:=heap_alloc_new (w.alloc (.cells #[.slice aF F.length iF] 28)) (.cells #[.slice none 0 0] 28);rw[eQ]at h;exact h
 have hx1:Ext w ((w.alloc (.cells #[.slice aF F.length iF] 28)).alloc (.cells #[.slice none 0 0] 28)):=by go_grown
 have HA:Hid (∀x,x∈F->x.1.length<=1000000/\x.2.length<=1000000):=λx hx=>by
  obtain⟨i,hi,rfl⟩:=aW.1 hx;have:=DL i hi;exact⟨by omega,by omega⟩
 have HG:=aQ (λV (hV:Ext w V)=>rC (.slice aF F.length iF) F V (hf.ext hV) hF hfit);have HF:=aQ hf;have HI:=aQ hF;clear DL hfit hf hF;go_enter Tryz.func62,Tryz.ntmps62
 go_upto_region 1 with fail
 generalize (w.alloc (.cells #[.slice aF F.length iF] 28)).alloc (.cells #[.slice none 0 0] 28)=W at *;have c0:=cell_of_row W w.heap.size 0 _ _ _ hb1;simp only[gE]at c0;go_upto_region 3 with(go_at_call 67;refine(HG.out W hx1).mono ?_;rintro e w1 ⟨rfl,hxg⟩)
 have hE1:=ax hx1 hxg;go_upto_region 4 with(go_at_call 68;refine(Zaa w1).mono ?_;rintro e w2 ⟨h,hh,rfl,hp2,zF,hz2,hx2⟩)
 subst hh;have DV:=dz.empty hp2 zF;have hcc:w2.cell? ⟨w.heap.size,0,none⟩=some (.slice aF F.length iF):=(hx2.cell (lt_of_cell ((hxg.cell (lt_of_cell c0)).trans c0))).trans ((hxg.cell (lt_of_cell c0)).trans c0);have hr2:w2.heap[w.heap.size+1]?=some (.cells #[.slice none 0 0] 28 (0,0)):=by rw[hx2.block _ (bu ((hxg.block _ (bu hb2)).trans hb2)),hxg.block _ (bu hb2)];exact hb2
 have hlt2:w.heap.size+1<w1.heap.size:=bu ((hxg.block _ (bu hb2)).trans hb2);generalize hhz:w1.heap.size=h at *;have Vu:=aQ (Aj (h+1+1+1+1+1) h Dh (.slice aF F.length iF) F w1 w2 (HF.out.ext hE1) HI.out.good.wf (by omega) HA.out hx2 DV (λb hb=>by rcases JC hb with e|e <;> omega) (by simp[Dh];omega));have HP2:=aQ DV;have HX:=aQ (And.intro hE1 hx2);clear hp2 zF hz2 DV hx2 hE1 hx1 hxg hb1 hb2 c0
 go_wp2_with (first
  |(go_at_call 69;refine(Al _ h s4 j4 w4 kz.pool hj4).mono ?_;rintro e w5 ⟨E,vN,Fr,ok,sl,rfl,hE,hS,hok,Kt,DX,hx5⟩
    obtain⟨aN,cN,rfl⟩:=DX.top;have HVV:=aQ (And.intro (And.intro hE hS) (And.intro hok Kt));have HZ5:=aQ hx5;have HFO:=aQ DX;have Kg:w5.heap[w.heap.size+1]?=some (.cells #[.slice none 0 0] 28 (0,0)):=(hx5.block _ (by have:=kz.keep.size;have:=PO.out.size;omega)).trans hr4;have q0:=cell_of_row w5 (w.heap.size+1) 0 _ _ _ Kg;have q1:=frozen_of_row w5 (w.heap.size+1) 0 _ _ Kg;clear hok Kt DX hE hS)
  |(go_at_call 104;refine(Dj (h+1+1+1+1+1) h s3 j3 w3 hP3 hj3 (by have h1:=hD3;have h2:=MB (j3+1) s3.cn;simp[Dh]at h1;omega)).mono ?_;rintro e w4 ⟨s4,j4,rfl,kz,akh,hG4⟩
    obtain⟨hj4,Xo⟩:=Rf kz hP3.good.wf hj3 akh hs3;have hr4:w4.heap[w.heap.size+1]?=some (.cells #[.slice none 0 0] 28 (0,0)):=(kz.keep.block _ (by have:=PO.out.size;omega) (by intro c;have:=HB3.out _ c;omega)).trans hr3)
  |(go_at_call 71;refine Vu.out.mono ?_;rintro e w3 ⟨s3,j3,rfl,hj3,hs3,iU,hD3,ui,hB3⟩
    have hP3:=iU.pool;have PO:=aQ ui;have HB3:=aQ hB3;have hr3:w3.heap[w.heap.size+1]?=some (.cells #[.slice none 0 0] 28 (0,0)):=(ui.block _ (by omega)).trans ((HX.out.2.block _ (by omega)).symm.trans hr2);clear ui hB3))
 have HW:=aQ (heap_setCell_same w5 (w.heap.size+1) 0 _ _ (.slice aN Fr.length cN) Kg);have IV:Ext w1 w4:=kK PO.out kz.keep (λb c=>by have:=HB3.out b c;omega);have EL:=IV.size;have hz1:=HX.out.1.size;(try simp only[Exit.inBlock,Exit.then]);refine bodyPost_ret (dO rfl _ _ (w.heap.size+1) 28 #[.slice aN Fr.length cN] (0,0) _ rfl HW.out underlying28 rfl (by kernel_rfl) rfl) rfl ?_;exact⟨E,_,Fr,ok,sl,rfl,Xo.out E HVV.out.1.1 HVV.out.1.2,HVV.out.2.1,HVV.out.2.2,(HFO.out.xV (dV (p:=⟨w.heap.size+1,0,none⟩)) (λb hb=>by subst hb;show w.heap.size+1<w4.heap.size;omega)).lower (show w.heap.size<=w4.heap.size by omega),(ax (ax HX.out.1 IV) HZ5.out).setCell (p:=⟨w.heap.size+1,0,none⟩) (by show w.heap.size<=w.heap.size+1;omega) _⟩
end
end Go.Proofs.YteknjeohbcgpdaaGreatDoor