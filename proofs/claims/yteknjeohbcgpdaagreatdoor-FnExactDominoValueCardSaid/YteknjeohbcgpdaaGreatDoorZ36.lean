/-
  Contract of the program's node: the game with some options, each once.
-/
import Derived.Test.YteknjeohbcgpdaaGreatDoorZ14
import Derived.Test.YteknjeohbcgpdaaGreatDoorZ30
import Derived.Test.YteknjeohbcgpdaaGreatDoorZ33
set_option maxRecDepth 100000
namespace Go.Proofs.YteknjeohbcgpdaaGreatDoor
open Tryz
open Go.RowKit
open Cgt (Dag Nd vl Same)
theorem K8 (w:World) (B c:Nat) (hB:B≤w.heap.size) (hc:c≤maxLen):(w.alloc (.cells (madeCells #[Value.int .u8 0] c) 5)).ownsRow B 5 1 (.slice (some ⟨w.heap.size,0,none⟩) 0 c) 0 (u8s (dK [])) :=
 ⟨by simp[u8s,dK],.inr ⟨w.heap.size,c,madeCells #[Value.int .u8 0] c,rfl,hB,heap_alloc_new w _,Nat.zero_le _,hc,by rw[size_madeCells];simp,by simp[u8s,dK]⟩⟩
theorem Uj (a b:List Nat):u8s (a++b)=u8s a++u8s b:=by simp[u8s]
theorem Ui (a:List Nat):(u8s a).length=a.length:=by simp[u8s]
theorem o8:∀ k n,(lI k n).length≤k
 | 0,n=>by simp[lI]
 | k+1,n=>by
   rw[lI];split
   · simp
   · have:=o8 k (n / 36);simp;omega
theorem mQ:∀ l:List Nat,(dK l).length≤5*l.length
 | []=>by simp[dK]
 | i :: l=>by
   have:=mQ l
   have h:(b36 i).length≤4:=o8 4 i
   unfold dK at this ⊢
   rw[List.flatMap_cons,List.length_append,List.length_append]
   simp only[List.length_cons,List.length_nil]
   omega
theorem BS {w:World} {B e m n:Nat} {v:Value} {xs ys:List Value} (h:w.ownsRow B e 1 v n xs) (hn:n=m) (hx:xs=ys):w.ownsRow B e 1 v m ys:=by subst hn;subst hx;exact h
theorem Co {l:List Nat} {k:Nat} (hk:k<l.length):dK (l.take (k+1))=dK (l.take k)++(b36 l[k]++[44]):=by
 rw[List.take_succ_eq_append_getElem hk,Jm]
theorem Cq {w:World} {B:Nat} {v:Value} {l:List Nat} {k:Nat} (hk:k<l.length) (p:List Nat) (h:w.ownsRow B 5 1 v ((p++dK (l.take k)).length+(b36 l[k]).length+1) (u8s (p++dK (l.take k))++u8s (b36 l[k])++[.int .u8 44])) :
 w.ownsRow B 5 1 v (p++dK (l.take (k+1))).length (u8s (p++dK (l.take (k+1)))):=by
 refine BS h ?_ ?_
 · rw[Co hk];simp;omega
 · rw[Co hk];simp[u8s]
theorem La {W:World} {B:Nat} {v:Value} {key:List Nat} (h:W.ownsRow B 5 1 v key.length (u8s key)) (hk:0<key.length) :
 ∃ g cap,v=.slice (some ⟨g,0,none⟩) key.length cap∧g<W.heap.size∧∀ W',W'.heap[g]?=W.heap[g]?→(convert 38 9 (.slice (some ⟨g,0,none⟩) key.length cap)).run prog W'=.ok (.string (iQ key)) W':=by
 obtain⟨g,cap,e,_,_,hc⟩:=dC h hk
 have hc0:=hc 0 (by omega)
 rw[u8s,List.getElem?_map,List.getElem?_eq_getElem hk] at hc0
 refine⟨g,cap,e,lt_of_cell hc0,fun W' hW=>?_⟩
 have:=run_convert_bytes_arg (P:=prog) W' 38 5 underlying38 underlying5 g 0 key.length cap (toZ key) (by rw[aj]) (fun i hi=>by
  rw[World.cell?_of_block (w:=W) hW,Nat.zero_add,hc i (by omega),u8s,List.getElem?_map,List.getElem?_eq_getElem hi]
  simp[List.getD,toZ,hi]) 9 underlying9
 rw[this]
 have e2:strOfNums (toZ key)=iQ key:=by
  unfold strOfNums iQ toZ
  rw[List.map_map];rfl
 rw[e2]
theorem vv (w:World):(zeroValue 3).run prog w=.ok (.int .i64 0) w:=by kernel_rfl
theorem Js:(prog.info? 80).map (fun i=>(i.zero,i.size,i.bytes))=some (some (.slice none 0 0),1,24):=by kernel_rfl
theorem yc {a:Option Addr} {n c:Nat}:∀ u∈([Value.slice a n c]:List Value),u.oneCell'=true:=by
 intro u hu;simp at hu;subst hu;rfl
def BM:List Row:=[⟨0,[],77,[0]⟩,⟨1,[0],78,[76]⟩,⟨2,[1],79,[77]⟩,⟨3,[2],80,[78]⟩,⟨4,[],81,[7]⟩,⟨5,[4],82,[80]⟩,⟨6,[3,5],83,[79,81]⟩,⟨7,[6],76,[82]⟩,⟨8,[7],84,[75]⟩,⟨9,[7],85,[75]⟩,⟨10,[8,0,1,2,3,4,5,6,7,8],14,[83]⟩,⟨11,[9,10,0,1,2,3,4,5,6,7,8,9,10],15,[84]⟩]
def KC:List Row:=[⟨0,[],93,[0]⟩,⟨1,[0],94,[92]⟩,⟨2,[1],95,[93]⟩,⟨3,[2],96,[94]⟩,⟨4,[],97,[7]⟩,⟨5,[4],98,[96]⟩,⟨6,[],99,[15]⟩,⟨7,[3,5,6,0,1,2,3,4,5,6],0,[95,97,98]⟩]
set_option maxHeartbeats 4000000 in
theorem BZ (pp h:Nat) (s:PSt) (vl_ vr_:Value) (l r:List Nat) (w:World) (hP:aQ w pp h s) (hD:s.D.length+1≤900000) (hl:∀ x,x∈l→x<s.D.length) (hr:∀ x,x∈r→x<s.D.length)
 (hln:l.length≤1000000) (hrn:r.length≤1000000) (hvl:Ints w vl_ (toZ l)) (hvr:Ints w vr_ (toZ r)) :
 Calls prog 119 #[.pointer (some ⟨pp,0,none⟩),vl_,vr_] w (ve pp h s l r w):=by
 obtain⟨i0,hi0,hz0,hz1,hz2⟩:=info_parts ET
 obtain⟨la,lc,rfl,-⟩:=id hvl
 obtain⟨ra,rc,rfl,-⟩:=id hvr
 go_enter Tryz.func119,Tryz.ntmps119
 have UM:Ext w w:=Below.refl _ _
 go_upto_region 2 with (go_at_call 168;refine(Df _ _ _ (by first | exact hvl | exact hvr.ext hx1) (by rw[aj];omega)).mono ?_;rintro e w1 ⟨v1,rfl,hL1,hx1⟩;rw[MG] at hL1)
 rename_i w0 v0 hL0 hx0 K1 a1
 have hE1:=aa hx0 hx1
 obtain⟨aL,cL,rfl,hcL,_⟩:=az hL0
 obtain⟨aR,cR,rfl,hcR,_⟩:=az hL1
 simp only[aj] at *
 have hsl:=lM l
 have hsr:=lM r
 have hmk:=fun w:World=>run_make (P:=prog) w 38 5 i0 (.int .u8 0) underlying38 hi0 hz0 .i64 .i64 (0:Int) (4*(((ai l).length:Int)+((ai r).length:Int))+1) (by omega) (by omega) (by rw[hz2];omega) (by omega)
 simp only[hz1,Nat.mul_one] at hmk
 go_upto_region 3 with fail
 clear hmk
 have hK0:=K8 w1 w1.heap.size (4*((ai l).length+(ai r).length)+1) (Nat.le_refl _) (by unfold maxLen;omega)
 have hx3:Ext w1 (w1.alloc (.cells (madeCells #[Value.int .u8 0] (4*((ai l).length+(ai r).length)+1)) 5)):=by go_grown
 generalize w1.alloc (.cells (madeCells #[Value.int .u8 0] (4*((ai l).length+(ai r).length)+1)) 5)=W3 at *
 have hLI:=(Ints.bG hL0 (by rw[aj];omega)).ext hx1
 have hRI:=Ints.bG hL1 (by rw[aj];omega)
 have fL:∀ b,(Value.slice aL (ai l).length cL).ownBlock=some b→w.heap.size≤b∧b<w1.heap.size:=fun b hb=>by have:=hL0.lt b hb;have:=hx1.size;omega
 have fR:∀ b,(Value.slice aR (ai r).length cR).ownBlock=some b→w.heap.size≤b∧b<w1.heap.size:=fun b hb=>by have:=hL1.lt b hb;have:=hx0.size;omega
 have hLm:∀ x,x∈ai l→x<s.D.length:=fun x hx=>hl x (aK.1 hx)
 have hRm:∀ x,x∈ai r→x<s.D.length:=fun x hx=>hr x (aK.1 hx)
 have FL:=Hd_ fL
 have FR:=Hd_ fR
 clear hL0 hL1 fL fR hx1 hx0
 generalize hL:ai l=L at *
 generalize hR:ai r=R at *
 go_wp2
 go_loopw [7,8,10,30] (fun kv bn _ ii wr=>∃ k:Nat,k≤L.length∧ii=.int .i64 (k:Int)∧bn=.int .i64 (dh s.D (L.take k))∧wr.ownsRow w1.heap.size 5 1 kv ([]++dK (L.take k)).length (u8s ([]++dK (L.take k)))∧Ext w1 wr) (fun _ _ _ ii _=>L.length-(intOf ii).toNat)
 case atStart=>exact⟨0,Nat.zero_le _,rfl,rfl,hK0,hx3⟩
 case round =>
  obtain⟨k,hk,rfl,rfl,hown,hE⟩:=hrel
  by_cases hlt:k<L.length
  · have h1:((k:Nat):Int)<((L.length:Nat):Int):=by omega
    obtain⟨aq,cq,e1,-,-,hcl⟩:=id hLI
    simp only[Value.slice.injEq,aj,true_and] at e1
    obtain⟨rfl,rfl⟩:=e1
    obtain⟨b,off,rfl,hcell⟩:=hcl (by rw[aj];omega)
    have hck:=hcell k (by rw[aj];exact hlt)
    rw[dN hlt] at hck
    have jF:=(hE.cell (lt_of_cell hck)).trans hck
    have hxk:=hLm (L[k]) (List.getElem_mem hlt)
    obtain⟨ak,ckk,rfl,Qb,_⟩:=az hown
    have hkl:=mQ (L.take k)
    have Tf:=List.length_take_le k L
    obtain⟨gb,gc,c2,hgl,hgm,cb⟩:=(hP.ext hE1).rO hxk
    have hbn:=ko hP.good.wf (L.take k) (fun x hx=>hLm x (List.mem_of_mem_take hx))
    have hbx:=Cgt.kJ hP.good.wf L[k]
    have HB:=Hd_ (wU s.D hlt)
    have hz:=hE.size
    have HO:=Hd_ (fun (v:Value) (W:World) h=>Cq (w:=W) (B:=w1.heap.size) (v:=v) hlt [] h)
    simp only[List.nil_append] at hown
    clear hcl hcell
    go_wp2_with (first
     | (go_at_call 169;refine(AppendInt_36 L[k] (by omega) _ _ _ _ _ hown (by omega) (by omega)).mono ?_;rintro e w4 ⟨v4,rfl,ho4,hk4,hb4⟩;have hx4:=jf hE hk4 (fun x hx=>(hown.lt x hx).1);have hz4:=hk4.size;obtain⟨a4,c4,rfl,hn4,hm4⟩:=az ho4)
     | (at_builtin;refine aW rfl (.tmp 36) (.tmp 37) 38 rfl w1.heap.size 5 i0 (.int .u8 0) 1 1 underlying38 hi0 hz0 hz1 hz2 rfl (by decide) (.slice a4 ((dK (L.take k)).length+(b36 L[k]).length) c4) _ _ rfl (ho4.alloc _) _ 1 _ [.int .u8 44] rfl rfl (.inr ⟨_,rfl,bq (aO _ _ _)⟩) one_cell (by unfold maxLen;have:=o8 4 L[k];unfold b36;omega) (by have:=o8 4 L[k];unfold b36;omega) (by rw[sA_];omega) ?_
        intro v5 w5 ho5 hg5 hl5
        have hx5:Ext w1 w5:=aV (aM hx4 _) hg5 (fun b hb=>(ho4.lt b hb).1)
        have c2':=(hx5.cell (lt_of_cell c2)).trans c2
        have cb':=(hx5.cell (lt_of_cell cb)).trans cb))
    go_roundw
    case rel=>exact⟨k+1,by omega,by go_num,by rw[HB.out],HO.out _ _ ho5,hx5⟩
    case measure=>simp[intOf];omega
  · have h1:¬ (((k:Nat):Int)<((L.length:Nat):Int)):=by omega
    have hke:k=L.length:=by omega
    subst hke
    simp only[List.take_length,List.nil_append] at hown ⊢
    obtain⟨ak,ckk,rfl,Qb,_⟩:=az hown
    have hkl:=mQ L
    have hz:=hE.size
    go_wp2_with (at_builtin;refine aW rfl (.tmp 50) (.tmp 51) 38 rfl w1.heap.size 5 i0 (.int .u8 0) 1 1 underlying38 hi0 hz0 hz1 hz2 rfl (by decide) (.slice ak (dK L).length ckk) _ _ rfl (hown.alloc _) _ 1 _ [.int .u8 124] rfl rfl (.inr ⟨_,rfl,bq (aO _ _ _)⟩) one_cell (by unfold maxLen;omega) (by omega) (by rw[sA_];omega) ?_
                 intro v5 w5 ho5 hg5 hl5
                 have hx5:Ext w1 w5:=aV (aM hE _) hg5 (fun b hb=>(hown.lt b hb).1)
                 have PR:=BS ho5 (m:=((dK L++[124])++dK (R.take 0)).length) (ys:=u8s ((dK L++[124])++dK (R.take 0))) (by simp[dK]) (by simp[u8s,dK]))
    clear ho5 hg5 hl5 hown hE
    obtain⟨wo,rfl⟩:∃ wo:World,wo=wr:=⟨_,rfl⟩
    go_loopw [7,8,12,55] (fun kv bn _ ii wr=>∃ k:Nat,k≤R.length∧ii=.int .i64 (k:Int)∧bn=.int .i64 (dh s.D (L++R.take k))∧wr.ownsRow w1.heap.size 5 1 kv ((dK L++[124])++dK (R.take k)).length (u8s ((dK L++[124])++dK (R.take k)))∧Ext w1 wr) (fun _ _ _ ii _=>R.length-(intOf ii).toNat)
    case atStart=>exact⟨0,Nat.zero_le _,rfl,by simp,PR,hx5⟩
    case round =>
     clear PR hx5
     obtain⟨k,hk,rfl,rfl,hown,hE⟩:=hrel
     by_cases hlt:k<R.length
     · have h1:((k:Nat):Int)<((R.length:Nat):Int):=by omega
       obtain⟨aq,cq,e1,-,-,hcl⟩:=id hRI
       simp only[Value.slice.injEq,aj,true_and] at e1
       obtain⟨rfl,rfl⟩:=e1
       obtain⟨b,off,rfl,hcell⟩:=hcl (by rw[aj];omega)
       have hck:=hcell k (by rw[aj];exact hlt)
       rw[dN hlt] at hck
       have jF:=(hE.cell (lt_of_cell hck)).trans hck
       have hxk:=hRm (R[k]) (List.getElem_mem hlt)
       obtain⟨ak,ckk,rfl,Qb,_⟩:=az hown
       have LH:=mQ (R.take k)
       have Tf:=List.length_take_le k R
       obtain⟨gb,gc,c2,hgl,hgm,cb⟩:=(hP.ext hE1).rO hxk
       have hbn:=ko hP.good.wf (L++R.take k) (fun x hx=>by rcases List.mem_append.1 hx with hx | hx;exact hLm x hx;exact hRm x (List.mem_of_mem_take hx))
       have hbx:=Cgt.kJ hP.good.wf R[k]
       have HB:=Hd_ (uW s.D L hlt)
       have hz:=hE.size
       have HO:=Hd_ (fun (v:Value) (W:World) h=>Cq (w:=W) (B:=w1.heap.size) (v:=v) hlt (dK L++[124]) h)
       have hn0:((dK L++[124])++dK (R.take k)).length≤900000000:=by simp;omega
       generalize hK:(dK L++[124])++dK (R.take k)=K at hown hn0 HO
       clear hcl hcell hK
       go_wp2_with (first
        | (go_at_call 169;refine(AppendInt_36 R[k] (by omega) _ _ _ _ _ hown (by omega) (by omega)).mono ?_;rintro e w4 ⟨v4,rfl,ho4,hk4,hb4⟩;have hx4:=jf hE hk4 (fun x hx=>(hown.lt x hx).1);have hz4:=hk4.size;obtain⟨a4,c4,rfl,hn4,hm4⟩:=az ho4)
        | (at_builtin;refine aW rfl (.tmp 61) (.tmp 62) 38 rfl w1.heap.size 5 i0 (.int .u8 0) 1 1 underlying38 hi0 hz0 hz1 hz2 rfl (by decide) (.slice a4 (K.length+(b36 R[k]).length) c4) _ _ rfl (ho4.alloc _) _ 1 _ [.int .u8 44] rfl rfl (.inr ⟨_,rfl,bq (aO _ _ _)⟩) one_cell (by unfold maxLen;have:=o8 4 R[k];unfold b36;omega) (by have:=o8 4 R[k];unfold b36;omega) (by rw[sA_];omega) ?_
           intro v5 w5 ho5 hg5 hl5
           have hx5:Ext w1 w5:=aV (aM hx4 _) hg5 (fun b hb=>(ho4.lt b hb).1)
           have c2':=(hx5.cell (lt_of_cell c2)).trans c2
           have cb':=(hx5.cell (lt_of_cell cb)).trans cb))
       go_roundw
       case rel=>exact⟨k+1,by omega,by go_num,by rw[HB.out],HO.out _ _ ho5,hx5⟩
       case measure=>simp[intOf];omega
     · have h1:¬ (((k:Nat):Int)<((R.length:Nat):Int)):=by omega
       have hke:k=R.length:=by omega
       subst hke
       simp only[List.take_length] at hown ⊢
       have hkey:(dK L++[124])++dK R=jE L R:=by simp[jE]
       rw[hkey] at hown
       obtain⟨gk,ck,rfl,hgk,hcv⟩:=La hown (by simp[jE];omega)
       have hEw:=aa hE1 hE
       have hPr:=hP.ext hEw
       obtain⟨f,hM,hf1,hf2⟩:=hPr.find
       have hkz:(jE L R).length≤900000000:=by have:=mQ L;have:=mQ R;simp[jE];omega
       obtain⟨kl,hkl⟩:=Jn (iQ (jE L R)) (by unfold maxLen;simp only[iQ,ByteArray.size,List.size_toArray,List.length_map];omega)
       have hlk:=fun (W:World) (hW:W.heap[h]?=wr.heap[h]?)=>(hM.keep hW).look uC underlying113 (vv W) hkl true
       have c3:=hPr.c3
       have HEL:=Hd_ hE
       clear hown hE
       cases hfk:f (.string (iQ (jE L R))) with
       | some v =>
         obtain⟨i,hi,e1,rfl⟩:=hf2 _ _ hfk
         have HE:=Hd_ e1
         clear e1
         simp only[hfk,Option.getD_some,Option.isSome_some,if_true] at hlk
         go_upto_region 17 with fail
         refine bz (fun W=>W.cell? ⟨pp,3,none⟩=some (.map (some h))∧(convert 38 9 (.slice (some ⟨gk,0,none⟩) (jE L R).length ck)).run prog W=.ok (.string (iQ (jE L R))) W∧(Instr.lookup 113 (.map (some h)) (.string (iQ (jE L R))) true).run prog W=.ok (.tuple #[.int .i64 (i:Int),.bool true]) W) [11] BM (by kernel_rfl) ⟨by kernel_rfl,by kernel_rfl,by kernel_rfl⟩ ⟨c3,hcv _ rfl,hlk _ rfl⟩ (fun ae hHeld=>?_)
         ((refine tkB ae (i:=0) hHeld ?_);(try simp only[nP]);(refine tkB ae (i:=1) hHeld ?_);(try simp only[nP]);(refine tkB ae (i:=2) hHeld ?_);(try simp only[nP]);(refine tkB ae (i:=3) hHeld ?_);(try simp only[nP]);(refine tkB ae (i:=4) hHeld ?_);(try simp only[nP]);(refine tkB ae (i:=5) hHeld ?_);(try simp only[nP]);(refine tkB ae (i:=6) hHeld ?_);(try simp only[nP]);(refine tkB ae (i:=7) hHeld ?_);(try simp only[nP]);(refine tkB ae (i:=8) hHeld ?_);(try simp only[nP]);(refine tkB ae (i:=9) hHeld ?_);(try simp only[nP]);(refine tkB ae (i:=10) hHeld ?_);(try simp only[nP]))
         refine tlB ae [11] [_] ?_
         go_wp2_with fail
         go_ret
         refine⟨s,i,rfl,PGo.refl hP (aa hEw (dw ⟨_,rfl⟩)),⟨?_,.inl rfl⟩,rfl⟩
         have hw:=hP.good.wf i s.D[i] (List.getElem?_eq_getElem hi)
         have e2:=Lb (a:=(L,R)) (b:=s.D[i]) (fun x hx=>by rcases List.mem_append.1 hx with hx | hx;have:=hLm x hx;omega;have:=hRm x hx;omega) (fun x hx=>by rcases List.mem_append.1 hx with hx | hx;have:=hw.1 x hx;omega;have:=hw.2 x hx;omega) HE.out
         rw[List.getElem?_eq_getElem hi,← e2,← hL,← hR]
       | none =>
         simp only[hfk,Option.getD_none,Option.isSome_none,if_true] at hlk
         go_upto_region 17 with fail
         refine bz (fun W=>W.cell? ⟨pp,3,none⟩=some (.map (some h))∧(convert 38 9 (.slice (some ⟨gk,0,none⟩) (jE L R).length ck)).run prog W=.ok (.string (iQ (jE L R))) W∧(Instr.lookup 113 (.map (some h)) (.string (iQ (jE L R))) true).run prog W=.ok (.tuple #[.int .i64 0,.bool false]) W) [11] BM (by kernel_rfl) ⟨by kernel_rfl,by kernel_rfl,by kernel_rfl⟩ ⟨c3,hcv _ rfl,hlk _ rfl⟩ (fun ae hHeld=>?_)
         ((refine tkB ae (i:=0) hHeld ?_);(try simp only[nP]);(refine tkB ae (i:=1) hHeld ?_);(try simp only[nP]);(refine tkB ae (i:=2) hHeld ?_);(try simp only[nP]);(refine tkB ae (i:=3) hHeld ?_);(try simp only[nP]);(refine tkB ae (i:=4) hHeld ?_);(try simp only[nP]);(refine tkB ae (i:=5) hHeld ?_);(try simp only[nP]);(refine tkB ae (i:=6) hHeld ?_);(try simp only[nP]);(refine tkB ae (i:=7) hHeld ?_);(try simp only[nP]);(refine tkB ae (i:=8) hHeld ?_);(try simp only[nP]);(refine tkB ae (i:=9) hHeld ?_);(try simp only[nP]);(refine tkB ae (i:=10) hHeld ?_);(try simp only[nP]))
         refine tlB ae [11] [_] ?_
         clear ae hHeld hlk
         have hPd:aQ wr.drew pp h s:=hPr.ext (dw ⟨1,rfl⟩)
         obtain⟨ab,cb,eb,hb1,hb2⟩:=az hPd.born
         obtain⟨xl,hxl,hil⟩:=hPd.left
         obtain⟨xr,hxr,hir⟩:=hPd.right
         obtain⟨al,cl,el,hl1,hl2⟩:=az hxl
         obtain⟨ar,cr,er,hr1,hr2⟩:=az hxr
         have c2:=hPd.c2
         rw[eb] at c2
         go_upto_region 21 with fail
         have Mf:aQ wr.drew.drew pp h s:=hPd.ext (dw ⟨1,rfl⟩)
         have c3':=Mf.c3
         refine bz (fun W=>W.cell? ⟨pp,3,none⟩=some (.map (some h))∧(convert 38 9 (.slice (some ⟨gk,0,none⟩) (jE L R).length ck)).run prog W=.ok (.string (iQ (jE L R))) W) [7] KC (by kernel_rfl) ⟨by kernel_rfl,by kernel_rfl,by kernel_rfl⟩ ⟨c3',hcv _ rfl⟩ (fun ae hHeld=>?_)
         ((refine tkB ae (i:=0) hHeld ?_);(try simp only[nP]);(refine tkB ae (i:=1) hHeld ?_);(try simp only[nP]);(refine tkB ae (i:=2) hHeld ?_);(try simp only[nP]);(refine tkB ae (i:=3) hHeld ?_);(try simp only[nP]);(refine tkB ae (i:=4) hHeld ?_);(try simp only[nP]);(refine tkB ae (i:=5) hHeld ?_);(try simp only[nP]);(refine tkB ae (i:=6) hHeld ?_);(try simp only[nP]))
         refine tlB ae [7] [_] ?_
         clear ae hHeld
         have dI:=Mf.box
         rw[el,er,eb] at dI
         have PZ:(Value.slice al s.D.length cl).ownBlock≠some pp:=fun e=>(hP.ap2 pp (.inl (by rw[el];exact e))).1 rfl
         have Lm:(Value.slice ar s.D.length cr).ownBlock≠some pp:=fun e=>(hP.ap2 pp (.inr (.inl (by rw[er];exact e)))).1 rfl
         have L6:(Value.slice ab s.D.length cb).ownBlock≠some pp:=fun e=>(hP.ap2 pp (.inr (.inr (by rw[eb];exact e)))).1 rfl
         have hlr:∀ b,(Value.slice ar s.D.length cr).ownBlock=some b→(Value.slice al s.D.length cl).ownBlock≠some b:=fun b h1 h2=>(hP.ap3 b (by rw[el];exact h2)).1 (by rw[er];exact h1)
         have hlb:∀ b,(Value.slice ab s.D.length cb).ownBlock=some b→(Value.slice al s.D.length cl).ownBlock≠some b:=fun b h1 h2=>(hP.ap3 b (by rw[el];exact h2)).2 (by rw[eb];exact h1)
         have hrb:∀ b,(Value.slice ab s.D.length cb).ownBlock=some b→(Value.slice ar s.D.length cr).ownBlock≠some b:=fun b h1 h2=>hP.ap4 b (by rw[er];exact h2) (by rw[eb];exact h1)
         have Pz:wr.drew.drew.ownsRow 0 80 1 (.slice al s.D.length cl) s.D.length xl:=by rw[← el];exact hxl
         have Py:wr.drew.drew.ownsRow 0 80 1 (.slice ar s.D.length cr) s.D.length xr:=by rw[← er];exact hxr
         have R6:wr.drew.drew.ownsRow 0 3 1 (.slice ab s.D.length cb) s.D.length ((s.D.mapIdx fun i _=>(Cgt.born (vl s.D i):Int)).map (Value.int .i64)):=by rw[← eb];exact Mf.born
         have hM2:bW prog 9 wr.drew.drew h s.D.length f:=hM.keep rfl
         have Gv:∀ b,(Value.slice al s.D.length cl).ownBlock=some b∨(Value.slice ar s.D.length cr).ownBlock=some b∨(Value.slice ab s.D.length cb).ownBlock=some b→b≠h:=fun b hb=>by
          have:=(hP.ap2 b (by rw[el,er,eb];exact hb)).2;omega
         have SA:pp≠h:=by have:=hP.ap1;omega
         have FI:=Hd_ (And.intro hil hir)
         have FE:=Hd_ (And.intro el (And.intro er eb))
         have HFK:=Hd_ hfk
         clear hil hir hfk eb el er hPr hPd hM
         obtain⟨iS,hiS,zS0,zS1,zS2⟩:=info_parts Js
         obtain⟨iI,hiI,zI0,zI1,zI2⟩:=info_parts eO
         go_wp2_with (first
          | (at_mapUpdate;refine fe rfl _ _ _ 113 rfl 9 3 uC underlying113 h s.D.length f rfl hM2 (by unfold maxLen;omega) _ _ rfl rfl ⟨kl,hkl⟩ ?_
             intro w21 TE CS
             have Ma:w21.heap[pp]?=_:=((dM CS).block pp (ah dI) SA).trans dI
             obtain⟨p1,q1,r1⟩:=qG Ma
             have d10:=q1 0 _ rfl
             have e10:=r1 0
             have Rl:=aI Pz (dM CS) (fun b hb=>Gv b (.inl hb))
             have Rk:=aI Py (dM CS) (fun b hb=>Gv b (.inr (.inl hb)))
             have Rm:=aI R6 (dM CS) (fun b hb=>Gv b (.inr (.inr hb)))
             clear q1 r1)
          | (at_builtin;refine aW rfl (.tmp 103) (.tmp 105) 137 rfl 0 80 iS (.slice none 0 0) 1 24 underlying137 hiS zS0 zS1 zS2 rfl (by decide) (.slice al s.D.length cl) s.D.length xl rfl (Rl.alloc _) _ 1 _ [.slice aL L.length cL] rfl rfl (.inr ⟨_,rfl,bq (aO _ _ _)⟩) yc (by unfold maxLen;omega) (by omega) (Nat.zero_le _) ?_
             intro v2 w2 ho2 hg2 hl2
             have hb2:=(oh (j:=0) Ma PZ hg2 ho2 hl2).1
             obtain⟨p2,q2,r2⟩:=qG (wu Ma hg2 PZ)
             have d20:=q2 0 _ rfl
             have d21:=q2 1 _ rfl
             have e20:=r2 0
             have RZ:=zk Rk hg2 hlr
             have R5:=zk Rm hg2 hlb
             obtain⟨a2,k2,rfl,_,_⟩:=az ho2
             clear q2 r2)
          | (at_builtin;refine aW rfl (.tmp 113) (.tmp 115) 137 rfl 0 80 iS (.slice none 0 0) 1 24 underlying137 hiS zS0 zS1 zS2 rfl (by decide) (.slice ar s.D.length cr) s.D.length xr rfl ((ownsRow_setCell_other RZ Lm _).alloc _) _ 1 _ [.slice aR R.length cR] rfl rfl (.inr ⟨_,rfl,bq (pz _ _ _ _ _)⟩) yc (by unfold maxLen;omega) (by omega) (Nat.zero_le _) ?_
             intro v3 w3 ho3 hg3 hl3
             have hb3:=(oh (j:=1) hb2 Lm hg3 ho3 hl3).1
             obtain⟨p3,q3,r3⟩:=qG (wu hb2 hg3 Lm)
             have d31:=q3 1 _ rfl
             have d32:=q3 2 _ rfl
             have e31:=r3 1
             have R4:=zk (ownsRow_setCell_other R5 (a:=⟨pp,0,none⟩) L6 _) hg3 hrb
             obtain⟨a3,k3,rfl,_,_⟩:=az ho3
             clear q3 r3)
          | (at_builtin;refine aW rfl (.tmp 123) (.tmp 125) 80 rfl 0 3 iI (.int .i64 0) 1 8 underlying80 hiI zI0 zI1 zI2 rfl (by decide) (.slice ab s.D.length cb) s.D.length _ rfl ((ownsRow_setCell_other R4 L6 _).alloc _) _ 1 _ [.int .i64 (dh s.D (L++R))] rfl rfl (.inr ⟨_,rfl,bq (pz _ _ _ _ _)⟩) one_cell (by unfold maxLen;omega) (by omega) (Nat.zero_le _) ?_
             intro v4 w4 ho4 hg4 hl4
             obtain⟨p4,q4,r4⟩:=qG (wu hb3 hg4 L6)
             have d42:=q4 2 _ rfl
             have e42:=r4 2
             obtain⟨a4,k4,rfl,_,_⟩:=az ho4
             clear q4 r4))
         go_ret
         subst hL hR
         have hEd:Ext w wr.drew.drew:=aa hEw (dw ⟨2,rfl⟩)
         have Mo:Ext w1 wr.drew.drew:=aa HEL.out (dw ⟨2,rfl⟩)
         have hz1':=Mo.size
         have e1:=FE.out.1
         have e2:=FE.out.2.1
         have e3:=FE.out.2.2
         exact KV hP hEd hD hl hr (hLI.ext Mo) (hRI.ext Mo) (fun b hb=>⟨(FL.out b hb).1,Nat.lt_of_lt_of_le (FL.out b hb).2 hz1'⟩) (fun b hb=>⟨(FR.out b hb).1,Nat.lt_of_lt_of_le (FR.out b hb).2 hz1'⟩) hf1 hf2 HFK.out TE CS
          (by rw[e1];exact Pz) FI.out.1 (by rw[e2];exact Py) FI.out.2 (by rw[e1];exact hg2) ho2 (by rw[e1];exact hl2) (by rw[e2];exact hg3) ho3 (by rw[e2];exact hl3) (by rw[e3];exact hg4) ho4 (by rw[e3];exact hl4)
end Go.Proofs.YteknjeohbcgpdaaGreatDoor