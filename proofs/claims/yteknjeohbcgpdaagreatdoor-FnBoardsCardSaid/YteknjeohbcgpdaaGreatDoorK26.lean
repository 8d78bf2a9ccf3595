/-
  The program's pool with its map of sums: what a call of sum leaves, its own two lists; no condition. (2 texts.)
-/
import Derived.Test.YteknjeohbcgpdaaGreatDoorK25
set_option maxRecDepth 100000
namespace Go.Proofs.YteknjeohbcgpdaaGreatDoor
open Tryz
section
open Go.RowKit
open bO (dH Nd vl Same)
variable {w:World} {B n k:Nat} {v:Value} {l:List Nat}
theorem Uo(w:World)(B c:Nat)(hB:B<=w.heap.size)(hc:c<=maxLen):(w.alloc (.cells (madeCells #[Value.int .u8 0] c) 5)).ownsRow B 5 1 (.slice (some ⟨w.heap.size,0,none⟩) 0 c) 0 (wM (jW [])):=
 ⟨by simp[wM,jW],.inr ⟨w.heap.size,c,madeCells #[Value.int .u8 0] c,rfl,hB,heap_alloc_new w _,aJ _,hc,by rw[size_madeCells];simp,by simp[wM,jW]⟩⟩
theorem xz:∀k n,(yG k n).length<=k
 | 0,n=>by simp[yG]
 |k+1,n=>by
  rw[yG];split
  .simp
  .have:=xz k (n / 36);simp;omega
theorem sH:∀l:List Nat,(jW l).length<=5*l.length
 |[]=>by simp[jW]
 |i :: l=>by
  have:=sH l;have h:(z8 i).length<=4:=xz 4 i;unfold jW at this ⊢;rw[ji,aK,aK];simp only[fQ,List.length_nil];omega
theorem JG{e m:Nat}{xs ys:List Value}(h:w.ownsRow B e 1 v n xs)(hn:n=m)(hx:xs=ys):w.ownsRow B e 1 v m ys:=by subst hn;subst hx;exact h
theorem J3(hk:k<l.length):jW (l.take (k+1))=jW (l.take k)++(z8 l[k]++[44]):=by
 rw[bg hk,QH]
theorem J4(hk:k<l.length)(p:List Nat)(h:w.ownsRow B 5 1 v ((p++jW (l.take k)).length+(z8 l[k]).length+1) (wM (p++jW (l.take k))++wM (z8 l[k])++[.int .u8 44])):
 w.ownsRow B 5 1 v (p++jW (l.take (k+1))).length (wM (p++jW (l.take (k+1)))):=by
 refine JG h ?_ ?_
 .rw[J3 hk];simp;omega
 .rw[J3 hk];simp[wM]
theorem Uq{W:World}{key:List Nat}(h:W.ownsRow B 5 1 v key.length (wM key))(hk:0<key.length):
 ∃g cap,v=.slice (some ⟨g,0,none⟩) key.length cap/\g<W.heap.size/\∀W',W'.heap[g]?=W.heap[g]?->(convert 38 9 (.slice (some ⟨g,0,none⟩) key.length cap)).run prog W'=.ok (.string (nu key)) W':=by
 obtain⟨g,cap,e,_,_,hc⟩:=gV h hk;have hc0:=hc 0 (by omega);rw[wM,dm,aa hk]at hc0;refine⟨g,cap,e,lt_of_cell hc0,λW' hW=>?_⟩;have:=run_convert_bytes_arg (P:=prog) W' 38 5 underlying38 underlying5 g 0 key.length cap (dD key) (by rw[bJ]) (λi hi=>by
  rw[World.cell?_of_block (w:=W) hW,jf,hc i (by omega),wM,dm,aa hi];simp[List.getD,dD,hi]) 9 underlying9
 rw[this];have e2:strOfNums (dD key)=nu key:=by
  unfold strOfNums nu dD;rw[gM];rfl
 rw[e2]
theorem EX(w:World):(zeroValue 3).run prog w=.ok (.int .i64 0) w:=by kernel_rfl
theorem QJ:(prog.info? 80).map (λi=>(i.zero,i.size,i.bytes))=some (some (.slice none 0 0),1,24):=by kernel_rfl
theorem CX{a:Option Addr}{c:Nat}:∀u∈([Value.slice a n c]:List Value),u.oneCell'=true:=by
 intro u hu;simp at hu;subst hu;rfl
def Js:List Row:=[⟨0,[],77,[0]⟩,⟨1,[0],78,[76]⟩,⟨2,[1],79,[77]⟩,⟨3,[2],80,[78]⟩,⟨4,[],81,[7]⟩,⟨5,[4],82,[80]⟩,⟨6,[3,5],83,[79,81]⟩,⟨7,[6],76,[82]⟩,⟨8,[7],84,[75]⟩,⟨9,[7],85,[75]⟩,⟨10,[8,0,1,2,3,4,5,6,7,8],14,[83]⟩,⟨11,[9,10,0,1,2,3,4,5,6,7,8,9,10],15,[84]⟩]
def Tq:List Row:=[⟨0,[],93,[0]⟩,⟨1,[0],94,[92]⟩,⟨2,[1],95,[93]⟩,⟨3,[2],96,[94]⟩,⟨4,[],97,[7]⟩,⟨5,[4],98,[96]⟩,⟨6,[],99,[15]⟩,⟨7,[3,5,6,0,1,2,3,4,5,6],0,[95,97,98]⟩]
set_option maxHeartbeats 4000000 in
theorem zk(pp h:Nat)(s:iH)(vl_ vr_:Value)(l r:List Nat)(w:World)(hP:dz w pp h s)(hD:s.D.length+1<=900000)(hl:∀x,x∈l->x<s.D.length)(hr:∀x,x∈r->x<s.D.length)
 (hln:l.length<=1000000) (hrn:r.length<=1000000) (hvl:Ints w vl_ (dD l)) (hvr:Ints w vr_ (dD r)):
 Calls prog 119 #[.pointer (some ⟨pp,0,none⟩),vl_,vr_] w (Be pp h s l r w):=by
 obtain⟨i0,hi0,hz0,hz1,hz2⟩:=info_parts OT;obtain⟨la,lc,rfl,-⟩:=id hvl;obtain⟨ra,rc,rfl,-⟩:=id hvr;go_enter Tryz.func119,Tryz.ntmps119
 have apZ:Ext w w:=Below.refl _ _;go_upto_region 2 with(go_at_call 168;refine(Hw _ _ _ (by first|exact hvl|exact hvr.ext hx1) (by rw[bJ];omega)).mono ?_;rintro e w1 ⟨v1,rfl,hL1,hx1⟩;rw[VY]at hL1)
 rename_i w0 v0 hL0 hx0 K1 a1;have hE1:=ax hx0 hx1;obtain⟨aL,cL,rfl,hcL,_⟩:=bH hL0;obtain⟨aR,cR,rfl,hcR,_⟩:=bH hL1;simp only[bJ]at *;have hsl:=qc l;have hsr:=qc r;have hmk:=λw:World=>run_make (P:=prog) w 38 5 i0 (.int .u8 0) underlying38 hi0 hz0 .i64 .i64 (0:Int) (4*(((bQ l).length:Int)+((bQ r).length:Int))+1) (by omega) (by omega) (by rw[hz2];omega) (by omega)
 simp only[hz1,jZ]at hmk;go_upto_region 3 with fail
 clear hmk;have hK0:=Uo w1 w1.heap.size (4*((bQ l).length+(bQ r).length)+1) (ay _) (by unfold maxLen;omega);have hx3:Ext w1 (w1.alloc (.cells (madeCells #[Value.int .u8 0] (4*((bQ l).length+(bQ r).length)+1)) 5)):=by go_grown
 generalize w1.alloc (.cells (madeCells #[Value.int .u8 0] (4*((bQ l).length+(bQ r).length)+1)) 5)=W3 at *;have hLI:=(Ints.eD hL0 (by rw[bJ];omega)).ext hx1;have hRI:=Ints.eD hL1 (by rw[bJ];omega);have fL:∀b,(Value.slice aL (bQ l).length cL).ownBlock=some b->w.heap.size<=b/\b<w1.heap.size:=λb hb=>by have:=hL0.lt b hb;have:=hx1.size;omega
 have fR:∀b,(Value.slice aR (bQ r).length cR).ownBlock=some b->w.heap.size<=b/\b<w1.heap.size:=λb hb=>by have:=hL1.lt b hb;have:=hx0.size;omega
 have hLm:∀x,x∈bQ l->x<s.D.length:=λx hx=>hl x (bZ.1 hx)
 have hRm:∀x,x∈bQ r->x<s.D.length:=λx hx=>hr x (bZ.1 hx)
 have FL:=aQ fL;have FR:=aQ fR;clear hL0 hL1 fL fR hx1 hx0;generalize hL:bQ l=L at *;generalize hR:bQ r=R at *;go_wp2
 go_loopw [7,8,10,30] (λkv bn _ ii wr=>∃k:Nat,k<=L.length/\ii=.int .i64 (k:Int)/\bn=.int .i64 (fM s.D (L.take k))/\wr.ownsRow w1.heap.size 5 1 kv ([]++jW (L.take k)).length (wM ([]++jW (L.take k)))/\Ext w1 wr) (λ_ _ _ ii _=>L.length-(intOf ii).toNat)
 case atStart=>exact⟨0,aJ _,rfl,rfl,hK0,hx3⟩
 case round=>
  obtain⟨k,hk,rfl,rfl,hown,hE⟩:=hrel;by_cases hlt:k<L.length
  .have h1:((k:Nat):Int)<((L.length:Nat):Int):=by omega
   obtain⟨aq,cq,e1,-,-,hcl⟩:=id hLI;simp only[Value.slice.injEq,bJ,true_and]at e1;obtain⟨rfl,rfl⟩:=e1;obtain⟨b,off,rfl,hcell⟩:=hcl (by rw[bJ];omega);have hck:=hcell k (by rw[bJ];exact hlt);rw[gy hlt]at hck;have mZ:=(hE.cell (lt_of_cell hck)).trans hck;have hxk:=hLm (L[k]) (ai hlt);obtain⟨ak,ckk,rfl,afH,_⟩:=bH hown;have hkl:=sH (L.take k);have ajU:=List.length_take_le k L;obtain⟨gb,gc,c2,hgl,hgm,cb⟩:=(hP.ext hE1).AY hxk;have hbn:=lT hP.good.wf (L.take k) (λx hx=>hLm x (dY hx));have hbx:=bO.ny hP.good.wf L[k];have HB:=aQ (wy s.D hlt);have hz:=hE.size;have HO:=aQ (λ(v:Value) (W:World) h=>J4 (w:=W) (B:=w1.heap.size) (v:=v) hlt [] h);simp only[gI]at hown;clear hcl hcell
   go_wp2_with (first
    |(go_at_call 169;refine(AppendInt_36 L[k] (by omega) _ _ _ _ _ hown (by omega) (by omega)).mono ?_;rintro e w4 ⟨v4,rfl,yJ,hk4,hb4⟩;have hx4:=kK hE hk4 (λx hx=>(hown.lt x hx).1);have EL:=hk4.size;obtain⟨a4,c4,rfl,hn4,Hg⟩:=bH yJ)
    |(at_builtin;refine dC rfl (.tmp 36) (.tmp 37) 38 rfl w1.heap.size 5 i0 (.int .u8 0) 1 1 underlying38 hi0 hz0 hz1 hz2 rfl (by decide) (.slice a4 ((jW (L.take k)).length+(z8 L[k]).length) c4) _ _ rfl (yJ.alloc _) _ 1 _ [.int .u8 44] rfl rfl (.inr ⟨_,rfl,dJ (dh _ _ _)⟩) one_cell (by unfold maxLen;have:=xz 4 L[k];unfold z8;omega) (by have:=xz 4 L[k];unfold z8;omega) (by rw[eQ];omega) ?_
      intro v5 w5 iT hg5 hl5;have hx5:Ext w1 w5:=dS (bS hx4 _) hg5 (λb hb=>(yJ.lt b hb).1);have c2':=(hx5.cell (lt_of_cell c2)).trans c2;have cb':=(hx5.cell (lt_of_cell cb)).trans cb))
   go_roundw
   case rel=>exact⟨k+1,by omega,by go_num,by rw[HB.out],HO.out _ _ iT,hx5⟩
   case measure=>simp[intOf];omega
  .have h1:¬(((k:Nat):Int)<((L.length:Nat):Int)):=by omega
   have hke:k=L.length:=(by omega);subst hke;simp only[dB,gI]at hown ⊢;obtain⟨ak,ckk,rfl,afH,_⟩:=bH hown;have hkl:=sH L;have hz:=hE.size
   go_wp2_with (at_builtin;refine dC rfl (.tmp 50) (.tmp 51) 38 rfl w1.heap.size 5 i0 (.int .u8 0) 1 1 underlying38 hi0 hz0 hz1 hz2 rfl (by decide) (.slice ak (jW L).length ckk) _ _ rfl (hown.alloc _) _ 1 _ [.int .u8 124] rfl rfl (.inr ⟨_,rfl,dJ (dh _ _ _)⟩) one_cell (by unfold maxLen;omega) (by omega) (by rw[eQ];omega) ?_
                intro v5 w5 iT hg5 hl5;have hx5:Ext w1 w5:=dS (bS hE _) hg5 (λb hb=>(hown.lt b hb).1);have afc:=JG iT (m:=((jW L++[124])++jW (R.take 0)).length) (ys:=wM ((jW L++[124])++jW (R.take 0))) (by simp[jW]) (by simp[wM,jW]))
   clear iT hg5 hl5 hown hE;obtain⟨wo,rfl⟩:∃wo:World,wo=wr:=⟨_,rfl⟩;go_loopw [7,8,12,55] (λkv bn _ ii wr=>∃k:Nat,k<=R.length/\ii=.int .i64 (k:Int)/\bn=.int .i64 (fM s.D (L++R.take k))/\wr.ownsRow w1.heap.size 5 1 kv ((jW L++[124])++jW (R.take k)).length (wM ((jW L++[124])++jW (R.take k)))/\Ext w1 wr) (λ_ _ _ ii _=>R.length-(intOf ii).toNat)
   case atStart=>exact⟨0,aJ _,rfl,by simp,afc,hx5⟩
   case round=>
    clear afc hx5;obtain⟨k,hk,rfl,rfl,hown,hE⟩:=hrel;by_cases hlt:k<R.length
    .have h1:((k:Nat):Int)<((R.length:Nat):Int):=by omega
     obtain⟨aq,cq,e1,-,-,hcl⟩:=id hRI;simp only[Value.slice.injEq,bJ,true_and]at e1;obtain⟨rfl,rfl⟩:=e1;obtain⟨b,off,rfl,hcell⟩:=hcl (by rw[bJ];omega);have hck:=hcell k (by rw[bJ];exact hlt);rw[gy hlt]at hck;have mZ:=(hE.cell (lt_of_cell hck)).trans hck;have hxk:=hRm (R[k]) (ai hlt);obtain⟨ak,ckk,rfl,afH,_⟩:=bH hown;have acg:=sH (R.take k);have ajU:=List.length_take_le k R;obtain⟨gb,gc,c2,hgl,hgm,cb⟩:=(hP.ext hE1).AY hxk;have hbn:=lT hP.good.wf (L++R.take k) (λx hx=>by rcases bq.1 hx with hx|hx;exact hLm x hx;exact hRm x (dY hx));have hbx:=bO.ny hP.good.wf R[k];have HB:=aQ (uo s.D L hlt);have hz:=hE.size;have HO:=aQ (λ(v:Value) (W:World) h=>J4 (w:=W) (B:=w1.heap.size) (v:=v) hlt (jW L++[124]) h);have hn0:((jW L++[124])++jW (R.take k)).length<=900000000:=(by simp;omega);generalize hK:(jW L++[124])++jW (R.take k)=K at hown hn0 HO;clear hcl hcell hK
     go_wp2_with (first
      |(go_at_call 169;refine(AppendInt_36 R[k] (by omega) _ _ _ _ _ hown (by omega) (by omega)).mono ?_;rintro e w4 ⟨v4,rfl,yJ,hk4,hb4⟩;have hx4:=kK hE hk4 (λx hx=>(hown.lt x hx).1);have EL:=hk4.size;obtain⟨a4,c4,rfl,hn4,Hg⟩:=bH yJ)
      |(at_builtin;refine dC rfl (.tmp 61) (.tmp 62) 38 rfl w1.heap.size 5 i0 (.int .u8 0) 1 1 underlying38 hi0 hz0 hz1 hz2 rfl (by decide) (.slice a4 (K.length+(z8 R[k]).length) c4) _ _ rfl (yJ.alloc _) _ 1 _ [.int .u8 44] rfl rfl (.inr ⟨_,rfl,dJ (dh _ _ _)⟩) one_cell (by unfold maxLen;have:=xz 4 R[k];unfold z8;omega) (by have:=xz 4 R[k];unfold z8;omega) (by rw[eQ];omega) ?_
        intro v5 w5 iT hg5 hl5;have hx5:Ext w1 w5:=dS (bS hx4 _) hg5 (λb hb=>(yJ.lt b hb).1);have c2':=(hx5.cell (lt_of_cell c2)).trans c2;have cb':=(hx5.cell (lt_of_cell cb)).trans cb))
     go_roundw
     case rel=>exact⟨k+1,by omega,by go_num,by rw[HB.out],HO.out _ _ iT,hx5⟩
     case measure=>simp[intOf];omega
    .have h1:¬(((k:Nat):Int)<((R.length:Nat):Int)):=by omega
     have hke:k=R.length:=(by omega);subst hke;simp only[dB]at hown ⊢;have hkey:(jW L++[124])++jW R=tX L R:=(by simp[tX]);rw[hkey]at hown;obtain⟨gk,ck,rfl,hgk,hcv⟩:=Uq hown (by simp[tX];omega);have VF:=ax hE1 hE;have RY:=hP.ext VF;obtain⟨f,hM,hf1,hf2⟩:=RY.find;have hkz:(tX L R).length<=900000000:=(by have:=sH L;have:=sH R;simp[tX];omega);obtain⟨kl,hkl⟩:=Ut (nu (tX L R)) (by unfold maxLen;simp only[nu,ByteArray.size,List.size_toArray,bD];omega);have hlk:=λ(W:World) (hW:W.heap[h]?=wr.heap[h]?)=>(hM.keep hW).look Dz underlying113 (EX W) hkl true
     have c3:=RY.c3;have HEL:=aQ hE;clear hown hE;cases M9:f (.string (nu (tX L R)))with
     |some v=>
      obtain⟨i,hi,e1,rfl⟩:=hf2 _ _ M9;have HE:=aQ e1;clear e1;simp only[M9,bW,Option.isSome_some,if_true]at hlk;go_upto_region 17 with fail
      refine bV (λW=>W.cell? ⟨pp,3,none⟩=some (.map (some h))/\(convert 38 9 (.slice (some ⟨gk,0,none⟩) (tX L R).length ck)).run prog W=.ok (.string (nu (tX L R))) W/\(Instr.lookup 113 (.map (some h)) (.string (nu (tX L R))) true).run prog W=.ok (.tuple #[.int .i64 (i:Int),.bool true]) W) [11] Js (by kernel_rfl) ⟨by kernel_rfl,by kernel_rfl,by kernel_rfl⟩ ⟨c3,hcv _ rfl,hlk _ rfl⟩ (λaz ah=>?_);(refine bT 0 az ah ?_;refine bT 1 az ah ?_;refine bT 2 az ah ?_;refine bT 3 az ah ?_;refine bT 4 az ah ?_;refine bT 5 az ah ?_;refine bT 6 az ah ?_;refine bT 7 az ah ?_;refine bT 8 az ah ?_;refine bT 9 az ah ?_;refine bT 10 az ah ?_);refine nU az [11] [_] ?_;go_wp2_with fail
      go_ret
      refine⟨s,i,rfl,jK.refl hP (ax VF (eU ⟨_,rfl⟩)),⟨?_,.inl rfl⟩,rfl⟩;have hw:=hP.good.wf i s.D[i] (aa hi);have e2:=Ur (a:=(L,R)) (b:=s.D[i]) (λx hx=>by rcases bq.1 hx with hx|hx;have:=hLm x hx;omega;have:=hRm x hx;omega) (λx hx=>by rcases bq.1 hx with hx|hx;have:=hw.1 x hx;omega;have:=hw.2 x hx;omega) HE.out;rw[aa hi,<-e2,<-hL,<-hR]
     |none=>
      simp only[M9,Option.getD_none,Option.isSome_none,if_true]at hlk;go_upto_region 17 with fail
      refine bV (λW=>W.cell? ⟨pp,3,none⟩=some (.map (some h))/\(convert 38 9 (.slice (some ⟨gk,0,none⟩) (tX L R).length ck)).run prog W=.ok (.string (nu (tX L R))) W/\(Instr.lookup 113 (.map (some h)) (.string (nu (tX L R))) true).run prog W=.ok (.tuple #[.int .i64 0,.bool false]) W) [11] Js (by kernel_rfl) ⟨by kernel_rfl,by kernel_rfl,by kernel_rfl⟩ ⟨c3,hcv _ rfl,hlk _ rfl⟩ (λaz ah=>?_);(refine bT 0 az ah ?_;refine bT 1 az ah ?_;refine bT 2 az ah ?_;refine bT 3 az ah ?_;refine bT 4 az ah ?_;refine bT 5 az ah ?_;refine bT 6 az ah ?_;refine bT 7 az ah ?_;refine bT 8 az ah ?_;refine bT 9 az ah ?_;refine bT 10 az ah ?_);refine nU az [11] [_] ?_;clear az ah hlk;have Vw:dz wr.drew pp h s:=RY.ext (eU ⟨1,rfl⟩);obtain⟨ab,cb,eb,hb1,hb2⟩:=bH Vw.born;obtain⟨xl,hxl,hil⟩:=Vw.left;obtain⟨xr,Ll,hir⟩:=Vw.right;obtain⟨al,cl,el,hl1,hl2⟩:=bH hxl;obtain⟨ar,cr,er,hr1,hr2⟩:=bH Ll;have c2:=Vw.c2;rw[eb]at c2;go_upto_region 21 with fail
      have acP:dz wr.drew.drew pp h s:=Vw.ext (eU ⟨1,rfl⟩);have c3':=acP.c3;refine bV (λW=>W.cell? ⟨pp,3,none⟩=some (.map (some h))/\(convert 38 9 (.slice (some ⟨gk,0,none⟩) (tX L R).length ck)).run prog W=.ok (.string (nu (tX L R))) W) [7] Tq (by kernel_rfl) ⟨by kernel_rfl,by kernel_rfl,by kernel_rfl⟩ ⟨c3',hcv _ rfl⟩ (λaz ah=>?_);(refine bT 0 az ah ?_;refine bT 1 az ah ?_;refine bT 2 az ah ?_;refine bT 3 az ah ?_;refine bT 4 az ah ?_;refine bT 5 az ah ?_;refine bT 6 az ah ?_);refine nU az [7] [_] ?_;clear az ah;have jF:=acP.box;rw[el,er,eb]at jF;have afp:(Value.slice al s.D.length cl).ownBlock≠some pp:=λe=>(hP.Eg pp (.inl (by rw[el];exact e))).1 rfl
      have ab0:(Value.slice ar s.D.length cr).ownBlock≠some pp:=λe=>(hP.Eg pp (.inr (.inl (by rw[er];exact e)))).1 rfl
      have acA:(Value.slice ab s.D.length cb).ownBlock≠some pp:=λe=>(hP.Eg pp (.inr (.inr (by rw[eb];exact e)))).1 rfl
      have hlr:∀b,(Value.slice ar s.D.length cr).ownBlock=some b->(Value.slice al s.D.length cl).ownBlock≠some b:=λb h1 h2=>(hP.ap3 b (by rw[el];exact h2)).1 (by rw[er];exact h1)
      have hlb:∀b,(Value.slice ab s.D.length cb).ownBlock=some b->(Value.slice al s.D.length cl).ownBlock≠some b:=λb h1 h2=>(hP.ap3 b (by rw[el];exact h2)).2 (by rw[eb];exact h1)
      have hrb:∀b,(Value.slice ab s.D.length cb).ownBlock=some b->(Value.slice ar s.D.length cr).ownBlock≠some b:=λb h1 h2=>hP.ap4 b (by rw[er];exact h2) (by rw[eb];exact h1)
      have aeO:wr.drew.drew.ownsRow 0 80 1 (.slice al s.D.length cl) s.D.length xl:=(by rw[<-el];exact hxl);have aeL:wr.drew.drew.ownsRow 0 80 1 (.slice ar s.D.length cr) s.D.length xr:=(by rw[<-er];exact Ll);have ai2:wr.drew.drew.ownsRow 0 3 1 (.slice ab s.D.length cb) s.D.length ((s.D.mapIdx λi _=>(bO.born (vl s.D i):Int)).map (Value.int .i64)):=(by rw[<-eb];exact acP.born);have hM2:gz prog 9 wr.drew.drew h s.D.length f:=hM.keep rfl;have Vf:∀b,(Value.slice al s.D.length cl).ownBlock=some b\/(Value.slice ar s.D.length cr).ownBlock=some b\/(Value.slice ab s.D.length cb).ownBlock=some b->b≠h:=λb hb=>by
       have:=(hP.Eg b (by rw[el,er,eb];exact hb)).2;omega
      have ajr:pp≠h:=(by have:=hP.ZM;omega);have FI:=aQ (And.intro hil hir);have FE:=aQ (And.intro el (And.intro er eb));have HFK:=aQ M9;clear hil hir M9 eb el er RY Vw hM;obtain⟨iS,hiS,zS0,zS1,zS2⟩:=info_parts QJ;obtain⟨iI,hiI,zI0,zI1,zI2⟩:=info_parts iw
      go_wp2_with (first
       |(at_mapUpdate;refine iK rfl _ _ _ 113 rfl 9 3 Dz underlying113 h s.D.length f rfl hM2 (by unfold maxLen;omega) _ _ rfl rfl ⟨kl,hkl⟩ ?_
         intro w21 akF Ve;have acE:w21.heap[pp]?=_:=((gJ Ve).block pp (bu jF) ajr).trans jF;obtain⟨p1,q1,r1⟩:=xy acE;have d10:=q1 0 _ rfl;have e10:=r1 0;have aeN:=bI aeO (gJ Ve) (λb hb=>Vf b (.inl hb));have aeK:=bI aeL (gJ Ve) (λb hb=>Vf b (.inr (.inl hb)));have aeP:=bI ai2 (gJ Ve) (λb hb=>Vf b (.inr (.inr hb)));clear q1 r1)
       |(at_builtin;refine dC rfl (.tmp 103) (.tmp 105) 137 rfl 0 80 iS (.slice none 0 0) 1 24 underlying137 hiS zS0 zS1 zS2 rfl (by decide) (.slice al s.D.length cl) s.D.length xl rfl (aeN.alloc _) _ 1 _ [.slice aL L.length cL] rfl rfl (.inr ⟨_,rfl,dJ (dh _ _ _)⟩) CX (by unfold maxLen;omega) (by omega) (aJ _) ?_
         intro v2 w2 ho2 hg2 hl2;have hb2:=(sS (j:=0) acE afp hg2 ho2 hl2).1;obtain⟨p2,q2,r2⟩:=xy (CK acE hg2 afp);have d20:=q2 0 _ rfl;have d21:=q2 1 _ rfl;have e20:=r2 0;have QL:=GD aeK hg2 hlr;have ai1:=GD aeP hg2 hlb;obtain⟨a2,k2,rfl,_,_⟩:=bH ho2;clear q2 r2)
       |(at_builtin;refine dC rfl (.tmp 113) (.tmp 115) 137 rfl 0 80 iS (.slice none 0 0) 1 24 underlying137 hiS zS0 zS1 zS2 rfl (by decide) (.slice ar s.D.length cr) s.D.length xr rfl ((ownsRow_setCell_other QL ab0 _).alloc _) _ 1 _ [.slice aR R.length cR] rfl rfl (.inr ⟨_,rfl,dJ (tO _ _ _ _ _)⟩) CX (by unfold maxLen;omega) (by omega) (aJ _) ?_
         intro v3 w3 ho3 hg3 hl3;have hb3:=(sS (j:=1) hb2 ab0 hg3 ho3 hl3).1;obtain⟨p3,q3,r3⟩:=xy (CK hb2 hg3 ab0);have d31:=q3 1 _ rfl;have d32:=q3 2 _ rfl;have e31:=r3 1;have ai0:=GD (ownsRow_setCell_other ai1 (a:=⟨pp,0,none⟩) acA _) hg3 hrb;obtain⟨a3,k3,rfl,_,_⟩:=bH ho3;clear q3 r3)
       |(at_builtin;refine dC rfl (.tmp 123) (.tmp 125) 80 rfl 0 3 iI (.int .i64 0) 1 8 underlying80 hiI zI0 zI1 zI2 rfl (by decide) (.slice ab s.D.length cb) s.D.length _ rfl ((ownsRow_setCell_other ai0 acA _).alloc _) _ 1 _ [.int .i64 (fM s.D (L++R))] rfl rfl (.inr ⟨_,rfl,dJ (tO _ _ _ _ _)⟩) one_cell (by unfold maxLen;omega) (by omega) (aJ _) ?_
         intro v4 w4 yJ hg4 hl4;obtain⟨p4,q4,r4⟩:=xy (CK hb3 hg4 acA);have d42:=q4 2 _ rfl;have e42:=r4 2;obtain⟨a4,k4,rfl,_,_⟩:=bH yJ;clear q4 r4))
      go_ret
      subst hL hR;have Zl:Ext w wr.drew.drew:=ax VF (eU ⟨2,rfl⟩);have ac1:Ext w1 wr.drew.drew:=ax HEL.out (eU ⟨2,rfl⟩);have hz1':=ac1.size;have e1:=FE.out.1;have e2:=FE.out.2.1;have e3:=FE.out.2.2
      exact Ua hP Zl hD hl hr (hLI.ext ac1) (hRI.ext ac1) (λb hb=>⟨(FL.out b hb).1,bz (FL.out b hb).2 hz1'⟩) (λb hb=>⟨(FR.out b hb).1,bz (FR.out b hb).2 hz1'⟩) hf1 hf2 HFK.out akF Ve
       (by rw[e1];exact aeO) FI.out.1 (by rw[e2];exact aeL) FI.out.2 (by rw[e1];exact hg2) ho2 (by rw[e1];exact hl2) (by rw[e2];exact hg3) ho3 (by rw[e2];exact hl3) (by rw[e3];exact hg4) yJ (by rw[e3];exact hl4)
end
section
open Go.RowKit
open bO (dH Nd Gm vl Same plus)
variable {G:Nat->Prop} {a b N pp h n i:Nat} {w w' wr w2 wa:World} {s s' s0:iH} {lv rv:Value} {L R:List Nat} {gs:List Gm} {D' D:dH}
theorem YF{F:Nat->Prop}{a b:World}(h:dX F a b)(k:∀x,F x->G x):dX G a b:=⟨h.os,h.tape,h.output,h.size,λb hb hn=>h.block b hb λc=>hn (k b c)⟩
def SMap(w:World)(h:Nat)(s:iH):Prop:=∃n f,gz prog 183 w (h+1+1+1) n f/\∀k v,f k=some v->∃a b j:Nat,k=.agg #[.int .i64 (a:Int),.int .i64 (b:Int)]/\v=.int .i64 (j:Int)/\a<s.D.length/\b<s.D.length/\j<s.D.length/\Same (vl s.D j) (plus (vl s.D a) (vl s.D b))
def ag2(N:Nat)(D:dH):Prop:=∀i,N<=i->i<D.length->∃a b,a<N/\b<N/\Same (vl D i) (plus (vl D a) (vl D b))
structure Ch(w:World)(pp h N:Nat)(s:iH):Prop where
 pool:dz w pp h s
 map:SMap w h s
 le:N<=s.D.length
 sums:ag2 N s.D
theorem Yq{a' b':Nat}(hb:b<N)(hb':b'<N)(e:b+a*N=b'+a'*N):a=a'/\b=b':=by
 have hN:0<N:=by omega
 have e1:(b+a*N) / N=a:=by rw[Nat.add_mul_div_right _ _ hN,Nat.div_eq_of_lt hb,jf]
 have e2:(b'+a'*N) / N=a':=by rw[Nat.add_mul_div_right _ _ hN,Nat.div_eq_of_lt hb',jf]
 have:a=a':=by rw[<-e1,<-e2,e]
 subst this;exact⟨rfl,by omega⟩
theorem TN(ha:a<N)(hb:b<N):b+a*N<N*N:=by
 have:=gZ N (show a+1<=N by omega);rw[kS]at this;omega
theorem Ch.small(k:Ch w pp h N s):s.D.length<=N+N*N:=by
 have g:=k.pool.good;have:=Ib (n:=s.D.length) (at_:=List.range (N+N*N)) (R:=λi j=>(i<N/\j=i)\/∃a b,a<N/\b<N/\j=N+(b+a*N)/\Same (vl s.D i) (plus (vl s.D a) (vl s.D b))) (λi hi=>by
  rcases fI i N with c|c
  .exact⟨i,dM.2 (by omega),.inl ⟨c,rfl⟩⟩
  .obtain⟨a,b,ha,hb,hs⟩:=k.sums i c hi
   exact⟨N+(b+a*N),dM.2 (by have:=TN ha hb;omega),.inr ⟨a,b,ha,hb,rfl,hs⟩⟩) (λi i' j hi hi' h1 h2=>by
  rcases h1 with⟨a,b⟩|⟨a,b,ha,hb,e,c⟩ <;> rcases h2 with⟨a',b'⟩|⟨a',b',ha',hb',e',c'⟩
  .omega
  .omega
  .omega
  .obtain⟨rfl,rfl⟩:=Yq hb hb' (show b+a*N=b'+a'*N by omega)
   exact bO.mO g i i' hi hi' (bO.gU c (bO.jH c')))
 simpa using this
theorem SY(hP:dz w pp h s):¬jN pp h s (h+1+1+1):=by
 rintro(c|c|c|c|c)
 .have:=hP.ZM;omega
 .omega
 .have:=(hP.Eg _ (.inl c)).2;omega
 .have:=(hP.Eg _ (.inr (.inl c))).2;omega
 .have:=(hP.Eg _ (.inr (.inr c))).2;omega
structure Bb(pp h:Nat)(s:iH)(w:World)(s':iH)(w':World):Prop where
 pool:dz w' pp h s'
 keep:dX (λb=>jN pp h s b\/b=h+1+1+1) w w'
 own:∀b,jN pp h s' b->jN pp h s b\/w.heap.size<=b
 old:∀b,s.S b->s'.S b
 lists:∀b,s'.S b->s.S b\/w.heap.size<=b
 more:∃E,s'.D=s.D++E
theorem jK.sm(k:jK pp h s w s' w'):Bb pp h s w s' w':=⟨k.pool,YF k.keep λ_ h=>.inl h,k.own,k.old,k.lists,k.more⟩
theorem Bb.trans{w1 w2 w3:World}{pp h:Nat}{s1 s2 s3:iH}(k:Bb pp h s1 w1 s2 w2)(m:Bb pp h s2 w2 s3 w3):Bb pp h s1 w1 s3 w3:=by
 have hz:=k.keep.size;refine⟨m.pool,k.keep.trans m.keep (λx hx hi=>by
  rcases hi with hi|hi
  .rcases k.own x hi with h|h
   .exact .inl h
   .omega
  .exact .inr hi),λx hx=>?_,λb hb=>m.old b (k.old b hb),λx hx=>?_,?_⟩
 .rcases m.own x hx with h1|h1
  .exact k.own x h1
  .exact .inr (by omega)
 .rcases m.lists x hx with h1|h1
  .exact k.lists x h1
  .exact .inr (by omega)
 .obtain⟨E,h1⟩:=k.more
  obtain⟨E',h2⟩:=m.more;exact⟨E++E',by rw[h2,h1,dA]⟩
theorem Bb.len(k:Bb pp h s w s' w'):s.D.length<=s'.D.length:=by obtain⟨E,h⟩:=k.more;rw[h];simp
theorem Bb.vl{w w':World}{pp h:Nat}{s s':iH}(k:Bb pp h s w s' w')(hw:bO.WF s.D){i:Nat}(hi:i<s.D.length):vl s'.D i=vl s.D i:=by
 obtain⟨E,h⟩:=k.more;have hg:=k.pool.good.wf;rw[h]at hg ⊢;exact bO.ik hw hg i hi
theorem Bb.sup{A:World->Prop}(a:nN s0.S A w)(k:Bb pp h s w s' w')(hP:dz w pp h s)(ho:∀b,s0.S b->s.S b):nN s0.S A w':=
 a.keep k.keep λb hb=>by
  rintro(c|c)
  .exact hP.ap5 b (ho b hb) c
  .have:=hP.ap6 b (ho b hb);omega
theorem SMap.go(m:SMap w h s)(hP:dz w pp h s)(k:jK pp h s w s' w'):SMap w' h s':=by
 obtain⟨n,f,h1,h2⟩:=m;refine⟨n,f,h1.keep (k.keep.block _ h1.lt (SY hP)),λq v hv=>?_⟩;obtain⟨a,b,j,e1,e2,ha,hb,hj,hs⟩:=h2 q v hv;have:=k.len;exact⟨a,b,j,e1,e2,by omega,by omega,by omega,by rw[k.vl hP.good.wf ha,k.vl hP.good.wf hb,k.vl hP.good.wf hj];exact hs⟩
theorem Ch.ext{w w':World}{pp h N:Nat}{s:iH}(k:Ch w pp h N s)(hx:Ext w w'):Ch w' pp h N s:=
 ⟨k.pool.ext hx,k.map.go k.pool (jK.refl k.pool hx),k.le,k.sums⟩
structure kY(pp h:Nat)(s:iH)(w wr:World)(lv rv:Value)(L R:List Nat):Prop where
 l:wr.ownsRow w.heap.size 3 1 lv L.length ((dD L).map (Value.int .i64))
 r:wr.ownsRow w.heap.size 3 1 rv R.length ((dD R).map (Value.int .i64))
 ap:∀b,lv.ownBlock=some b->rv.ownBlock≠some b
 wh:LJ pp h s wr (λb=>lv.ownBlock=some b\/rv.ownBlock=some b)
theorem kY.swap(m:kY pp h s w wr lv rv L R):kY pp h s w wr rv lv R L:=
 ⟨m.r,m.l,λb h1 h2=>m.ap b h2 h1,λb hb=>m.wh b (hb.symm)⟩
theorem kY.keep(m:kY pp h s w wr lv rv L R)(hk:dX G wr w2)(hG:∀b,lv.ownBlock=some b\/rv.ownBlock=some b->¬G b)
 (hc:LJ pp h s' w2 (λb=>lv.ownBlock=some b\/rv.ownBlock=some b)):kY pp h s' w w2 lv rv L R:=
 ⟨bI m.l hk (λb hb=>hG b (.inl hb)),bI m.r hk (λb hb=>hG b (.inr hb)),m.ap,hc⟩
theorem kY.ext{pp h:Nat}{s:iH}{w wr w2:World}{lv rv:Value}{L R:List Nat}(m:kY pp h s w wr lv rv L R)(hx:Ext wr w2):kY pp h s w w2 lv rv L R:=
 m.keep (fq (F:=λ_=>False) hx) (λ_ _=>id) (m.wh.ext hx)
theorem kY.lo(m:kY pp h s w wr lv rv L R)(hb:lv.ownBlock=some b\/rv.ownBlock=some b):w.heap.size<=b:=by
 rcases hb with hb|hb
 .exact(m.l.lt b hb).1
 .exact(m.r.lt b hb).1
theorem kY.go(m:kY pp h s w wr lv rv L R)(hh:h+1+1+1<w.heap.size)(g:Bb pp h s wr s' w2):kY pp h s' w w2 lv rv L R:=by
 have hz:=g.keep.size;refine m.keep g.keep (λb hb=>?_) (λb hb=>?_)
 .rintro(c|c)
  .exact(m.wh b hb).2.1 c
  .have:=m.lo hb;omega
 .obtain⟨c1,c2,c3⟩:=m.wh b hb
  refine⟨by omega,λc=>?_,λc=>?_⟩
  .rcases g.own b c with c|c
   .exact c2 c
   .omega
  .rcases g.lists b c with c|c
   .exact c3 c
   .omega
theorem kY.push{Yx:Value}{news:List Nat}{ys:List Value}(m:kY pp h s w wr lv rv L R)(hP:dz wr pp h s)(hx:Ext wr wa)(hg:wa.grownBy w2 lv.ownBlock)
 (ho:w2.ownsRow w.heap.size 3 1 Yx n ys) (hn:n=(L++news).length) (hy:ys=(dD (L++news)).map (Value.int .i64)) (hl:kR wa lv Yx):kY pp h s w w2 Yx rv (L++news) R:=by
 have hz:=hx.size;have hz2:=hg.size;have hL:∀b,Yx.ownBlock=some b->lv.ownBlock=some b\/wr.heap.size<=b:=λb hb=>by
  rcases hl with e|⟨g,e,k⟩
  .exact .inl (e ▸ hb)
  .rw[e]at hb;injection hb with hb;exact .inr (by omega)
 have m1:=m.ext hx;have hkg:=fH hg;have hcm:=m.wh;refine⟨GL ho hn hy,bI m1.r hkg (λb hb hq=>m.ap b hq hb),λb hb hc=>?_,λb hb=>?_⟩
 .rcases hL b hb with h1|h1
  .exact m.ap b h1 hc
  .have:=(hcm b (.inr hc)).1;omega
 .have hlt:=ho.lt
  rcases hb with hb|hb
  .refine⟨(hlt b hb).2,?_⟩
   rcases hL b hb with h1|h1
   .exact(hcm b (.inl h1)).2
   .exact hP.new h1
  .have:=hcm b (.inr hb);exact⟨by omega,this.2⟩
theorem kY.side(m:kY pp h s w wr lv rv L R)(g:Bb pp h s0 w s wr)(hx:Ext wr wa)(hg:wa.grownBy w2 lv.ownBlock):Bb pp h s0 w s w2:=by
 have hkg:=fH hg;have hz:=hx.size;have hP:=g.pool.ext hx;refine⟨hP.keep hkg (λb hb hc=>(m.wh b (.inl hc)).2.1 hb) (λb hb hc=>(m.wh b (.inl hc)).2.2 hb),?_,g.own,g.old,g.lists,g.more⟩;have k1:=(g.keep.trans (fq (F:=λ_=>False) hx) (λ_ _ h=>h.elim)).trans hkg (G:=λb=>lv.ownBlock=some b) (λx hx hc=>by have:=m.lo (.inl hc);omega);exact k1
theorem Ch.side(k:Ch wr pp h N s)(m:kY pp h s w wr lv rv L R)(hh:h+1+1+1<w.heap.size)(hx:Ext wr wa)(hg:wa.grownBy w2 lv.ownBlock):Ch w2 pp h N s:=by
 have hkg:=fH hg;have k1:=k.ext hx;refine⟨k1.pool.keep hkg (λb hb hc=>(m.wh b (.inl hc)).2.1 hb) (λb hb hc=>(m.wh b (.inl hc)).2.2 hb),?_,k.le,k.sums⟩;obtain⟨n,f,h1,h2⟩:=k1.map;exact⟨n,f,h1.keep (hkg.block _ h1.lt (λhc=>by have:=m.lo (.inl hc);omega)),h2⟩
structure oC(D':dH)(gs:List Gm)(L:List Nat):Prop where
 len:L.length=gs.length
 at_:∀j (h:j<L.length) (h':j<gs.length),L[j]<D'.length/\Same (vl D' L[j]) gs[j]
theorem oC.nil(D':dH):oC D' [] []:=⟨rfl,λj h=>absurd h (by simp)⟩
theorem oC.go(n:oC s.D gs L)(hw:bO.WF s.D)(g:Bb pp h s w s' w'):oC s'.D gs L:=by
 refine⟨n.len,λj h h'=>?_⟩;obtain⟨h1,h2⟩:=n.at_ j h h';have:=g.len;exact⟨by omega,by rw[g.vl hw h1];exact h2⟩
theorem oC.next{g:Gm}(n:oC D' gs L)(hi:i<D'.length)(hs:Same (vl D' i) g):oC D' (gs++[g]) (L++[i]):=by
 refine⟨by simp[n.len],λj h h'=>?_⟩;have hl:=n.len;by_cases c:j<L.length
 .rw[dw c,dw (by omega)];exact n.at_ j c (by omega)
 .have e:j=L.length:=by simp at h;omega
  subst e;rw[dU (by omega),dU (by omega)];simp only[List.getElem_singleton];exact⟨hi,hs⟩
theorem oC.lt(n:oC D' gs L):∀x,x∈L->x<D'.length:=λx hx=>by
 obtain⟨j,hj,rfl⟩:=aW.1 hx;exact(n.at_ j hj (by have:=n.len;omega)).1
theorem TR{gl gr:List Gm}(hD:bO.WF D)(hD':bO.WF D')(hl:oC D gl L)(hr:oC D gr R)(p:jm D L R D' i):Same (vl D' i) (.mk gl gr):=by
 rw[bO.nT hD' p.1,bO.same_iff];have hll:=hl.len;have hrl:=hr.len;simp only[Gm.l,Gm.r];refine⟨λx hx=>?_,λy hy=>?_,λx hx=>?_,λy hy=>?_⟩
 .obtain⟨k,hk,rfl⟩:=aH.1 hx
  obtain⟨j,hj,rfl⟩:=aW.1 (bZ.1 hk);obtain⟨h1,h2⟩:=hl.at_ j hj (by omega);exact⟨_,ai (show j<gl.length by omega),by rw[p.vl hD hD' h1];exact h2⟩
 .obtain⟨j,hj,rfl⟩:=aW.1 hy
  obtain⟨h1,h2⟩:=hl.at_ j (by omega) hj;exact⟨_,bE (bZ.2 (ai (show j<L.length by omega))),by rw[p.vl hD hD' h1];exact h2⟩
 .obtain⟨k,hk,rfl⟩:=aH.1 hx
  obtain⟨j,hj,rfl⟩:=aW.1 (bZ.1 hk);obtain⟨h1,h2⟩:=hr.at_ j hj (by omega);exact⟨_,ai (show j<gr.length by omega),by rw[p.vl hD hD' h1];exact h2⟩
 .obtain⟨j,hj,rfl⟩:=aW.1 hy
  obtain⟨h1,h2⟩:=hr.at_ j (by omega) hj;exact⟨_,bE (bZ.2 (ai (show j<R.length by omega))),by rw[p.vl hD hD' h1];exact h2⟩
theorem abu(h:bO.WF D)(ha:a<D.length)(hb:b<D.length):plus (vl D a) (vl D b)=.mk (((D[a]).1.map λx=>plus (vl D x) (vl D b))++(D[b]).1.map λx=>plus (vl D a) (vl D x)) (((D[a]).2.map λx=>plus (vl D x) (vl D b))++(D[b]).2.map λx=>plus (vl D a) (vl D x)):=by
 rw[bO.GJ,bO.ow h (aa ha),bO.ou h (aa ha),bO.ow h (aa hb),bO.ou h (aa hb)];simp only[gM];rfl
theorem Ch.put(k:Ch w pp h N s)(g:jK pp h s w s' w')(p:jm s.D L R s'.D i)(ha:a<N)(hb:b<N)(hs:Same (vl s'.D i) (plus (vl s.D a) (vl s.D b))):Ch w' pp h N s':=by
 have hl:=g.len;have hle:=k.le;have hw:=k.pool.good.wf;refine⟨g.pool,k.map.go k.pool g,by omega,λx hx hlt=>?_⟩;rcases fI x s.D.length with c|c
 .obtain⟨a',b',ha',hb',hb2⟩:=k.sums x hx c
  exact⟨a',b',ha',hb',by rw[g.vl hw c,g.vl hw (show a'<s.D.length by omega),g.vl hw (show b'<s.D.length by omega)];exact hb2⟩
 .have hxi:x=i:=by
   obtain⟨p1,p2⟩:=p;rcases p2 with e|e
   .rw[e]at hlt;omega
   .have hx':x=s.D.length:=by rw[e]at hlt;simp at hlt;omega
    have h1:s'.D[x]?=some (bQ L,bQ R):=(by rw[e,hx',dW (ay _)];simp);exact(List.getElem?_inj (by rw[hx',e];simp) g.pool.good.nodup).1 (h1.trans p1.symm)
  subst hxi;exact⟨a,b,ha,hb,by rw[g.vl hw (show a<s.D.length by omega),g.vl hw (show b<s.D.length by omega)];exact hs⟩
theorem Ch.store{w1:World}{f:Value->Option Value}(k:Ch w pp h N s)(hx:Ext w w1)(hf:∀k v,f k=some v->∃a b j:Nat,k=.agg #[.int .i64 (a:Int),.int .i64 (b:Int)]/\v=.int .i64 (j:Int)/\a<s.D.length/\b<s.D.length/\j<s.D.length/\Same (vl s.D j) (plus (vl s.D a) (vl s.D b)))
 (hM:gz prog 183 w' (h+1+1+1) n (upd (λ_ _=>Classical.propDecidable _) f (.agg #[.int .i64 (a:Int),.int .i64 (b:Int)]) (.int .i64 (i:Int)))) (hg:w1.grownBy w' (some (h+1+1+1))) (ha:a<s.D.length) (hb:b<s.D.length) (hi:i<s.D.length) (hs:Same (vl s.D i) (plus (vl s.D a) (vl s.D b))):Ch w' pp h N s/\Bb pp h s w s w':=by
 have kk:=gJ hg;have k1:=(k.ext hx).pool;have hP:dz w' pp h s:=k1.keep kk (λb hb c=>by subst c;exact SY k1 hb) (λb hb c=>by have:=k1.ap6 b hb;omega);refine⟨⟨hP,⟨n,_,hM,λq v hv=>?_⟩,k.le,k.sums⟩,⟨hP,?_,λ_ h=>.inl h,λ_ h=>h,λ_ h=>.inl h,⟨[],by simp⟩⟩⟩
 .rcases wK hv with⟨rfl,rfl⟩|hv
  .exact⟨a,b,i,rfl,rfl,ha,hb,hi,hs⟩
  .exact hf q v hv
 .exact(fq (F:=λb=>jN pp h s b\/b=h+1+1+1) hx).trans kk (λx _ c=>.inr c)
theorem Ch.OB(k:Ch w pp h N s):∃f,gz prog 183 w (h+1+1+1) 810000000000 f/\∀k v,f k=some v->∃a b j:Nat,k=.agg #[.int .i64 (a:Int),.int .i64 (b:Int)]/\v=.int .i64 (j:Int)/\a<s.D.length/\b<s.D.length/\j<s.D.length/\Same (vl s.D j) (plus (vl s.D a) (vl s.D b)):=by
 obtain⟨n,f,h1,h2⟩:=k.map;refine⟨f,(h1.room ((List.range s.D.length).flatMap λ(a:Nat)=>(List.range s.D.length).map λ(b:Nat)=>.agg #[.int .i64 (a:Int),.int .i64 (b:Int)]) λkey v hv=>?_).mono ?_,h2⟩
 .obtain⟨a,b,j,rfl,_,ha,hb,_⟩:=h2 key v hv
  exact List.mem_flatMap.2 ⟨a,dM.2 ha,aH.2 ⟨b,dM.2 hb,rfl⟩⟩
 .have e:∀l:List Nat,(l.flatMap λ(a:Nat)=>(List.range s.D.length).map λ(b:Nat)=>Value.agg #[.int .i64 (a:Int),.int .i64 (b:Int)]).length=l.length*s.D.length:=by
   intro l
   induction l with
   |nil=>simp
   |cons x l ih=>rw[ji,aK,ih,bD,rR,fQ,kS];omega
  rw[e,rR];exact gu k.pool.small k.pool.small
theorem dz.c6(k:dz w pp h s):w.cell? ⟨pp,6,none⟩=some (.map (some (h+1+1+1))):=cell_of_row w pp 6 _ _ _ k.box
end
end Go.Proofs.YteknjeohbcgpdaaGreatDoor