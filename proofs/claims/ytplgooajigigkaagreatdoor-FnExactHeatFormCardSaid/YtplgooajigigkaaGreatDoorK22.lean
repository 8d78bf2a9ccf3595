/- 22 -/
import Derived.Test.YtplgooajigigkaaGreatDoorK20
set_option maxRecDepth 100000
set_option maxHeartbeats 4000000
namespace Go.Proofs.YtplgooajigigkaaGreatDoor
open Tryz
section
open Go.RowKit
open bE (dh Nd vl Same)
variable {w:World} {B n k:Nat} {v:Value} {l:List Nat}
theorem Wt(w:World)(B c:Nat)(hB:B<=w.heap.size)(hc:c<=maxLen):(w.alloc (.cells (madeCells #[Value.int .u8 0] c) 5)).ownsRow B 5 1 (.slice (some ⟨w.heap.size,0,none⟩) 0 c) 0 (yK (lN [])):=
 ⟨by simp[yK,lN],.inr ⟨w.heap.size,c,madeCells #[Value.int .u8 0] c,rfl,hB,eu w _,aU _,hc,by rw[size_madeCells];simp,by simp[yK,lN]⟩⟩
theorem zq:∀k n,(Am k n).length<=k
 | 0,n=>by simp[Am]
 |k+1,n=>by
  rw[Am];split
  .simp
  .have:=zq k (n / 36);simp;omega
theorem vF:∀l:List Nat,(lN l).length<=5*l.length
 |[]=>by simp[lN]
 |i :: l=>by
  have:=vF l;have h:(BQ i).length<=4:=zq 4 i;unfold lN at this ⊢;rw[jZ,bu,bu];simp only[gI,qw];omega
theorem Ld{e m:Nat}{xs ys:List Value}(h:w.ownsRow B e 1 v n xs)(hn:n=m)(hx:xs=ys):w.ownsRow B e 1 v m ys:=by subst hn;subst hx;exact h
theorem LG(hk:k<l.length):lN (l.take (k+1))=lN (l.take k)++(BQ l[k]++[44]):=by
 rw[bJ hk,SX]
theorem LH(hk:k<l.length)(p:List Nat)(h:w.ownsRow B 5 1 v ((p++lN (l.take k)).length+(BQ l[k]).length+1) (yK (p++lN (l.take k))++yK (BQ l[k])++[.int .u8 44])):
 w.ownsRow B 5 1 v (p++lN (l.take (k+1))).length (yK (p++lN (l.take (k+1)))):=by
 refine Ld h ?_ ?_
 .rw[LG hk];simp;omega
 .rw[LG hk];simp[yK]
theorem Wu{W:World}{key:List Nat}(h:W.ownsRow B 5 1 v key.length (yK key))(hk:0<key.length):
 ∃g cap,v=.slice (some ⟨g,0,none⟩) key.length cap/\g<W.heap.size/\∀W',W'.heap[g]?=W.heap[g]?->(convert 39 9 (.slice (some ⟨g,0,none⟩) key.length cap)).run prog W'=.ok (.string (pK key)) W':=by
 obtain⟨g,cap,e,_,_,hc⟩:=iy h hk;have hc0:=hc 0 (by omega);rw[yK,ek,af hk]at hc0;refine⟨g,cap,e,lt_of_cell hc0,λW' hW=>?_⟩;have:=run_convert_bytes_arg (P:=prog) W' 39 5 underlying39 underlying5 g 0 key.length cap (dB key) (by rw[bG]) (λi hi=>by
  rw[mP (w:=W) hW,fI,hc i (by omega),yK,ek,af hi];simp[List.getD,dB,hi]) 9 underlying9
 rw[this];have e2:strOfNums (dB key)=pK key:=by
  unfold strOfNums pK dB;rw[jg];rfl
 rw[e2]
theorem Kq(w:World):(zeroValue 3).run prog w=.ok (.int .i64 0) w:=by kernel_rfl
theorem Ta:(prog.info? 41).map (λi=>(i.zero,i.size,i.bytes))=some (some (.slice none 0 0),1,24):=by kernel_rfl
theorem Ey{a:Option Addr}{c:Nat}:∀u∈([Value.slice a n c]:List Value),u.oneCell'=true:=by
 intro u hu;simp at hu;subst hu;rfl
def KX:List Row:=[⟨0,[],77,[0]⟩,⟨1,[0],78,[76]⟩,⟨2,[1],79,[77]⟩,⟨3,[2],80,[78]⟩,⟨4,[],81,[7]⟩,⟨5,[4],82,[80]⟩,⟨6,[3,5],83,[79,81]⟩,⟨7,[6],76,[82]⟩,⟨8,[7],84,[75]⟩,⟨9,[7],85,[75]⟩,⟨10,[8,0,1,2,3,4,5,6,7,8],14,[83]⟩,⟨11,[9,10,0,1,2,3,4,5,6,7,8,9,10],15,[84]⟩]
def Vr:List Row:=[⟨0,[],93,[0]⟩,⟨1,[0],94,[92]⟩,⟨2,[1],95,[93]⟩,⟨3,[2],96,[94]⟩,⟨4,[],97,[7]⟩,⟨5,[4],98,[96]⟩,⟨6,[],99,[15]⟩,⟨7,[3,5,6,0,1,2,3,4,5,6],0,[95,97,98]⟩]
theorem qW(pp h:Nat)(s:jF)(vl_ vr_:Value)(l r:List Nat)(w:World)(hP:dA w pp h s)(hD:s.D.length+1<=900000)(hl:∀x,x∈l->x<s.D.length)(hr:∀x,x∈r->x<s.D.length)
 (hln:l.length<=1000000) (hrn:r.length<=1000000) (hvl:Ints w vl_ (dB l)) (hvr:Ints w vr_ (dB r)):
 Calls prog 125 #[.pointer (some ⟨pp,0,none⟩),vl_,vr_] w (IX pp h s l r w):=by
 obtain⟨i0,hi0,hz0,hz1,hz2⟩:=info_parts QY;obtain⟨la,lc,rfl,-⟩:=id hvl;obtain⟨ra,rc,rfl,-⟩:=id hvr;go_enter Tryz.func125,Tryz.ntmps125
 have asG:Ext w w:=gz _ _;go_upto_region 2 with(go_at_call 172;refine(JN _ _ _ (by first|exact hvl|exact hvr.ext hx1) (by rw[bG];omega)).mono ?_;rintro e w1 ⟨v1,rfl,hL1,hx1⟩;rw[Ya]at hL1)
 rename_i w0 v0 hL0 hx0 K1 a1;have hE1:=ah hx0 hx1;obtain⟨aL,cL,rfl,hcL,_⟩:=bT hL0;obtain⟨aR,cR,rfl,hcR,_⟩:=bT hL1;simp only[bG]at *;have hsl:=sw l;have hsr:=sw r;have hmk:=λw:World=>run_make (P:=prog) w 39 5 i0 (.int .u8 0) underlying39 hi0 hz0 .i64 .i64 (0:Int) (4*(((bO l).length:Int)+((bO r).length:Int))+1) (by omega) (by omega) (by rw[hz2];omega) (by omega)
 simp only[hz1,kT]at hmk;go_upto_region 3 with fail
 clear hmk;have hK0:=Wt w1 w1.heap.size (4*((bO l).length+(bO r).length)+1) (aJ _) (by unfold maxLen;omega);have hx3:Ext w1 (w1.alloc (.cells (madeCells #[Value.int .u8 0] (4*((bO l).length+(bO r).length)+1)) 5)):=by go_grown
 generalize w1.alloc (.cells (madeCells #[Value.int .u8 0] (4*((bO l).length+(bO r).length)+1)) 5)=W3 at *;have hLI:=(Ints.gm hL0 (by rw[bG];omega)).ext hx1;have hRI:=Ints.gm hL1 (by rw[bG];omega);have fL:∀b,(Value.slice aL (bO l).length cL).ownBlock=some b->w.heap.size<=b/\b<w1.heap.size:=λb hb=>by have:=hL0.lt b hb;have:=hx1.size;omega
 have fR:∀b,(Value.slice aR (bO r).length cR).ownBlock=some b->w.heap.size<=b/\b<w1.heap.size:=λb hb=>by have:=hL1.lt b hb;have:=hx0.size;omega
 have hLm:∀x,x∈bO l->x<s.D.length:=λx hx=>hl x (cz.1 hx)
 have hRm:∀x,x∈bO r->x<s.D.length:=λx hx=>hr x (cz.1 hx)
 have FL:=aW fL;have FR:=aW fR;clear hL0 hL1 fL fR hx1 hx0;generalize hL:bO l=L at *;generalize hR:bO r=R at *;go_wp2
 go_loopw [7,8,10,30] (λkv bn _ ii wr=>∃k:Nat,k<=L.length/\ii=.int .i64 (k:Int)/\bn=.int .i64 (ig s.D (L.take k))/\wr.ownsRow w1.heap.size 5 1 kv ([]++lN (L.take k)).length (yK ([]++lN (L.take k)))/\Ext w1 wr) (λ_ _ _ ii _=>L.length-(intOf ii).toNat)
 case atStart=>exact⟨0,aU _,rfl,rfl,hK0,hx3⟩
 case round=>
  obtain⟨k,hk,rfl,rfl,hown,hE⟩:=hrel;by_cases hlt:k<L.length
  .have h1:((k:Nat):Int)<((L.length:Nat):Int):=by omega
   obtain⟨aq,cq,e1,-,-,hcl⟩:=id hLI;simp only[il,bG,true_and]at e1;obtain⟨rfl,rfl⟩:=e1;obtain⟨b,off,rfl,hcell⟩:=hcl (by rw[bG];omega);have hck:=hcell k (by rw[bG];exact hlt);rw[iA hlt]at hck;have ou:=fw hE hck;have hxk:=hLm (L[k]) (ai hlt);obtain⟨ak,ckk,rfl,aha,_⟩:=bT hown;have hkl:=vF (L.take k);have alM:=List.length_take_le k L;obtain⟨gb,gc,c2,hgl,hgm,cb⟩:=(hP.ext hE1).CQ hxk;have hbn:=nu hP.good.wf (L.take k) (λx hx=>hLm x (jD hx));have hbx:=bE.oC hP.good.wf L[k];have HB:=aW (yD s.D hlt);have hz:=hE.size;have HO:=aW (λ(v:Value) (W:World) h=>LH (w:=W) (B:=w1.heap.size) (v:=v) hlt [] h);simp only[iQ]at hown;clear hcl hcell
   go_wp2_with (first
    |(go_at_call 173;refine(AppendInt_36 L[k] (by omega) _ _ _ _ _ hown (by omega) (by omega)).mono ?_;rintro e w4 ⟨v4,rfl,Dx,hk4,hb4⟩;have hx4:=ko hE hk4 (λx hx=>(hown.lt x hx).1);have Tg:=hk4.size;obtain⟨a4,c4,rfl,hn4,JC⟩:=bT Dx)
    |(at_builtin;refine eO rfl (.tmp 36) (.tmp 37) 39 rfl w1.heap.size 5 i0 (.int .u8 0) 1 1 underlying39 hi0 hz0 hz1 hz2 rfl (by decide) (.slice a4 ((lN (L.take k)).length+(BQ L[k]).length) c4) _ _ rfl (Dx.alloc _) _ 1 _ [.int .u8 44] rfl rfl (.inr ⟨_,rfl,fD (dW _ _ _)⟩) one_cell (by unfold maxLen;have:=zq 4 L[k];unfold BQ;omega) (by have:=zq 4 L[k];unfold BQ;omega) (by rw[fU];omega) ?_
      intro v5 w5 lq hg5 hl5;have hx5:Ext w1 w5:=eU (bY hx4 _) hg5 (λb hb=>(Dx.lt b hb).1);have c2':=fw hx5 c2;have cb':=fw hx5 cb))
   go_roundw
   case rel=>exact⟨k+1,by omega,by go_num,by rw[HB.out],HO.out _ _ lq,hx5⟩
   case measure=>simp[intOf];omega
  .have h1:¬(((k:Nat):Int)<((L.length:Nat):Int)):=by omega
   have hke:k=L.length:=(by omega);subst hke;simp only[dZ,iQ]at hown ⊢;obtain⟨ak,ckk,rfl,aha,_⟩:=bT hown;have hkl:=vF L;have hz:=hE.size
   go_wp2_with (at_builtin;refine eO rfl (.tmp 50) (.tmp 51) 39 rfl w1.heap.size 5 i0 (.int .u8 0) 1 1 underlying39 hi0 hz0 hz1 hz2 rfl (by decide) (.slice ak (lN L).length ckk) _ _ rfl (hown.alloc _) _ 1 _ [.int .u8 124] rfl rfl (.inr ⟨_,rfl,fD (dW _ _ _)⟩) one_cell (by unfold maxLen;omega) (by omega) (by rw[fU];omega) ?_
                intro v5 w5 lq hg5 hl5;have hx5:Ext w1 w5:=eU (bY hE _) hg5 (λb hb=>(hown.lt b hb).1);have agC:=Ld lq (m:=((lN L++[124])++lN (R.take 0)).length) (ys:=yK ((lN L++[124])++lN (R.take 0))) (by simp[lN]) (by simp[yK,lN]))
   clear lq hg5 hl5 hown hE;obtain⟨wo,rfl⟩:∃wo:World,wo=wr:=⟨_,rfl⟩;go_loopw [7,8,12,55] (λkv bn _ ii wr=>∃k:Nat,k<=R.length/\ii=.int .i64 (k:Int)/\bn=.int .i64 (ig s.D (L++R.take k))/\wr.ownsRow w1.heap.size 5 1 kv ((lN L++[124])++lN (R.take k)).length (yK ((lN L++[124])++lN (R.take k)))/\Ext w1 wr) (λ_ _ _ ii _=>R.length-(intOf ii).toNat)
   case atStart=>exact⟨0,aU _,rfl,by simp,agC,hx5⟩
   case round=>
    clear agC hx5;obtain⟨k,hk,rfl,rfl,hown,hE⟩:=hrel;by_cases hlt:k<R.length
    .have h1:((k:Nat):Int)<((R.length:Nat):Int):=by omega
     obtain⟨aq,cq,e1,-,-,hcl⟩:=id hRI;simp only[il,bG,true_and]at e1;obtain⟨rfl,rfl⟩:=e1;obtain⟨b,off,rfl,hcell⟩:=hcl (by rw[bG];omega);have hck:=hcell k (by rw[bG];exact hlt);rw[iA hlt]at hck;have ou:=fw hE hck;have hxk:=hRm (R[k]) (ai hlt);obtain⟨ak,ckk,rfl,aha,_⟩:=bT hown;have as4:=vF (R.take k);have alM:=List.length_take_le k R;obtain⟨gb,gc,c2,hgl,hgm,cb⟩:=(hP.ext hE1).CQ hxk;have hbn:=nu hP.good.wf (L++R.take k) (λx hx=>by rcases bq.1 hx with hx|hx;exact hLm x hx;exact hRm x (jD hx));have hbx:=bE.oC hP.good.wf R[k];have HB:=aW (xq s.D L hlt);have hz:=hE.size;have HO:=aW (λ(v:Value) (W:World) h=>LH (w:=W) (B:=w1.heap.size) (v:=v) hlt (lN L++[124]) h);have hn0:((lN L++[124])++lN (R.take k)).length<=900000000:=(by simp;omega);generalize hK:(lN L++[124])++lN (R.take k)=K at hown hn0 HO;clear hcl hcell hK
     go_wp2_with (first
      |(go_at_call 173;refine(AppendInt_36 R[k] (by omega) _ _ _ _ _ hown (by omega) (by omega)).mono ?_;rintro e w4 ⟨v4,rfl,Dx,hk4,hb4⟩;have hx4:=ko hE hk4 (λx hx=>(hown.lt x hx).1);have Tg:=hk4.size;obtain⟨a4,c4,rfl,hn4,JC⟩:=bT Dx)
      |(at_builtin;refine eO rfl (.tmp 61) (.tmp 62) 39 rfl w1.heap.size 5 i0 (.int .u8 0) 1 1 underlying39 hi0 hz0 hz1 hz2 rfl (by decide) (.slice a4 (K.length+(BQ R[k]).length) c4) _ _ rfl (Dx.alloc _) _ 1 _ [.int .u8 44] rfl rfl (.inr ⟨_,rfl,fD (dW _ _ _)⟩) one_cell (by unfold maxLen;have:=zq 4 R[k];unfold BQ;omega) (by have:=zq 4 R[k];unfold BQ;omega) (by rw[fU];omega) ?_
        intro v5 w5 lq hg5 hl5;have hx5:Ext w1 w5:=eU (bY hx4 _) hg5 (λb hb=>(Dx.lt b hb).1);have c2':=fw hx5 c2;have cb':=fw hx5 cb))
     go_roundw
     case rel=>exact⟨k+1,by omega,by go_num,by rw[HB.out],HO.out _ _ lq,hx5⟩
     case measure=>simp[intOf];omega
    .have h1:¬(((k:Nat):Int)<((R.length:Nat):Int)):=by omega
     have hke:k=R.length:=(by omega);subst hke;simp only[dZ]at hown ⊢;have hkey:(lN L++[124])++lN R=wV L R:=(by simp[wV]);rw[hkey]at hown;obtain⟨gk,ck,rfl,hgk,hcv⟩:=Wu hown (by simp[wV];omega);have FC:=ah hE1 hE;have UI:=hP.ext FC;obtain⟨f,hM,hf1,hf2⟩:=UI.find;have hkz:(wV L R).length<=900000000:=(by have:=vF L;have:=vF R;simp[wV];omega);obtain⟨kl,hkl⟩:=adf (pK (wV L R)) (by unfold maxLen;simp only[pK,ByteArray.size,List.size_toArray,bK];omega);have hlk:=λ(W:World) (hW:W.heap[h]?=wr.heap[h]?)=>(hM.keep hW).look Ws underlying125 (Kq W) hkl true
     have c3:=UI.c3;have HEL:=aW hE;clear hown hE;cases OV:f (.string (pK (wV L R)))with
     |some v=>
      obtain⟨i,hi,e1,rfl⟩:=hf2 _ _ OV;have HE:=aW e1;clear e1;simp only[OV,kI,Option.isSome_some,if_true]at hlk;go_upto_region 17 with fail
      refine oJ (λW=>W.cell? ⟨pp,3,none⟩=some (.map (some h))/\(convert 39 9 (.slice (some ⟨gk,0,none⟩) (wV L R).length ck)).run prog W=.ok (.string (pK (wV L R))) W/\(Instr.lookup 125 (.map (some h)) (.string (pK (wV L R))) true).run prog W=.ok (.tuple #[.int .i64 (i:Int),.bool true]) W) [11] KX ⟨c3,hcv _ rfl,hlk _ rfl⟩ (λaj ae=>?_);(refine bP 0 aj ae ?_;refine bP 1 aj ae ?_;refine bP 2 aj ae ?_;refine bP 3 aj ae ?_;refine bP 4 aj ae ?_;refine bP 5 aj ae ?_;refine bP 6 aj ae ?_;refine bP 7 aj ae ?_;refine bP 8 aj ae ?_;refine bP 9 aj ae ?_;refine bP 10 aj ae ?_);refine nQ aj [11] [_] ?_;go_wp2_with fail
      go_ret
      refine⟨s,i,rfl,jr.refl hP (ah FC (dQ ⟨_,rfl⟩)),⟨?_,.inl rfl⟩,rfl⟩;have hw:=hP.good.wf i s.D[i] (af hi);have e2:=Wv (a:=(L,R)) (b:=s.D[i]) (λx hx=>by rcases bq.1 hx with hx|hx;have:=hLm x hx;omega;have:=hRm x hx;omega) (λx hx=>by rcases bq.1 hx with hx|hx;have:=hw.1 x hx;omega;have:=hw.2 x hx;omega) HE.out;rw[af hi,<-e2,<-hL,<-hR]
     |none=>
      simp only[OV,Option.getD_none,Option.isSome_none,if_true]at hlk;go_upto_region 17 with fail
      refine oJ (λW=>W.cell? ⟨pp,3,none⟩=some (.map (some h))/\(convert 39 9 (.slice (some ⟨gk,0,none⟩) (wV L R).length ck)).run prog W=.ok (.string (pK (wV L R))) W/\(Instr.lookup 125 (.map (some h)) (.string (pK (wV L R))) true).run prog W=.ok (.tuple #[.int .i64 0,.bool false]) W) [11] KX ⟨c3,hcv _ rfl,hlk _ rfl⟩ (λaj ae=>?_);(refine bP 0 aj ae ?_;refine bP 1 aj ae ?_;refine bP 2 aj ae ?_;refine bP 3 aj ae ?_;refine bP 4 aj ae ?_;refine bP 5 aj ae ?_;refine bP 6 aj ae ?_;refine bP 7 aj ae ?_;refine bP 8 aj ae ?_;refine bP 9 aj ae ?_;refine bP 10 aj ae ?_);refine nQ aj [11] [_] ?_;clear aj ae hlk;have hPd:dA wr.drew pp h s:=UI.ext (dQ ⟨1,rfl⟩);obtain⟨ab,cb,eb,hb1,hb2⟩:=bT hPd.born;obtain⟨xl,hxl,hil⟩:=hPd.left;obtain⟨xr,Gh,hir⟩:=hPd.right;obtain⟨al,cl,el,hl1,hl2⟩:=bT hxl;obtain⟨ar,cr,er,hr1,hr2⟩:=bT Gh;have c2:=hPd.c2;rw[eb]at c2;go_upto_region 21 with fail
      have adW:dA wr.drew.drew pp h s:=hPd.ext (dQ ⟨1,rfl⟩);have c3':=adW.c3;refine oJ (λW=>W.cell? ⟨pp,3,none⟩=some (.map (some h))/\(convert 39 9 (.slice (some ⟨gk,0,none⟩) (wV L R).length ck)).run prog W=.ok (.string (pK (wV L R))) W) [7] Vr ⟨c3',hcv _ rfl⟩ (λaj ae=>?_);(refine bP 0 aj ae ?_;refine bP 1 aj ae ?_;refine bP 2 aj ae ?_;refine bP 3 aj ae ?_;refine bP 4 aj ae ?_;refine bP 5 aj ae ?_;refine bP 6 aj ae ?_);refine nQ aj [7] [_] ?_;clear aj ae;have xc:=adW.box;rw[el,er,eb]at xc;have agT:(Value.slice al s.D.length cl).ownBlock≠some pp:=λe=>(hP.MU pp (.inl (by rw[el];exact e))).1 rfl
      have adm:(Value.slice ar s.D.length cr).ownBlock≠some pp:=λe=>(hP.MU pp (.inr (.inl (by rw[er];exact e)))).1 rfl
      have adL:(Value.slice ab s.D.length cb).ownBlock≠some pp:=λe=>(hP.MU pp (.inr (.inr (by rw[eb];exact e)))).1 rfl
      have hlr:∀b,(Value.slice ar s.D.length cr).ownBlock=some b->(Value.slice al s.D.length cl).ownBlock≠some b:=λb h1 h2=>(hP.ap3 b (by rw[el];exact h2)).1 (by rw[er];exact h1)
      have hlb:∀b,(Value.slice ab s.D.length cb).ownBlock=some b->(Value.slice al s.D.length cl).ownBlock≠some b:=λb h1 h2=>(hP.ap3 b (by rw[el];exact h2)).2 (by rw[eb];exact h1)
      have hrb:∀b,(Value.slice ab s.D.length cb).ownBlock=some b->(Value.slice ar s.D.length cr).ownBlock≠some b:=λb h1 h2=>hP.ap4 b (by rw[er];exact h2) (by rw[eb];exact h1)
      have agf:wr.drew.drew.ownsRow 0 41 1 (.slice al s.D.length cl) s.D.length xl:=(by rw[<-el];exact hxl);have agc:wr.drew.drew.ownsRow 0 41 1 (.slice ar s.D.length cr) s.D.length xr:=(by rw[<-er];exact Gh);have akS:wr.drew.drew.ownsRow 0 3 1 (.slice ab s.D.length cb) s.D.length ((s.D.mapIdx λi _=>(bE.born (vl s.D i):Int)).map (Value.int .i64)):=(by rw[<-eb];exact adW.born);have hM2:jb prog 9 wr.drew.drew h s.D.length f:=hM.keep rfl;have Xq:∀b,(Value.slice al s.D.length cl).ownBlock=some b\/(Value.slice ar s.D.length cr).ownBlock=some b\/(Value.slice ab s.D.length cb).ownBlock=some b->b≠h:=λb hb=>by
       have:=(hP.MU b (by rw[el,er,eb];exact hb)).2;omega
      have ale:pp≠h:=(by have:=hP.ap1;omega);have FI:=jm hil hir;have FE:=nY el er eb;have HFK:=aW OV;clear hil hir OV eb el er UI hPd hM;obtain⟨iS,hiS,zS0,zS1,zS2⟩:=info_parts Ta;obtain⟨iI,hiI,zI0,zI1,zI2⟩:=info_parts iU
      go_wp2_with (first
       |(at_mapUpdate;refine ku rfl _ _ _ 125 rfl 9 3 Ws underlying125 h s.D.length f rfl hM2 (by unfold maxLen;omega) _ _ rfl rfl ⟨kl,hkl⟩ ?_
         intro w21 amw Xp;have adO:w21.heap[pp]?=_:=((jA Xp).block pp (bW xc) ale).trans xc;obtain⟨p1,q1,r1⟩:=zm adO;have d10:=q1 0 _ rfl;have e10:=r1 0;have age:=bS agf (jA Xp) (λb hb=>Xq b (.inl hb));have agb:=bS agc (jA Xp) (λb hb=>Xq b (.inr (.inl hb)));have agh:=bS akS (jA Xp) (λb hb=>Xq b (.inr (.inr hb)));clear q1 r1)
       |(at_builtin;refine eO rfl (.tmp 103) (.tmp 105) 154 rfl 0 41 iS (.slice none 0 0) 1 24 underlying154 hiS zS0 zS1 zS2 rfl (by decide) (.slice al s.D.length cl) s.D.length xl rfl (age.alloc _) _ 1 _ [.slice aL L.length cL] rfl rfl (.inr ⟨_,rfl,fD (dW _ _ _)⟩) Ey (by unfold maxLen;omega) (by omega) (aU _) ?_
         intro v2 w2 ho2 hg2 hl2;have hb2:=(vV (j:=0) adO agT hg2 ho2 hl2).1;obtain⟨p2,q2,r2⟩:=zm (Em adO hg2 agT);have d20:=q2 0 _ rfl;have d21:=q2 1 _ rfl;have e20:=r2 0;have akQ:=Jc agb hg2 hlr;have aak:=Jc agh hg2 hlb;obtain⟨a2,k2,rfl,_,_⟩:=bT ho2;clear q2 r2)
       |(at_builtin;refine eO rfl (.tmp 113) (.tmp 115) 154 rfl 0 41 iS (.slice none 0 0) 1 24 underlying154 hiS zS0 zS1 zS2 rfl (by decide) (.slice ar s.D.length cr) s.D.length xr rfl ((ownsRow_setCell_other akQ adm _).alloc _) _ 1 _ [.slice aR R.length cR] rfl rfl (.inr ⟨_,rfl,fD (wO _ _ _ _ _)⟩) Ey (by unfold maxLen;omega) (by omega) (aU _) ?_
         intro v3 w3 ho3 hg3 hl3;have hb3:=(vV (j:=1) hb2 adm hg3 ho3 hl3).1;obtain⟨p3,q3,r3⟩:=zm (Em hb2 hg3 adm);have d31:=q3 1 _ rfl;have d32:=q3 2 _ rfl;have e31:=r3 1;have akR:=Jc (ownsRow_setCell_other aak (a:=⟨pp,0,none⟩) adL _) hg3 hrb;obtain⟨a3,k3,rfl,_,_⟩:=bT ho3;clear q3 r3)
       |(at_builtin;refine eO rfl (.tmp 123) (.tmp 125) 41 rfl 0 3 iI (.int .i64 0) 1 8 underlying41 hiI zI0 zI1 zI2 rfl (by decide) (.slice ab s.D.length cb) s.D.length _ rfl ((ownsRow_setCell_other akR adL _).alloc _) _ 1 _ [.int .i64 (ig s.D (L++R))] rfl rfl (.inr ⟨_,rfl,fD (wO _ _ _ _ _)⟩) one_cell (by unfold maxLen;omega) (by omega) (aU _) ?_
         intro v4 w4 Dx hg4 hl4;obtain⟨p4,q4,r4⟩:=zm (Em hb3 hg4 adL);have d42:=q4 2 _ rfl;have e42:=r4 2;obtain⟨a4,k4,rfl,_,_⟩:=bT Dx;clear q4 r4))
      go_ret
      subst hL hR;have hEd:Ext w wr.drew.drew:=ah FC (dQ ⟨2,rfl⟩);have ad6:Ext w1 wr.drew.drew:=ah HEL.out (dQ ⟨2,rfl⟩);have hz1':=ad6.size;have e1:=FE.out.1;have e2:=FE.out.2.1;have e3:=FE.out.2.2
      exact VW hP hEd hD hl hr (hLI.ext ad6) (hRI.ext ad6) (λb hb=>⟨(FL.out b hb).1,bg (FL.out b hb).2 hz1'⟩) (λb hb=>⟨(FR.out b hb).1,bg (FR.out b hb).2 hz1'⟩) hf1 hf2 HFK.out amw Xp
       (by rw[e1];exact agf) FI.out.1 (by rw[e2];exact agc) FI.out.2 (by rw[e1];exact hg2) ho2 (by rw[e1];exact hl2) (by rw[e2];exact hg3) ho3 (by rw[e2];exact hl3) (by rw[e3];exact hg4) Dx (by rw[e3];exact hl4)
end
section
open Go.RowKit
open bE (dh Nd Gm vl Same plus)
variable {G:Nat->Prop} {a b N pp h n i:Nat} {w w' wr w2 wa:World} {s s' s0:jF} {lv rv:Value} {L R:List Nat} {gs:List Gm} {D' D:dh}
theorem aae{F:Nat->Prop}{a b:World}(h:fJ F a b)(k:∀x,F x->G x):fJ G a b:=⟨h.os,h.tape,h.output,h.size,λb hb hn=>h.block b hb λc=>hn (k b c)⟩
def SMap(w:World)(h:Nat)(s:jF):Prop:=∃n f,jb prog 219 w (h+1+1+1) n f/\∀k v,f k=some v->∃a b j:Nat,k=.agg #[.int .i64 (a:Int),.int .i64 (b:Int)]/\v=.int .i64 (j:Int)/\a<s.D.length/\b<s.D.length/\j<s.D.length/\Same (vl s.D j) (plus (vl s.D a) (vl s.D b))
def aiw(N:Nat)(D:dh):Prop:=∀i,N<=i->i<D.length->∃a b,a<N/\b<N/\Same (vl D i) (plus (vl D a) (vl D b))
structure DI(w:World)(pp h N:Nat)(s:jF):Prop where
 pool:dA w pp h s
 map:SMap w h s
 le:N<=s.D.length
 sums:aiw N s.D
theorem ZY{a' b':Nat}(hb:b<N)(hb':b'<N)(e:b+a*N=b'+a'*N):a=a'/\b=b':=by
 have hN:0<N:=by omega
 have e1:(b+a*N) / N=a:=by rw[Nat.add_mul_div_right _ _ hN,Nat.div_eq_of_lt hb,fI]
 have e2:(b'+a'*N) / N=a':=by rw[Nat.add_mul_div_right _ _ hN,Nat.div_eq_of_lt hb',fI]
 have:a=a':=by rw[<-e1,<-e2,e]
 subst this;exact⟨rfl,by omega⟩
theorem VJ(ha:a<N)(hb:b<N):b+a*N<N*N:=by
 have:=jC N (show a+1<=N by omega);rw[rW]at this;omega
theorem DI.small(k:DI w pp h N s):s.D.length<=N+N*N:=by
 have g:=k.pool.good;have:=Rw (n:=s.D.length) (at_:=List.range (N+N*N)) (R:=λi j=>(i<N/\j=i)\/∃a b,a<N/\b<N/\j=N+(b+a*N)/\Same (vl s.D i) (plus (vl s.D a) (vl s.D b))) (λi hi=>by
  rcases ib i N with c|c
  .exact⟨i,dz.2 (by omega),.inl ⟨c,rfl⟩⟩
  .obtain⟨a,b,ha,hb,hs⟩:=k.sums i c hi
   exact⟨N+(b+a*N),dz.2 (by have:=VJ ha hb;omega),.inr ⟨a,b,ha,hb,rfl,hs⟩⟩) (λi i' j hi hi' h1 h2=>by
  rcases h1 with⟨a,b⟩|⟨a,b,ha,hb,e,c⟩ <;> rcases h2 with⟨a',b'⟩|⟨a',b',ha',hb',e',c'⟩
  .omega
  .omega
  .omega
  .obtain⟨rfl,rfl⟩:=ZY hb hb' (show b+a*N=b'+a'*N by omega)
   exact bE.lX g i i' hi hi' (bE.dn c (bE.dU c')))
 simpa using this
theorem Va(hP:dA w pp h s):¬lg pp h s (h+1+1+1):=by
 rintro(c|c|c|c|c)
 .have:=hP.ap1;omega
 .omega
 .have:=(hP.MU _ (.inl c)).2;omega
 .have:=(hP.MU _ (.inr (.inl c))).2;omega
 .have:=(hP.MU _ (.inr (.inr c))).2;omega
structure CR(pp h:Nat)(s:jF)(w:World)(s':jF)(w':World):Prop where
 pool:dA w' pp h s'
 keep:fJ (λb=>lg pp h s b\/b=h+1+1+1) w w'
 own:∀b,lg pp h s' b->lg pp h s b\/w.heap.size<=b
 old:∀b,s.S b->s'.S b
 lists:∀b,s'.S b->s.S b\/w.heap.size<=b
 more:∃E,s'.D=s.D++E
theorem jr.sm(k:jr pp h s w s' w'):CR pp h s w s' w':=⟨k.pool,aae k.keep λ_ h=>.inl h,k.own,k.old,k.lists,k.more⟩
theorem CR.trans{w1 w2 w3:World}{pp h:Nat}{s1 s2 s3:jF}(k:CR pp h s1 w1 s2 w2)(m:CR pp h s2 w2 s3 w3):CR pp h s1 w1 s3 w3:=by
 have hz:=k.keep.size;refine⟨m.pool,k.keep.trans m.keep (λx hx hi=>by
  rcases hi with hi|hi
  .rcases k.own x hi with h|h
   .exact .inl h
   .omega
  .exact .inr hi),λx hx=>?_,λb hb=>m.old b (k.old b hb),λx hx=>?_,?_⟩
 .rcases m.own x hx with h1|h1
  .exact k.own x h1
  .exact .inr (by omega)
 .rcases m.lists x hx with h1|h1
  .exact k.lists x h1
  .exact .inr (by omega)
 .obtain⟨E,h1⟩:=k.more
  obtain⟨E',h2⟩:=m.more;exact⟨E++E',by rw[h2,h1,dY]⟩
theorem CR.len(k:CR pp h s w s' w'):s.D.length<=s'.D.length:=by obtain⟨E,h⟩:=k.more;rw[h];simp
theorem CR.vl{w w':World}{pp h:Nat}{s s':jF}(k:CR pp h s w s' w')(hw:bE.WF s.D){i:Nat}(hi:i<s.D.length):vl s'.D i=vl s.D i:=by
 obtain⟨E,h⟩:=k.more;have hg:=k.pool.good.wf;rw[h]at hg ⊢;exact bE.jJ hw hg i hi
theorem CR.sup{A:World->Prop}(a:oN s0.S A w)(k:CR pp h s w s' w')(hP:dA w pp h s)(ho:∀b,s0.S b->s.S b):oN s0.S A w':=
 a.keep k.keep λb hb=>by
  rintro(c|c)
  .exact hP.ap5 b (ho b hb) c
  .have:=hP.ap6 b (ho b hb);omega
theorem SMap.go(m:SMap w h s)(hP:dA w pp h s)(k:jr pp h s w s' w'):SMap w' h s':=by
 obtain⟨n,f,h1,h2⟩:=m;refine⟨n,f,h1.keep (k.keep.block _ h1.lt (Va hP)),λq v hv=>?_⟩;obtain⟨a,b,j,e1,e2,ha,hb,hj,hs⟩:=h2 q v hv;have:=k.len;exact⟨a,b,j,e1,e2,by omega,by omega,by omega,by rw[k.vl hP.good.wf ha,k.vl hP.good.wf hb,k.vl hP.good.wf hj];exact hs⟩
theorem DI.ext{w w':World}{pp h N:Nat}{s:jF}(k:DI w pp h N s)(hx:Ext w w'):DI w' pp h N s:=
 ⟨k.pool.ext hx,k.map.go k.pool (jr.refl k.pool hx),k.le,k.sums⟩
structure mH(pp h:Nat)(s:jF)(w wr:World)(lv rv:Value)(L R:List Nat):Prop where
 l:wr.ownsRow w.heap.size 3 1 lv L.length ((dB L).map (Value.int .i64))
 r:wr.ownsRow w.heap.size 3 1 rv R.length ((dB R).map (Value.int .i64))
 ap:∀b,lv.ownBlock=some b->rv.ownBlock≠some b
 xK:Nn pp h s wr (λb=>lv.ownBlock=some b\/rv.ownBlock=some b)
theorem mH.swap(m:mH pp h s w wr lv rv L R):mH pp h s w wr rv lv R L:=
 ⟨m.r,m.l,λb h1 h2=>m.ap b h2 h1,λb hb=>m.xK b (hb.symm)⟩
theorem mH.keep(m:mH pp h s w wr lv rv L R)(hk:fJ G wr w2)(hG:∀b,lv.ownBlock=some b\/rv.ownBlock=some b->¬G b)
 (hc:Nn pp h s' w2 (λb=>lv.ownBlock=some b\/rv.ownBlock=some b)):mH pp h s' w w2 lv rv L R:=
 ⟨bS m.l hk (λb hb=>hG b (.inl hb)),bS m.r hk (λb hb=>hG b (.inr hb)),m.ap,hc⟩
theorem mH.ext{pp h:Nat}{s:jF}{w wr w2:World}{lv rv:Value}{L R:List Nat}(m:mH pp h s w wr lv rv L R)(hx:Ext wr w2):mH pp h s w w2 lv rv L R:=
 m.keep (jR (F:=λ_=>False) hx) (λ_ _=>id) (m.xK.ext hx)
theorem mH.lo(m:mH pp h s w wr lv rv L R)(hb:lv.ownBlock=some b\/rv.ownBlock=some b):w.heap.size<=b:=by
 rcases hb with hb|hb
 .exact(m.l.lt b hb).1
 .exact(m.r.lt b hb).1
theorem mH.go(m:mH pp h s w wr lv rv L R)(hh:h+1+1+1<w.heap.size)(g:CR pp h s wr s' w2):mH pp h s' w w2 lv rv L R:=by
 have hz:=g.keep.size;refine m.keep g.keep (λb hb=>?_) (λb hb=>?_)
 .rintro(c|c)
  .exact(m.xK b hb).2.1 c
  .have:=m.lo hb;omega
 .obtain⟨c1,c2,c3⟩:=m.xK b hb
  refine⟨by omega,λc=>?_,λc=>?_⟩
  .rcases g.own b c with c|c
   .exact c2 c
   .omega
  .rcases g.lists b c with c|c
   .exact c3 c
   .omega
theorem mH.push{De:Value}{news:List Nat}{ys:List Value}(m:mH pp h s w wr lv rv L R)(hP:dA wr pp h s)(hx:Ext wr wa)(hg:wa.grownBy w2 lv.ownBlock)
 (ho:w2.ownsRow w.heap.size 3 1 De n ys) (hn:n=(L++news).length) (hy:ys=(dB (L++news)).map (Value.int .i64)) (hl:pX wa lv De):mH pp h s w w2 De rv (L++news) R:=by
 have hz:=hx.size;have hz2:=hg.size;have hL:∀b,De.ownBlock=some b->lv.ownBlock=some b\/wr.heap.size<=b:=λb hb=>by
  rcases hl with e|⟨g,e,k⟩
  .exact .inl (e ▸ hb)
  .rw[e]at hb;injection hb with hb;exact .inr (by omega)
 have m1:=m.ext hx;have hkg:=fP hg;have hcm:=m.xK;refine⟨Jj ho hn hy,bS m1.r hkg (λb hb hq=>m.ap b hq hb),λb hb hc=>?_,λb hb=>?_⟩
 .rcases hL b hb with h1|h1
  .exact m.ap b h1 hc
  .have:=(hcm b (.inr hc)).1;omega
 .have hlt:=ho.lt
  rcases hb with hb|hb
  .refine⟨(hlt b hb).2,?_⟩
   rcases hL b hb with h1|h1
   .exact(hcm b (.inl h1)).2
   .exact hP.new h1
  .have:=hcm b (.inr hb);exact⟨by omega,this.2⟩
theorem mH.side(m:mH pp h s w wr lv rv L R)(g:CR pp h s0 w s wr)(hx:Ext wr wa)(hg:wa.grownBy w2 lv.ownBlock):CR pp h s0 w s w2:=by
 have hkg:=fP hg;have hz:=hx.size;have hP:=g.pool.ext hx;refine⟨hP.keep hkg (λb hb hc=>(m.xK b (.inl hc)).2.1 hb) (λb hb hc=>(m.xK b (.inl hc)).2.2 hb),?_,g.own,g.old,g.lists,g.more⟩;have k1:=(g.keep.trans (jR (F:=λ_=>False) hx) (λ_ _ h=>h.elim)).trans hkg (G:=λb=>lv.ownBlock=some b) (λx hx hc=>by have:=m.lo (.inl hc);omega);exact k1
theorem DI.side(k:DI wr pp h N s)(m:mH pp h s w wr lv rv L R)(hh:h+1+1+1<w.heap.size)(hx:Ext wr wa)(hg:wa.grownBy w2 lv.ownBlock):DI w2 pp h N s:=by
 have hkg:=fP hg;have k1:=k.ext hx;refine⟨k1.pool.keep hkg (λb hb hc=>(m.xK b (.inl hc)).2.1 hb) (λb hb hc=>(m.xK b (.inl hc)).2.2 hb),?_,k.le,k.sums⟩;obtain⟨n,f,h1,h2⟩:=k1.map;exact⟨n,f,h1.keep (hkg.block _ h1.lt (λhc=>by have:=m.lo (.inl hc);omega)),h2⟩
structure qD(D':dh)(gs:List Gm)(L:List Nat):Prop where
 len:L.length=gs.length
 at_:∀j (h:j<L.length) (h':j<gs.length),L[j]<D'.length/\Same (vl D' L[j]) gs[j]
theorem qD.nil(D':dh):qD D' [] []:=⟨rfl,λj h=>absurd h (by simp)⟩
theorem qD.go(n:qD s.D gs L)(hw:bE.WF s.D)(g:CR pp h s w s' w'):qD s'.D gs L:=by
 refine⟨n.len,λj h h'=>?_⟩;obtain⟨h1,h2⟩:=n.at_ j h h';have:=g.len;exact⟨by omega,by rw[g.vl hw h1];exact h2⟩
theorem qD.next{g:Gm}(n:qD D' gs L)(hi:i<D'.length)(hs:Same (vl D' i) g):qD D' (gs++[g]) (L++[i]):=by
 refine⟨by simp[n.len],λj h h'=>?_⟩;have hl:=n.len;by_cases c:j<L.length
 .rw[dM c,dM (by omega)];exact n.at_ j c (by omega)
 .have e:j=L.length:=by simp at h;omega
  subst e;rw[eQ (by omega),eQ (by omega)];simp only[List.getElem_singleton];exact⟨hi,hs⟩
theorem qD.lt(n:qD D' gs L):∀x,x∈L->x<D'.length:=λx hx=>by
 obtain⟨j,hj,rfl⟩:=aQ.1 hx;exact(n.at_ j hj (by have:=n.len;omega)).1
theorem VO{gl gr:List Gm}(hD:bE.WF D)(hD':bE.WF D')(hl:qD D gl L)(hr:qD D gr R)(p:jN D L R D' i):Same (vl D' i) (.mk gl gr):=by
 rw[bE.mJ hD' p.1,bE.same_iff];have hll:=hl.len;have hrl:=hr.len;simp only[Gm.l,Gm.r];refine⟨λx hx=>?_,λy hy=>?_,λx hx=>?_,λy hy=>?_⟩
 .obtain⟨k,hk,rfl⟩:=az.1 hx
  obtain⟨j,hj,rfl⟩:=aQ.1 (cz.1 hk);obtain⟨h1,h2⟩:=hl.at_ j hj (by omega);exact⟨_,ai (show j<gl.length by omega),by rw[p.vl hD hD' h1];exact h2⟩
 .obtain⟨j,hj,rfl⟩:=aQ.1 hy
  obtain⟨h1,h2⟩:=hl.at_ j (by omega) hj;exact⟨_,aV (cz.2 (ai (show j<L.length by omega))),by rw[p.vl hD hD' h1];exact h2⟩
 .obtain⟨k,hk,rfl⟩:=az.1 hx
  obtain⟨j,hj,rfl⟩:=aQ.1 (cz.1 hk);obtain⟨h1,h2⟩:=hr.at_ j hj (by omega);exact⟨_,ai (show j<gr.length by omega),by rw[p.vl hD hD' h1];exact h2⟩
 .obtain⟨j,hj,rfl⟩:=aQ.1 hy
  obtain⟨h1,h2⟩:=hr.at_ j (by omega) hj;exact⟨_,aV (cz.2 (ai (show j<R.length by omega))),by rw[p.vl hD hD' h1];exact h2⟩
theorem acW(h:bE.WF D)(ha:a<D.length)(hb:b<D.length):plus (vl D a) (vl D b)=.mk (((D[a]).1.map λx=>plus (vl D x) (vl D b))++(D[b]).1.map λx=>plus (vl D a) (vl D x)) (((D[a]).2.map λx=>plus (vl D x) (vl D b))++(D[b]).2.map λx=>plus (vl D a) (vl D x)):=by
 rw[bE.Jg,bE.lI h (af ha),bE.lH h (af ha),bE.lI h (af hb),bE.lH h (af hb)];simp only[jg];rfl
theorem DI.put(k:DI w pp h N s)(g:jr pp h s w s' w')(p:jN s.D L R s'.D i)(ha:a<N)(hb:b<N)(hs:Same (vl s'.D i) (plus (vl s.D a) (vl s.D b))):DI w' pp h N s':=by
 have hl:=g.len;have hle:=k.le;have hw:=k.pool.good.wf;refine⟨g.pool,k.map.go k.pool g,by omega,λx hx hlt=>?_⟩;rcases ib x s.D.length with c|c
 .obtain⟨a',b',ha',hb',hb2⟩:=k.sums x hx c
  exact⟨a',b',ha',hb',by rw[g.vl hw c,g.vl hw (show a'<s.D.length by omega),g.vl hw (show b'<s.D.length by omega)];exact hb2⟩
 .have hxi:x=i:=by
   obtain⟨p1,p2⟩:=p;rcases p2 with e|e
   .rw[e]at hlt;omega
   .have hx':x=s.D.length:=by rw[e]at hlt;simp at hlt;omega
    have h1:s'.D[x]?=some (bO L,bO R):=(by rw[e,hx',dX (aJ _)];simp);exact(List.getElem?_inj (by rw[hx',e];simp) g.pool.good.nodup).1 (h1.trans p1.symm)
  subst hxi;exact⟨a,b,ha,hb,by rw[g.vl hw (show a<s.D.length by omega),g.vl hw (show b<s.D.length by omega)];exact hs⟩
theorem DI.store{w1:World}{f:Value->Option Value}(k:DI w pp h N s)(hx:Ext w w1)(hf:∀k v,f k=some v->∃a b j:Nat,k=.agg #[.int .i64 (a:Int),.int .i64 (b:Int)]/\v=.int .i64 (j:Int)/\a<s.D.length/\b<s.D.length/\j<s.D.length/\Same (vl s.D j) (plus (vl s.D a) (vl s.D b)))
 (hM:jb prog 219 w' (h+1+1+1) n (upd (λ_ _=>Classical.propDecidable _) f (.agg #[.int .i64 (a:Int),.int .i64 (b:Int)]) (.int .i64 (i:Int)))) (hg:w1.grownBy w' (some (h+1+1+1))) (ha:a<s.D.length) (hb:b<s.D.length) (hi:i<s.D.length) (hs:Same (vl s.D i) (plus (vl s.D a) (vl s.D b))):DI w' pp h N s/\CR pp h s w s w':=by
 have kk:=jA hg;have k1:=(k.ext hx).pool;have hP:dA w' pp h s:=k1.keep kk (λb hb c=>by subst c;exact Va k1 hb) (λb hb c=>by have:=k1.ap6 b hb;omega);refine⟨⟨hP,⟨n,_,hM,λq v hv=>?_⟩,k.le,k.sums⟩,⟨hP,?_,λ_ h=>.inl h,λ_ h=>h,λ_ h=>.inl h,⟨[],by simp⟩⟩⟩
 .rcases AJ hv with⟨rfl,rfl⟩|hv
  .exact⟨a,b,i,rfl,rfl,ha,hb,hi,hs⟩
  .exact hf q v hv
 .exact(jR (F:=λb=>lg pp h s b\/b=h+1+1+1) hx).trans kk (λx _ c=>.inr c)
theorem DI.QL(k:DI w pp h N s):∃f,jb prog 219 w (h+1+1+1) 810000000000 f/\∀k v,f k=some v->∃a b j:Nat,k=.agg #[.int .i64 (a:Int),.int .i64 (b:Int)]/\v=.int .i64 (j:Int)/\a<s.D.length/\b<s.D.length/\j<s.D.length/\Same (vl s.D j) (plus (vl s.D a) (vl s.D b)):=by
 obtain⟨n,f,h1,h2⟩:=k.map;refine⟨f,(h1.room ((List.range s.D.length).flatMap λ(a:Nat)=>(List.range s.D.length).map λ(b:Nat)=>.agg #[.int .i64 (a:Int),.int .i64 (b:Int)]) λkey v hv=>?_).mono ?_,h2⟩
 .obtain⟨a,b,j,rfl,_,ha,hb,_⟩:=h2 key v hv
  exact List.mem_flatMap.2 ⟨a,dz.2 ha,az.2 ⟨b,dz.2 hb,rfl⟩⟩
 .have e:∀l:List Nat,(l.flatMap λ(a:Nat)=>(List.range s.D.length).map λ(b:Nat)=>Value.agg #[.int .i64 (a:Int),.int .i64 (b:Int)]).length=l.length*s.D.length:=by
   intro l
   induction l with
   |nil=>simp
   |cons x l ih=>rw[jZ,bu,ih,bK,uV,gI,rW];omega
  rw[e,uV];exact pE k.pool.small k.pool.small
theorem dA.c6(k:dA w pp h s):w.cell? ⟨pp,6,none⟩=some (.map (some (h+1+1+1))):=bQ w pp 6 _ _ _ k.box
end
