/- 31 -/
import Derived.Test.YtplgooajigigkaaGreatDoorQ24
import Derived.Test.YtplgooajigigkaaGreatDoorQ28
set_option maxRecDepth 100000
set_option maxHeartbeats 4000000
namespace Go.Proofs.YtplgooajigigkaaGreatDoor
open Tryz
open Go.RowKit
open aZ (cZ Nd vl Same)
variable {w:World} {B n k:Nat} {v:Value} {l:List Nat}
theorem RY(w:World)(B c:Nat)(hB:B<=w.heap.size)(hc:c<=maxLen):(w.alloc (.cells (madeCells #[Value.int .u8 0] c) 5)).ownsRow B 5 1 (.slice (some ⟨w.heap.size,0,none⟩) 0 c) 0 (u8s (jG [])):=
 ⟨by simp[u8s,jG],.inr ⟨w.heap.size,c,madeCells #[Value.int .u8 0] c,rfl,hB,dV w _,az _,hc,by rw[size_madeCells];simp,by simp[u8s,jG]⟩⟩
theorem vQ:∀k n,(xn k n).length<=k
 | 0,n=>by simp[xn]
 |k+1,n=>by
  rw[xn];split
  .simp
  .have:=vQ k (n / 36);simp;omega
theorem q9:∀l:List Nat,(jG l).length<=5*l.length
 |[]=>by simp[jG]
 |i :: l=>by
  have:=q9 l;have h:(yB i).length<=4:=vQ 4 i;unfold jG at this ⊢;rw[jr,aK,aK];simp only[l9,List.length_nil];omega
theorem Ht{e m:Nat}{xs ys:List Value}(h:w.ownsRow B e 1 v n xs)(hn:n=m)(hx:xs=ys):w.ownsRow B e 1 v m ys:=by subst hn;subst hx;exact h
theorem IB(hk:k<l.length):jG (l.take (k+1))=jG (l.take k)++(yB l[k]++[44]):=by
 rw[aW hk,O3]
theorem IC(hk:k<l.length)(p:List Nat)(h:w.ownsRow B 5 1 v ((p++jG (l.take k)).length+(yB l[k]).length+1) (u8s (p++jG (l.take k))++u8s (yB l[k])++[.int .u8 44])):
 w.ownsRow B 5 1 v (p++jG (l.take (k+1))).length (u8s (p++jG (l.take (k+1)))):=by
 refine Ht h ?_ ?_
 .rw[IB hk];simp;omega
 .rw[IB hk];simp[u8s]
theorem RZ{W:World}{key:List Nat}(h:W.ownsRow B 5 1 v key.length (u8s key))(hk:0<key.length):
 ∃g cap,v=.slice (some ⟨g,0,none⟩) key.length cap/\g<W.heap.size/\∀W',W'.heap[g]?=W.heap[g]?->(convert 39 9 (.slice (some ⟨g,0,none⟩) key.length cap)).run prog W'=.ok (.string (mG key)) W':=by
 obtain⟨g,cap,e,_,_,hc⟩:=gY h hk;have hc0:=hc 0 (by omega);rw[u8s,bO,ae hk]at hc0;refine⟨g,cap,e,lt_of_cell hc0,λW' hW=>?_⟩;have:=run_convert_bytes_arg (P:=prog) W' 39 5 underlying39 underlying5 g 0 key.length cap (bV key) (by rw[aP]) (λi hi=>by
  rw[lh (w:=W) hW,gQ,hc i (by omega),u8s,bO,ae hi];simp[List.getD,bV,hi]) 9 underlying9
 rw[this];have e2:strOfNums (bV key)=mG key:=by
  unfold strOfNums mG bV;rw[eP];rfl
 rw[e2]
theorem Gi(w:World):(zeroValue 3).run prog w=.ok (.int .i64 0) w:=by kernel_rfl
theorem O7:(prog.info? 41).map (λi=>(i.zero,i.size,i.bytes))=some (some (.slice none 0 0),1,24):=by kernel_rfl
theorem Ba{a:Option Addr}{c:Nat}:∀u∈([Value.slice a n c]:List Value),u.oneCell'=true:=by
 intro u hu;simp at hu;subst hu;rfl
def GY:List Row:=[⟨0,[],77,[0]⟩,⟨1,[0],78,[76]⟩,⟨2,[1],79,[77]⟩,⟨3,[2],80,[78]⟩,⟨4,[],81,[7]⟩,⟨5,[4],82,[80]⟩,⟨6,[3,5],83,[79,81]⟩,⟨7,[6],76,[82]⟩,⟨8,[7],84,[75]⟩,⟨9,[7],85,[75]⟩,⟨10,[8,0,1,2,3,4,5,6,7,8],14,[83]⟩,⟨11,[9,10,0,1,2,3,4,5,6,7,8,9,10],15,[84]⟩]
def QZ:List Row:=[⟨0,[],93,[0]⟩,⟨1,[0],94,[92]⟩,⟨2,[1],95,[93]⟩,⟨3,[2],96,[94]⟩,⟨4,[],97,[7]⟩,⟨5,[4],98,[96]⟩,⟨6,[],99,[15]⟩,⟨7,[3,5,6,0,1,2,3,4,5,6],0,[95,97,98]⟩]
theorem Bv(pp h:Nat)(s:iK)(vl_ vr_:Value)(l r:List Nat)(w:World)(hP:bX w pp h s)(hD:s.D.length+1<=900000)(hl:∀x,x∈l->x<s.D.length)(hr:∀x,x∈r->x<s.D.length)
 (hln:l.length<=1000000) (hrn:r.length<=1000000) (hvl:Ints w vl_ (bV l)) (WV:Ints w vr_ (bV r)):
 Calls prog 125 #[.pointer (some ⟨pp,0,none⟩),vl_,vr_] w (zu pp h s l r w):=by
 obtain⟨i0,hi0,hz0,hz1,hz2⟩:=info_parts Nj;obtain⟨la,lc,rfl,-⟩:=id hvl;obtain⟨ra,rc,rfl,-⟩:=id WV;go_enter Tryz.func125,Tryz.ntmps125
 have al0:Ext w w:=fJ _ _;go_upto_region 2 with(go_at_call 172;refine(FK _ _ _ (by first|exact hvl|exact WV.ext hx1) (by rw[aP];omega)).mono ?_;rintro e w1 ⟨v1,rfl,hL1,hx1⟩;rw[TP]at hL1)
 rename_i w0 v0 hL0 hx0 K1 a1;have hE1:=ah hx0 hx1;obtain⟨aL,cL,rfl,hcL,_⟩:=bu hL0;obtain⟨aR,cR,rfl,hcR,_⟩:=bu hL1;simp only[aP]at *;have hsl:=o9 l;have hsr:=o9 r;have hmk:=λw:World=>run_make (P:=prog) w 39 5 i0 (.int .u8 0) underlying39 hi0 hz0 .i64 .i64 (0:Int) (4*(((aS l).length:Int)+((aS r).length:Int))+1) (by omega) (by omega) (by rw[hz2];omega) (by omega)
 simp only[hz1,jo]at hmk;go_upto_region 3 with fail
 clear hmk;have hK0:=RY w1 w1.heap.size (4*((aS l).length+(aS r).length)+1) (ax _) (by unfold maxLen;omega);have hx3:Ext w1 (w1.alloc (.cells (madeCells #[Value.int .u8 0] (4*((aS l).length+(aS r).length)+1)) 5)):=by go_grown
 generalize w1.alloc (.cells (madeCells #[Value.int .u8 0] (4*((aS l).length+(aS r).length)+1)) 5)=W3 at *;have Y7:=(Ints.dX hL0 (by rw[aP];omega)).ext hx1;have hRI:=Ints.dX hL1 (by rw[aP];omega);have fL:∀b,(Value.slice aL (aS l).length cL).ownBlock=some b->w.heap.size<=b/\b<w1.heap.size:=λb hb=>by have:=hL0.lt b hb;have:=hx1.size;omega
 have fR:∀b,(Value.slice aR (aS r).length cR).ownBlock=some b->w.heap.size<=b/\b<w1.heap.size:=λb hb=>by have:=hL1.lt b hb;have:=hx0.size;omega
 have hLm:∀x,x∈aS l->x<s.D.length:=λx hx=>hl x (bU.1 hx)
 have hRm:∀x,x∈aS r->x<s.D.length:=λx hx=>hr x (bU.1 hx)
 have FL:=aI fL;have FR:=aI fR;clear hL0 hL1 fL fR hx1 hx0;generalize hL:aS l=L at *;generalize hR:aS r=R at *;go_wp2
 go_loopw [7,8,10,30] (λkv bn _ ii wr=>∃k:Nat,k<=L.length/\ii=.int .i64 (k:Int)/\bn=.int .i64 (eH s.D (L.take k))/\wr.ownsRow w1.heap.size 5 1 kv ([]++jG (L.take k)).length (u8s ([]++jG (L.take k)))/\Ext w1 wr) (λ_ _ _ ii _=>L.length-(intOf ii).toNat)
 case atStart=>exact⟨0,az _,rfl,rfl,hK0,hx3⟩
 case round=>
  obtain⟨k,hk,rfl,rfl,hown,hE⟩:=hrel;by_cases hlt:k<L.length
  .have h1:((k:Nat):Int)<((L.length:Nat):Int):=by omega
   obtain⟨aq,cq,e1,-,-,hcl⟩:=id Y7;simp only[gz,aP,true_and]at e1;obtain⟨rfl,rfl⟩:=e1;obtain⟨b,off,rfl,hcell⟩:=hcl (by rw[aP];omega);have hck:=hcell k (by rw[aP];exact hlt);rw[fD hlt]at hck;have lK:=dP hE hck;have hxk:=hLm (L[k]) (aj hlt);obtain⟨ak,ckk,rfl,ac5,_⟩:=bu hown;have hkl:=q9 (L.take k);have agE:=List.length_take_le k L;obtain⟨gb,gc,c2,hgl,hgm,cb⟩:=(hP.ext hE1).zq hxk;have hbn:=kU hP.good.wf (L.take k) (λx hx=>hLm x (gy hx));have hbx:=aZ.mH hP.good.wf L[k];have HB:=aI (uU s.D hlt);have hz:=hE.size;have HO:=aI (λ(v:Value) (W:World) h=>IC (w:=W) (B:=w1.heap.size) (v:=v) hlt [] h);simp only[gX]at hown;clear hcl hcell
   go_wp2_with (first
    |(go_at_call 173;refine(AppendInt_36 L[k] (by omega) _ _ _ _ _ hown (by omega) (by omega)).mono ?_;rintro e w4 ⟨v4,rfl,CZ,hk4,hb4⟩;have hx4:=jQ hE hk4 (λx hx=>(hown.lt x hx).1);have Nl:=hk4.size;obtain⟨a4,c4,rfl,hn4,Af⟩:=bu CZ)
    |(at_builtin;refine dm rfl (.tmp 36) (.tmp 37) 39 rfl w1.heap.size 5 i0 (.int .u8 0) 1 1 underlying39 hi0 hz0 hz1 hz2 rfl (by decide) (.slice a4 ((jG (L.take k)).length+(yB L[k]).length) c4) _ _ rfl (CZ.alloc _) _ 1 _ [.int .u8 44] rfl rfl (.inr ⟨_,rfl,dA (bY _ _ _)⟩) one_cell (by unfold maxLen;have:=vQ 4 L[k];unfold yB;omega) (by have:=vQ 4 L[k];unfold yB;omega) (by rw[eX];omega) ?_
      intro v5 w5 ji hg5 hl5;have hx5:Ext w1 w5:=dw (bJ hx4 _) hg5 (λb hb=>(CZ.lt b hb).1);have c2':=dP hx5 c2;have cb':=dP hx5 cb))
   go_roundw
   case rel=>exact⟨k+1,by omega,by go_num,by rw[HB.out],HO.out _ _ ji,hx5⟩
   case measure=>simp[intOf];omega
  .have h1:¬(((k:Nat):Int)<((L.length:Nat):Int)):=by omega
   have hke:k=L.length:=(by omega);subst hke;simp only[cO,gX]at hown ⊢;obtain⟨ak,ckk,rfl,ac5,_⟩:=bu hown;have hkl:=q9 L;have hz:=hE.size
   go_wp2_with (at_builtin;refine dm rfl (.tmp 50) (.tmp 51) 39 rfl w1.heap.size 5 i0 (.int .u8 0) 1 1 underlying39 hi0 hz0 hz1 hz2 rfl (by decide) (.slice ak (jG L).length ckk) _ _ rfl (hown.alloc _) _ 1 _ [.int .u8 124] rfl rfl (.inr ⟨_,rfl,dA (bY _ _ _)⟩) one_cell (by unfold maxLen;omega) (by omega) (by rw[eX];omega) ?_
                intro v5 w5 ji hg5 hl5;have hx5:Ext w1 w5:=dw (bJ hE _) hg5 (λb hb=>(hown.lt b hb).1);have acG:=Ht ji (m:=((jG L++[124])++jG (R.take 0)).length) (ys:=u8s ((jG L++[124])++jG (R.take 0))) (by simp[jG]) (by simp[u8s,jG]))
   clear ji hg5 hl5 hown hE;obtain⟨wo,rfl⟩:∃wo:World,wo=wr:=⟨_,rfl⟩;go_loopw [7,8,12,55] (λkv bn _ ii wr=>∃k:Nat,k<=R.length/\ii=.int .i64 (k:Int)/\bn=.int .i64 (eH s.D (L++R.take k))/\wr.ownsRow w1.heap.size 5 1 kv ((jG L++[124])++jG (R.take k)).length (u8s ((jG L++[124])++jG (R.take k)))/\Ext w1 wr) (λ_ _ _ ii _=>R.length-(intOf ii).toNat)
   case atStart=>exact⟨0,az _,rfl,by simp,acG,hx5⟩
   case round=>
    clear acG hx5;obtain⟨k,hk,rfl,rfl,hown,hE⟩:=hrel;by_cases hlt:k<R.length
    .have h1:((k:Nat):Int)<((R.length:Nat):Int):=by omega
     obtain⟨aq,cq,e1,-,-,hcl⟩:=id hRI;simp only[gz,aP,true_and]at e1;obtain⟨rfl,rfl⟩:=e1;obtain⟨b,off,rfl,hcell⟩:=hcl (by rw[aP];omega);have hck:=hcell k (by rw[aP];exact hlt);rw[fD hlt]at hck;have lK:=dP hE hck;have hxk:=hRm (R[k]) (aj hlt);obtain⟨ak,ckk,rfl,ac5,_⟩:=bu hown;have amr:=q9 (R.take k);have agE:=List.length_take_le k R;obtain⟨gb,gc,c2,hgl,hgm,cb⟩:=(hP.ext hE1).zq hxk;have hbn:=kU hP.good.wf (L++R.take k) (λx hx=>by rcases aM.1 hx with hx|hx;exact hLm x hx;exact hRm x (gy hx));have hbx:=aZ.mH hP.good.wf R[k];have HB:=aI (sW s.D L hlt);have hz:=hE.size;have HO:=aI (λ(v:Value) (W:World) h=>IC (w:=W) (B:=w1.heap.size) (v:=v) hlt (jG L++[124]) h);have hn0:((jG L++[124])++jG (R.take k)).length<=900000000:=(by simp;omega);generalize hK:(jG L++[124])++jG (R.take k)=K at hown hn0 HO;clear hcl hcell hK
     go_wp2_with (first
      |(go_at_call 173;refine(AppendInt_36 R[k] (by omega) _ _ _ _ _ hown (by omega) (by omega)).mono ?_;rintro e w4 ⟨v4,rfl,CZ,hk4,hb4⟩;have hx4:=jQ hE hk4 (λx hx=>(hown.lt x hx).1);have Nl:=hk4.size;obtain⟨a4,c4,rfl,hn4,Af⟩:=bu CZ)
      |(at_builtin;refine dm rfl (.tmp 61) (.tmp 62) 39 rfl w1.heap.size 5 i0 (.int .u8 0) 1 1 underlying39 hi0 hz0 hz1 hz2 rfl (by decide) (.slice a4 (K.length+(yB R[k]).length) c4) _ _ rfl (CZ.alloc _) _ 1 _ [.int .u8 44] rfl rfl (.inr ⟨_,rfl,dA (bY _ _ _)⟩) one_cell (by unfold maxLen;have:=vQ 4 R[k];unfold yB;omega) (by have:=vQ 4 R[k];unfold yB;omega) (by rw[eX];omega) ?_
        intro v5 w5 ji hg5 hl5;have hx5:Ext w1 w5:=dw (bJ hx4 _) hg5 (λb hb=>(CZ.lt b hb).1);have c2':=dP hx5 c2;have cb':=dP hx5 cb))
     go_roundw
     case rel=>exact⟨k+1,by omega,by go_num,by rw[HB.out],HO.out _ _ ji,hx5⟩
     case measure=>simp[intOf];omega
    .have h1:¬(((k:Nat):Int)<((R.length:Nat):Int)):=by omega
     have hke:k=R.length:=(by omega);subst hke;simp only[cO]at hown ⊢;have hkey:(jG L++[124])++jG R=sK L R:=(by simp[sK]);rw[hkey]at hown;obtain⟨gk,ck,rfl,hgk,hcv⟩:=RZ hown (by simp[sK];omega);have Tx:=ah hE1 hE;have Qh:=hP.ext Tx;obtain⟨f,hM,hf1,hf2⟩:=Qh.find;have hkz:(sK L R).length<=900000000:=(by have:=q9 L;have:=q9 R;simp[sK];omega);obtain⟨kl,hkl⟩:=R5 (mG (sK L R)) (by unfold maxLen;simp only[mG,ByteArray.size,List.size_toArray,bH];omega);have hlk:=λ(W:World) (hW:W.heap[h]?=wr.heap[h]?)=>(hM.keep hW).look BM underlying125 (Gi W) hkl true
     have c3:=Qh.c3;have HEL:=aI hE;clear hown hE;cases Vv:f (.string (mG (sK L R)))with
     |some v=>
      obtain⟨i,hi,e1,rfl⟩:=hf2 _ _ Vv;have HE:=aI e1;clear e1;simp only[Vv,gM,Option.isSome_some,if_true]at hlk;go_upto_region 17 with fail
      refine mQ (λW=>W.cell? ⟨pp,3,none⟩=some (.map (some h))/\(convert 39 9 (.slice (some ⟨gk,0,none⟩) (sK L R).length ck)).run prog W=.ok (.string (mG (sK L R))) W/\(Instr.lookup 125 (.map (some h)) (.string (mG (sK L R))) true).run prog W=.ok (.tuple #[.int .i64 (i:Int),.bool true]) W) [11] GY ⟨c3,hcv _ rfl,hlk _ rfl⟩ (λai aa=>?_);(refine bg 0 ai aa ?_;refine bg 1 ai aa ?_;refine bg 2 ai aa ?_;refine bg 3 ai aa ?_;refine bg 4 ai aa ?_;refine bg 5 ai aa ?_;refine bg 6 ai aa ?_;refine bg 7 ai aa ?_;refine bg 8 ai aa ?_;refine bg 9 ai aa ?_;refine bg 10 ai aa ?_);refine mM ai [11] [_] ?_;go_wp2_with fail
      go_ret
      refine⟨s,i,rfl,jd.refl hP (ah Tx (dz ⟨_,rfl⟩)),⟨?_,.inl rfl⟩,rfl⟩;have hw:=hP.good.wf i s.D[i] (ae hi);have e2:=R3 (a:=(L,R)) (b:=s.D[i]) (λx hx=>by rcases aM.1 hx with hx|hx;have:=hLm x hx;omega;have:=hRm x hx;omega) (λx hx=>by rcases aM.1 hx with hx|hx;have:=hw.1 x hx;omega;have:=hw.2 x hx;omega) HE.out;rw[ae hi,<-e2,<-hL,<-hR]
     |none=>
      simp only[Vv,Option.getD_none,Option.isSome_none,if_true]at hlk;go_upto_region 17 with fail
      refine mQ (λW=>W.cell? ⟨pp,3,none⟩=some (.map (some h))/\(convert 39 9 (.slice (some ⟨gk,0,none⟩) (sK L R).length ck)).run prog W=.ok (.string (mG (sK L R))) W/\(Instr.lookup 125 (.map (some h)) (.string (mG (sK L R))) true).run prog W=.ok (.tuple #[.int .i64 0,.bool false]) W) [11] GY ⟨c3,hcv _ rfl,hlk _ rfl⟩ (λai aa=>?_);(refine bg 0 ai aa ?_;refine bg 1 ai aa ?_;refine bg 2 ai aa ?_;refine bg 3 ai aa ?_;refine bg 4 ai aa ?_;refine bg 5 ai aa ?_;refine bg 6 ai aa ?_;refine bg 7 ai aa ?_;refine bg 8 ai aa ?_;refine bg 9 ai aa ?_;refine bg 10 ai aa ?_);refine mM ai [11] [_] ?_;clear ai aa hlk;have Y3:bX wr.drew pp h s:=Qh.ext (dz ⟨1,rfl⟩);obtain⟨ab,cb,eb,hb1,hb2⟩:=bu Y3.born;obtain⟨xl,hxl,hil⟩:=Y3.left;obtain⟨xr,wY,hir⟩:=Y3.right;obtain⟨al,cl,el,hl1,hl2⟩:=bu hxl;obtain⟨ar,cr,er,hr1,hr2⟩:=bu wY;have c2:=Y3.c2;rw[eb]at c2;go_upto_region 21 with fail
      have aaw:bX wr.drew.drew pp h s:=Y3.ext (dz ⟨1,rfl⟩);have c3':=aaw.c3;refine mQ (λW=>W.cell? ⟨pp,3,none⟩=some (.map (some h))/\(convert 39 9 (.slice (some ⟨gk,0,none⟩) (sK L R).length ck)).run prog W=.ok (.string (mG (sK L R))) W) [7] QZ ⟨c3',hcv _ rfl⟩ (λai aa=>?_);(refine bg 0 ai aa ?_;refine bg 1 ai aa ?_;refine bg 2 ai aa ?_;refine bg 3 ai aa ?_;refine bg 4 ai aa ?_;refine bg 5 ai aa ?_;refine bg 6 ai aa ?_);refine mM ai [7] [_] ?_;clear ai aa;have jk:=aaw.box;rw[el,er,eb]at jk;have acS:(Value.slice al s.D.length cl).ownBlock≠some pp:=λe=>(hP.Ev pp (.inl (by rw[el];exact e))).1 rfl
      have ZQ:(Value.slice ar s.D.length cr).ownBlock≠some pp:=λe=>(hP.Ev pp (.inr (.inl (by rw[er];exact e)))).1 rfl
      have aak:(Value.slice ab s.D.length cb).ownBlock≠some pp:=λe=>(hP.Ev pp (.inr (.inr (by rw[eb];exact e)))).1 rfl
      have hlr:∀b,(Value.slice ar s.D.length cr).ownBlock=some b->(Value.slice al s.D.length cl).ownBlock≠some b:=λb h1 h2=>(hP.Zc b (by rw[el];exact h2)).1 (by rw[er];exact h1)
      have hlb:∀b,(Value.slice ab s.D.length cb).ownBlock=some b->(Value.slice al s.D.length cl).ownBlock≠some b:=λb h1 h2=>(hP.Zc b (by rw[el];exact h2)).2 (by rw[eb];exact h1)
      have hrb:∀b,(Value.slice ab s.D.length cb).ownBlock=some b->(Value.slice ar s.D.length cr).ownBlock≠some b:=λb h1 h2=>hP.ap4 b (by rw[er];exact h2) (by rw[eb];exact h1)
      have aco:wr.drew.drew.ownsRow 0 41 1 (.slice al s.D.length cl) s.D.length xl:=(by rw[<-el];exact hxl);have ack:wr.drew.drew.ownsRow 0 41 1 (.slice ar s.D.length cr) s.D.length xr:=(by rw[<-er];exact wY);have afV:wr.drew.drew.ownsRow 0 3 1 (.slice ab s.D.length cb) s.D.length ((s.D.mapIdx λi _=>(aZ.born (vl s.D i):Int)).map (Value.int .i64)):=(by rw[<-eb];exact aaw.born);have hM2:fM prog 9 wr.drew.drew h s.D.length f:=hM.keep rfl;have S9:∀b,(Value.slice al s.D.length cl).ownBlock=some b\/(Value.slice ar s.D.length cr).ownBlock=some b\/(Value.slice ab s.D.length cb).ownBlock=some b->b≠h:=λb hb=>by
       have:=(hP.Ev b (by rw[el,er,eb];exact hb)).2;omega
      have agc:pp≠h:=(by have:=hP.Zd;omega);have FI:=jW hil hir;have FE:=yD el er eb;have HFK:=aI Vv;clear hil hir Vv eb el er Qh Y3 hM;obtain⟨iS,hiS,zS0,zS1,zS2⟩:=info_parts O7;obtain⟨iI,hiI,zI0,zI1,zI2⟩:=info_parts fB
      go_wp2_with (first
       |(at_mapUpdate;refine iO rfl _ _ _ 125 rfl 9 3 BM underlying125 h s.D.length f rfl hM2 (by unfold maxLen;omega) _ _ rfl rfl ⟨kl,hkl⟩ ?_
         intro w21 ahj SY;have aam:w21.heap[pp]?=_:=((gH SY).block pp (bq jk) agc).trans jk;obtain⟨p1,q1,r1⟩:=vP aam;have d10:=q1 0 _ rfl;have e10:=r1 0;have acn:=aV aco (gH SY) (λb hb=>S9 b (.inl hb));have acj:=aV ack (gH SY) (λb hb=>S9 b (.inr (.inl hb)));have acr:=aV afV (gH SY) (λb hb=>S9 b (.inr (.inr hb)));clear q1 r1)
       |(at_builtin;refine dm rfl (.tmp 103) (.tmp 105) 154 rfl 0 41 iS (.slice none 0 0) 1 24 underlying154 hiS zS0 zS1 zS2 rfl (by decide) (.slice al s.D.length cl) s.D.length xl rfl (acn.alloc _) _ 1 _ [.slice aL L.length cL] rfl rfl (.inr ⟨_,rfl,dA (bY _ _ _)⟩) Ba (by unfold maxLen;omega) (by omega) (az _) ?_
         intro v2 w2 ho2 hg2 hl2;have hb2:=(rE (j:=0) aam acS hg2 ho2 hl2).1;obtain⟨p2,q2,r2⟩:=vP (AR aam hg2 acS);have d20:=q2 0 _ rfl;have d21:=q2 1 _ rfl;have e20:=r2 0;have afS:=ER acj hg2 hlr;have afU:=ER acr hg2 hlb;obtain⟨a2,k2,rfl,_,_⟩:=bu ho2;clear q2 r2)
       |(at_builtin;refine dm rfl (.tmp 113) (.tmp 115) 154 rfl 0 41 iS (.slice none 0 0) 1 24 underlying154 hiS zS0 zS1 zS2 rfl (by decide) (.slice ar s.D.length cr) s.D.length xr rfl ((ownsRow_setCell_other afS ZQ _).alloc _) _ 1 _ [.slice aR R.length cR] rfl rfl (.inr ⟨_,rfl,dA (rZ _ _ _ _ _)⟩) Ba (by unfold maxLen;omega) (by omega) (az _) ?_
         intro v3 w3 ho3 hg3 hl3;have hb3:=(rE (j:=1) hb2 ZQ hg3 ho3 hl3).1;obtain⟨p3,q3,r3⟩:=vP (AR hb2 hg3 ZQ);have d31:=q3 1 _ rfl;have d32:=q3 2 _ rfl;have e31:=r3 1;have afT:=ER (ownsRow_setCell_other afU (a:=⟨pp,0,none⟩) aak _) hg3 hrb;obtain⟨a3,k3,rfl,_,_⟩:=bu ho3;clear q3 r3)
       |(at_builtin;refine dm rfl (.tmp 123) (.tmp 125) 41 rfl 0 3 iI (.int .i64 0) 1 8 underlying41 hiI zI0 zI1 zI2 rfl (by decide) (.slice ab s.D.length cb) s.D.length _ rfl ((ownsRow_setCell_other afT aak _).alloc _) _ 1 _ [.int .i64 (eH s.D (L++R))] rfl rfl (.inr ⟨_,rfl,dA (rZ _ _ _ _ _)⟩) one_cell (by unfold maxLen;omega) (by omega) (az _) ?_
         intro v4 w4 CZ hg4 hl4;obtain⟨p4,q4,r4⟩:=vP (AR hb3 hg4 aak);have d42:=q4 2 _ rfl;have e42:=r4 2;obtain⟨a4,k4,rfl,_,_⟩:=bu CZ;clear q4 r4))
      go_ret
      subst hL hR;have hEd:Ext w wr.drew.drew:=ah Tx (dz ⟨2,rfl⟩);have aaF:Ext w1 wr.drew.drew:=ah HEL.out (dz ⟨2,rfl⟩);have hz1':=aaF.size;have e1:=FE.out.1;have e2:=FE.out.2.1;have e3:=FE.out.2.2
      exact RB hP hEd hD hl hr (Y7.ext aaF) (hRI.ext aaF) (λb hb=>⟨(FL.out b hb).1,aJ (FL.out b hb).2 hz1'⟩) (λb hb=>⟨(FR.out b hb).1,aJ (FR.out b hb).2 hz1'⟩) hf1 hf2 HFK.out ahj SY
       (by rw[e1];exact aco) FI.out.1 (by rw[e2];exact ack) FI.out.2 (by rw[e1];exact hg2) ho2 (by rw[e1];exact hl2) (by rw[e2];exact hg3) ho3 (by rw[e2];exact hl3) (by rw[e3];exact hg4) CZ (by rw[e3];exact hl4)
