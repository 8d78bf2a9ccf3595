/-
  The program's pool with its map of sums: what a call of sum leaves, its own two lists; no condition. (2 texts.)
-/
import Derived.Test.YteknjeohbcgpdaaGreatDoorK30
set_option maxRecDepth 100000
namespace Go.Proofs.YteknjeohbcgpdaaGreatDoor
open Tryz
section
open Go.RowKit
open bz (dC Nd vl Same)
variable {w:World} {B n k:Nat} {v:Value} {l:List Nat}
theorem RY(w:World)(B c:Nat)(hB:B<=w.heap.size)(hc:c<=maxLen):(w.alloc (.cells (madeCells #[Value.int .u8 0] c) 5)).ownsRow B 5 1 (.slice (some ⟨w.heap.size,0,none⟩) 0 c) 0 (vz (ku [])):=
 ⟨by simp[vz,ku],.inr ⟨w.heap.size,c,madeCells #[Value.int .u8 0] c,rfl,hB,heap_alloc_new w _,az _,hc,by rw[size_madeCells];simp,by simp[vz,ku]⟩⟩
theorem wD:∀k n,(xU k n).length<=k
 | 0,n=>by simp[xU]
 |k+1,n=>by
  rw[xU];split
  .simp
  .have:=wD k (n / 36);simp;omega
theorem rG:∀l:List Nat,(ku l).length<=5*l.length
 |[]=>by simp[ku]
 |i :: l=>by
  have:=rG l;have h:(zm i).length<=4:=wD 4 i;unfold ku at this ⊢;rw[gV,aj,aj];simp only[dO,List.length_nil];omega
theorem IX{e m:Nat}{xs ys:List Value}(h:w.ownsRow B e 1 v n xs)(hn:n=m)(hx:xs=ys):w.ownsRow B e 1 v m ys:=by subst hn;subst hx;exact h
theorem Jl(hk:k<l.length):ku (l.take (k+1))=ku (l.take k)++(zm l[k]++[44]):=by
 rw[bg hk,Pd]
theorem Jm(hk:k<l.length)(p:List Nat)(h:w.ownsRow B 5 1 v ((p++ku (l.take k)).length+(zm l[k]).length+1) (vz (p++ku (l.take k))++vz (zm l[k])++[.int .u8 44])):
 w.ownsRow B 5 1 v (p++ku (l.take (k+1))).length (vz (p++ku (l.take (k+1)))):=by
 refine IX h ?_ ?_
 .rw[Jl hk];simp;omega
 .rw[Jl hk];simp[vz]
theorem RZ{W:World}{key:List Nat}(h:W.ownsRow B 5 1 v key.length (vz key))(hk:0<key.length):
 ∃g cap,v=.slice (some ⟨g,0,none⟩) key.length cap/\g<W.heap.size/\∀W',W'.heap[g]?=W.heap[g]?->(convert 38 9 (.slice (some ⟨g,0,none⟩) key.length cap)).run prog W'=.ok (.string (nG key)) W':=by
 obtain⟨g,cap,e,_,_,hc⟩:=iB h hk;have hc0:=hc 0 (by omega);rw[vz,dB,aa hk]at hc0;refine⟨g,cap,e,lt_of_cell hc0,λW' hW=>?_⟩;have:=run_convert_bytes_arg (P:=prog) W' 38 5 underlying38 underlying5 g 0 key.length cap (dx key) (by rw[bu]) (λi hi=>by
  rw[World.cell?_of_block (w:=W) hW,gK,hc i (by omega),vz,dB,aa hi];simp[List.getD,dx,hi]) 9 underlying9
 rw[this];have e2:strOfNums (dx key)=nG key:=by
  unfold strOfNums nG dx;rw[jC];rfl
 rw[e2]
theorem El(w:World):(zeroValue 3).run prog w=.ok (.int .i64 0) w:=by kernel_rfl
theorem Pf:(prog.info? 80).map (λi=>(i.zero,i.size,i.bytes))=some (some (.slice none 0 0),1,24):=by kernel_rfl
theorem Cc{a:Option Addr}{c:Nat}:∀u∈([Value.slice a n c]:List Value),u.oneCell'=true:=by
 intro u hu;simp at hu;subst hu;rfl
def IE:List Row:=[⟨0,[],77,[0]⟩,⟨1,[0],78,[76]⟩,⟨2,[1],79,[77]⟩,⟨3,[2],80,[78]⟩,⟨4,[],81,[7]⟩,⟨5,[4],82,[80]⟩,⟨6,[3,5],83,[79,81]⟩,⟨7,[6],76,[82]⟩,⟨8,[7],84,[75]⟩,⟨9,[7],85,[75]⟩,⟨10,[8,0,1,2,3,4,5,6,7,8],14,[83]⟩,⟨11,[9,10,0,1,2,3,4,5,6,7,8,9,10],15,[84]⟩]
def Rc:List Row:=[⟨0,[],93,[0]⟩,⟨1,[0],94,[92]⟩,⟨2,[1],95,[93]⟩,⟨3,[2],96,[94]⟩,⟨4,[],97,[7]⟩,⟨5,[4],98,[96]⟩,⟨6,[],99,[15]⟩,⟨7,[3,5,6,0,1,2,3,4,5,6],0,[95,97,98]⟩]
set_option maxHeartbeats 4000000 in
theorem yF(pp h:Nat)(s:iQ)(vl_ vr_:Value)(l r:List Nat)(w:World)(hP:dm w pp h s)(hD:s.D.length+1<=900000)(hl:∀x,x∈l->x<s.D.length)(hr:∀x,x∈r->x<s.D.length)
 (hln:l.length<=1000000) (hrn:r.length<=1000000) (hvl:Ints w vl_ (dx l)) (hvr:Ints w vr_ (dx r)):
 Calls prog 119 #[.pointer (some ⟨pp,0,none⟩),vl_,vr_] w (Ah pp h s l r w):=by
 obtain⟨i0,hi0,hz0,hz1,hz2⟩:=info_parts Nw;obtain⟨la,lc,rfl,-⟩:=id hvl;obtain⟨ra,rc,rfl,-⟩:=id hvr;go_enter Tryz.func119,Tryz.ntmps119
 have ale:Ext w w:=Below.refl _ _;go_upto_region 2 with(go_at_call 168;refine(Gq _ _ _ (by first|exact hvl|exact hvr.ext hx1) (by rw[bu];omega)).mono ?_;rintro e w1 ⟨v1,rfl,hL1,hx1⟩;rw[Ua]at hL1)
 rename_i w0 v0 hL0 hx0 K1 a1;have hE1:=ay hx0 hx1;obtain⟨aL,cL,rfl,hcL,_⟩:=bD hL0;obtain⟨aR,cR,rfl,hcR,_⟩:=bD hL1;simp only[bu]at *;have hsl:=pW l;have hsr:=pW r;have hmk:=λw:World=>run_make (P:=prog) w 38 5 i0 (.int .u8 0) underlying38 hi0 hz0 .i64 .i64 (0:Int) (4*(((bE l).length:Int)+((bE r).length:Int))+1) (by omega) (by omega) (by rw[hz2];omega) (by omega)
 simp only[hz1,jM]at hmk;go_upto_region 3 with fail
 clear hmk;have hK0:=RY w1 w1.heap.size (4*((bE l).length+(bE r).length)+1) (ai _) (by unfold maxLen;omega);have hx3:Ext w1 (w1.alloc (.cells (madeCells #[Value.int .u8 0] (4*((bE l).length+(bE r).length)+1)) 5)):=by go_grown
 generalize w1.alloc (.cells (madeCells #[Value.int .u8 0] (4*((bE l).length+(bE r).length)+1)) 5)=W3 at *;have X3:=(Ints.eO hL0 (by rw[bu];omega)).ext hx1;have hRI:=Ints.eO hL1 (by rw[bu];omega);have fL:∀b,(Value.slice aL (bE l).length cL).ownBlock=some b->w.heap.size<=b/\b<w1.heap.size:=λb hb=>by have:=hL0.lt b hb;have:=hx1.size;omega
 have fR:∀b,(Value.slice aR (bE r).length cR).ownBlock=some b->w.heap.size<=b/\b<w1.heap.size:=λb hb=>by have:=hL1.lt b hb;have:=hx0.size;omega
 have hLm:∀x,x∈bE l->x<s.D.length:=λx hx=>hl x (bZ.1 hx)
 have hRm:∀x,x∈bE r->x<s.D.length:=λx hx=>hr x (bZ.1 hx)
 have FL:=aH fL;have FR:=aH fR;clear hL0 hL1 fL fR hx1 hx0;generalize hL:bE l=L at *;generalize hR:bE r=R at *;go_wp2
 go_loopw [7,8,10,30] (λkv bn _ ii wr=>∃k:Nat,k<=L.length/\ii=.int .i64 (k:Int)/\bn=.int .i64 (fJ s.D (L.take k))/\wr.ownsRow w1.heap.size 5 1 kv ([]++ku (L.take k)).length (vz ([]++ku (L.take k)))/\Ext w1 wr) (λ_ _ _ ii _=>L.length-(intOf ii).toNat)
 case atStart=>exact⟨0,az _,rfl,rfl,hK0,hx3⟩
 case round=>
  obtain⟨k,hk,rfl,rfl,hown,hE⟩:=hrel;by_cases hlt:k<L.length
  .have h1:((k:Nat):Int)<((L.length:Nat):Int):=by omega
   obtain⟨aq,cq,e1,-,-,hcl⟩:=id X3;simp only[Value.slice.injEq,bu,true_and]at e1;obtain⟨rfl,rfl⟩:=e1;obtain⟨b,off,rfl,hcell⟩:=hcl (by rw[bu];omega);have hck:=hcell k (by rw[bu];exact hlt);rw[fT hlt]at hck;have nz:=(hE.cell (lt_of_cell hck)).trans hck;have hxk:=hLm (L[k]) (ah hlt);obtain⟨ak,ckk,rfl,ach,_⟩:=bD hown;have hkl:=rG (L.take k);have afK:=List.length_take_le k L;obtain⟨gb,gc,c2,hgl,hgm,cb⟩:=(hP.ext hE1).Ad hxk;have hbn:=l5 hP.good.wf (L.take k) (λx hx=>hLm x (gU hx));have hbx:=bz.nH hP.good.wf L[k];have HB:=aH (uZ s.D hlt);have hz:=hE.size;have HO:=aH (λ(v:Value) (W:World) h=>Jm (w:=W) (B:=w1.heap.size) (v:=v) hlt [] h);simp only[fB]at hown;clear hcl hcell
   go_wp2_with (first
    |(go_at_call 169;refine(AppendInt_36 L[k] (by omega) _ _ _ _ _ hown (by omega) (by omega)).mono ?_;rintro e w4 ⟨v4,rfl,He,hk4,hb4⟩;have hx4:=kP hE hk4 (λx hx=>(hown.lt x hx).1);have Nz:=hk4.size;obtain⟨a4,c4,rfl,hn4,Gf⟩:=bD He)
    |(at_builtin;refine bQ rfl (.tmp 36) (.tmp 37) 38 rfl w1.heap.size 5 i0 (.int .u8 0) 1 1 underlying38 hi0 hz0 hz1 hz2 rfl (by decide) (.slice a4 ((ku (L.take k)).length+(zm L[k]).length) c4) _ _ rfl (He.alloc _) _ 1 _ [.int .u8 44] rfl rfl (.inr ⟨_,rfl,cK (bP _ _ _)⟩) one_cell (by unfold maxLen;have:=wD 4 L[k];unfold zm;omega) (by have:=wD 4 L[k];unfold zm;omega) (by rw[fw];omega) ?_
      intro v5 w5 fI hg5 hl5;have hx5:Ext w1 w5:=dZ (bK hx4 _) hg5 (λb hb=>(He.lt b hb).1);have c2':=(hx5.cell (lt_of_cell c2)).trans c2;have cb':=(hx5.cell (lt_of_cell cb)).trans cb))
   go_roundw
   case rel=>exact⟨k+1,by omega,by go_num,by rw[HB.out],HO.out _ _ fI,hx5⟩
   case measure=>simp[intOf];omega
  .have h1:¬(((k:Nat):Int)<((L.length:Nat):Int)):=by omega
   have hke:k=L.length:=(by omega);subst hke;simp only[dz,fB]at hown ⊢;obtain⟨ak,ckk,rfl,ach,_⟩:=bD hown;have hkl:=rG L;have hz:=hE.size
   go_wp2_with (at_builtin;refine bQ rfl (.tmp 50) (.tmp 51) 38 rfl w1.heap.size 5 i0 (.int .u8 0) 1 1 underlying38 hi0 hz0 hz1 hz2 rfl (by decide) (.slice ak (ku L).length ckk) _ _ rfl (hown.alloc _) _ 1 _ [.int .u8 124] rfl rfl (.inr ⟨_,rfl,cK (bP _ _ _)⟩) one_cell (by unfold maxLen;omega) (by omega) (by rw[fw];omega) ?_
                intro v5 w5 fI hg5 hl5;have hx5:Ext w1 w5:=dZ (bK hE _) hg5 (λb hb=>(hown.lt b hb).1);have abO:=IX fI (m:=((ku L++[124])++ku (R.take 0)).length) (ys:=vz ((ku L++[124])++ku (R.take 0))) (by simp[ku]) (by simp[vz,ku]))
   clear fI hg5 hl5 hown hE;obtain⟨wo,rfl⟩:∃wo:World,wo=wr:=⟨_,rfl⟩;go_loopw [7,8,12,55] (λkv bn _ ii wr=>∃k:Nat,k<=R.length/\ii=.int .i64 (k:Int)/\bn=.int .i64 (fJ s.D (L++R.take k))/\wr.ownsRow w1.heap.size 5 1 kv ((ku L++[124])++ku (R.take k)).length (vz ((ku L++[124])++ku (R.take k)))/\Ext w1 wr) (λ_ _ _ ii _=>R.length-(intOf ii).toNat)
   case atStart=>exact⟨0,az _,rfl,by simp,abO,hx5⟩
   case round=>
    clear abO hx5;obtain⟨k,hk,rfl,rfl,hown,hE⟩:=hrel;by_cases hlt:k<R.length
    .have h1:((k:Nat):Int)<((R.length:Nat):Int):=by omega
     obtain⟨aq,cq,e1,-,-,hcl⟩:=id hRI;simp only[Value.slice.injEq,bu,true_and]at e1;obtain⟨rfl,rfl⟩:=e1;obtain⟨b,off,rfl,hcell⟩:=hcl (by rw[bu];omega);have hck:=hcell k (by rw[bu];exact hlt);rw[fT hlt]at hck;have nz:=(hE.cell (lt_of_cell hck)).trans hck;have hxk:=hRm (R[k]) (ah hlt);obtain⟨ak,ckk,rfl,ach,_⟩:=bD hown;have alG:=rG (R.take k);have afK:=List.length_take_le k R;obtain⟨gb,gc,c2,hgl,hgm,cb⟩:=(hP.ext hE1).Ad hxk;have hbn:=l5 hP.good.wf (L++R.take k) (λx hx=>by rcases aK.1 hx with hx|hx;exact hLm x hx;exact hRm x (gU hx));have hbx:=bz.nH hP.good.wf R[k];have HB:=aH (tK s.D L hlt);have hz:=hE.size;have HO:=aH (λ(v:Value) (W:World) h=>Jm (w:=W) (B:=w1.heap.size) (v:=v) hlt (ku L++[124]) h);have hn0:((ku L++[124])++ku (R.take k)).length<=900000000:=(by simp;omega);generalize hK:(ku L++[124])++ku (R.take k)=K at hown hn0 HO;clear hcl hcell hK
     go_wp2_with (first
      |(go_at_call 169;refine(AppendInt_36 R[k] (by omega) _ _ _ _ _ hown (by omega) (by omega)).mono ?_;rintro e w4 ⟨v4,rfl,He,hk4,hb4⟩;have hx4:=kP hE hk4 (λx hx=>(hown.lt x hx).1);have Nz:=hk4.size;obtain⟨a4,c4,rfl,hn4,Gf⟩:=bD He)
      |(at_builtin;refine bQ rfl (.tmp 61) (.tmp 62) 38 rfl w1.heap.size 5 i0 (.int .u8 0) 1 1 underlying38 hi0 hz0 hz1 hz2 rfl (by decide) (.slice a4 (K.length+(zm R[k]).length) c4) _ _ rfl (He.alloc _) _ 1 _ [.int .u8 44] rfl rfl (.inr ⟨_,rfl,cK (bP _ _ _)⟩) one_cell (by unfold maxLen;have:=wD 4 R[k];unfold zm;omega) (by have:=wD 4 R[k];unfold zm;omega) (by rw[fw];omega) ?_
        intro v5 w5 fI hg5 hl5;have hx5:Ext w1 w5:=dZ (bK hx4 _) hg5 (λb hb=>(He.lt b hb).1);have c2':=(hx5.cell (lt_of_cell c2)).trans c2;have cb':=(hx5.cell (lt_of_cell cb)).trans cb))
     go_roundw
     case rel=>exact⟨k+1,by omega,by go_num,by rw[HB.out],HO.out _ _ fI,hx5⟩
     case measure=>simp[intOf];omega
    .have h1:¬(((k:Nat):Int)<((R.length:Nat):Int)):=by omega
     have hke:k=R.length:=(by omega);subst hke;simp only[dz]at hown ⊢;have hkey:(ku L++[124])++ku R=sW L R:=(by simp[sW]);rw[hkey]at hown;obtain⟨gk,ck,rfl,hgk,hcv⟩:=RZ hown (by simp[sW];omega);have TH:=ay hE1 hE;have Qm:=hP.ext TH;obtain⟨f,hM,hf1,hf2⟩:=Qm.find;have hkz:(sW L R).length<=900000000:=(by have:=rG L;have:=rG R;simp[sW];omega);obtain⟨kl,hkl⟩:=R5 (nG (sW L R)) (by unfold maxLen;simp only[nG,ByteArray.size,List.size_toArray,aJ];omega);have hlk:=λ(W:World) (hW:W.heap[h]?=wr.heap[h]?)=>(hM.keep hW).look CU underlying113 (El W) hkl true
     have c3:=Qm.c3;have Ei:=aH hE;clear hown hE;cases LZ:f (.string (nG (sW L R)))with
     |some v=>
      obtain⟨i,hi,e1,rfl⟩:=hf2 _ _ LZ;have HE:=aH e1;clear e1;simp only[LZ,gz,Option.isSome_some,if_true]at hlk;go_upto_region 17 with fail
      refine bW (λW=>W.cell? ⟨pp,3,none⟩=some (.map (some h))/\(convert 38 9 (.slice (some ⟨gk,0,none⟩) (sW L R).length ck)).run prog W=.ok (.string (nG (sW L R))) W/\(Instr.lookup 113 (.map (some h)) (.string (nG (sW L R))) true).run prog W=.ok (.tuple #[.int .i64 (i:Int),.bool true]) W) [11] IE (by kernel_rfl) ⟨by kernel_rfl,by kernel_rfl,by kernel_rfl⟩ ⟨c3,hcv _ rfl,hlk _ rfl⟩ (λax ae=>?_);(refine bT 0 ax ae ?_;refine bT 1 ax ae ?_;refine bT 2 ax ae ?_;refine bT 3 ax ae ?_;refine bT 4 ax ae ?_;refine bT 5 ax ae ?_;refine bT 6 ax ae ?_;refine bT 7 ax ae ?_;refine bT 8 ax ae ?_;refine bT 9 ax ae ?_;refine bT 10 ax ae ?_);refine ow ax [11] [_] ?_;go_wp2_with fail
      go_ret
      refine⟨s,i,rfl,jK.refl hP (ay TH (bS ⟨_,rfl⟩)),⟨?_,.inl rfl⟩,rfl⟩;have hw:=hP.good.wf i s.D[i] (aa hi);have e2:=R3 (a:=(L,R)) (b:=s.D[i]) (λx hx=>by rcases aK.1 hx with hx|hx;have:=hLm x hx;omega;have:=hRm x hx;omega) (λx hx=>by rcases aK.1 hx with hx|hx;have:=hw.1 x hx;omega;have:=hw.2 x hx;omega) HE.out;rw[aa hi,<-e2,<-hL,<-hR]
     |none=>
      simp only[LZ,Option.getD_none,Option.isSome_none,if_true]at hlk;go_upto_region 17 with fail
      refine bW (λW=>W.cell? ⟨pp,3,none⟩=some (.map (some h))/\(convert 38 9 (.slice (some ⟨gk,0,none⟩) (sW L R).length ck)).run prog W=.ok (.string (nG (sW L R))) W/\(Instr.lookup 113 (.map (some h)) (.string (nG (sW L R))) true).run prog W=.ok (.tuple #[.int .i64 0,.bool false]) W) [11] IE (by kernel_rfl) ⟨by kernel_rfl,by kernel_rfl,by kernel_rfl⟩ ⟨c3,hcv _ rfl,hlk _ rfl⟩ (λax ae=>?_);(refine bT 0 ax ae ?_;refine bT 1 ax ae ?_;refine bT 2 ax ae ?_;refine bT 3 ax ae ?_;refine bT 4 ax ae ?_;refine bT 5 ax ae ?_;refine bT 6 ax ae ?_;refine bT 7 ax ae ?_;refine bT 8 ax ae ?_;refine bT 9 ax ae ?_;refine bT 10 ax ae ?_);refine ow ax [11] [_] ?_;clear ax ae hlk;have TA:dm wr.drew pp h s:=Qm.ext (bS ⟨1,rfl⟩);obtain⟨ab,cb,eb,hb1,hb2⟩:=bD TA.born;obtain⟨xl,hxl,hil⟩:=TA.left;obtain⟨xr,J9,hir⟩:=TA.right;obtain⟨al,cl,el,hl1,hl2⟩:=bD hxl;obtain⟨ar,cr,er,hr1,hr2⟩:=bD J9;have c2:=TA.c2;rw[eb]at c2;go_upto_region 21 with fail
      have ZB:dm wr.drew.drew pp h s:=TA.ext (bS ⟨1,rfl⟩);have c3':=ZB.c3;refine bW (λW=>W.cell? ⟨pp,3,none⟩=some (.map (some h))/\(convert 38 9 (.slice (some ⟨gk,0,none⟩) (sW L R).length ck)).run prog W=.ok (.string (nG (sW L R))) W) [7] Rc (by kernel_rfl) ⟨by kernel_rfl,by kernel_rfl,by kernel_rfl⟩ ⟨c3',hcv _ rfl⟩ (λax ae=>?_);(refine bT 0 ax ae ?_;refine bT 1 ax ae ?_;refine bT 2 ax ae ?_;refine bT 3 ax ae ?_;refine bT 4 ax ae ?_;refine bT 5 ax ae ?_;refine bT 6 ax ae ?_);refine ow ax [7] [_] ?_;clear ax ae;have lC:=ZB.box;rw[el,er,eb]at lC;have ab2:(Value.slice al s.D.length cl).ownBlock≠some pp:=λe=>(hP.Dr pp (.inl (by rw[el];exact e))).1 rfl
      have YS:(Value.slice ar s.D.length cr).ownBlock≠some pp:=λe=>(hP.Dr pp (.inr (.inl (by rw[er];exact e)))).1 rfl
      have Zo:(Value.slice ab s.D.length cb).ownBlock≠some pp:=λe=>(hP.Dr pp (.inr (.inr (by rw[eb];exact e)))).1 rfl
      have hlr:∀b,(Value.slice ar s.D.length cr).ownBlock=some b->(Value.slice al s.D.length cl).ownBlock≠some b:=λb h1 h2=>(hP.Yb b (by rw[el];exact h2)).1 (by rw[er];exact h1)
      have hlb:∀b,(Value.slice ab s.D.length cb).ownBlock=some b->(Value.slice al s.D.length cl).ownBlock≠some b:=λb h1 h2=>(hP.Yb b (by rw[el];exact h2)).2 (by rw[eb];exact h1)
      have hrb:∀b,(Value.slice ab s.D.length cb).ownBlock=some b->(Value.slice ar s.D.length cr).ownBlock≠some b:=λb h1 h2=>hP.ap4 b (by rw[er];exact h2) (by rw[eb];exact h1)
      have aby:wr.drew.drew.ownsRow 0 80 1 (.slice al s.D.length cl) s.D.length xl:=(by rw[<-el];exact hxl);have abu:wr.drew.drew.ownsRow 0 80 1 (.slice ar s.D.length cr) s.D.length xr:=(by rw[<-er];exact J9);have ae6:wr.drew.drew.ownsRow 0 3 1 (.slice ab s.D.length cb) s.D.length ((s.D.mapIdx λi _=>(bz.born (vl s.D i):Int)).map (Value.int .i64)):=(by rw[<-eb];exact ZB.born);have hM2:gu prog 9 wr.drew.drew h s.D.length f:=hM.keep rfl;have Tg:∀b,(Value.slice al s.D.length cl).ownBlock=some b\/(Value.slice ar s.D.length cr).ownBlock=some b\/(Value.slice ab s.D.length cb).ownBlock=some b->b≠h:=λb hb=>by
       have:=(hP.Dr b (by rw[el,er,eb];exact hb)).2;omega
      have afn:pp≠h:=(by have:=hP.WZ;omega);have FI:=aH (And.intro hil hir);have FE:=aH (And.intro el (And.intro er eb));have HFK:=aH LZ;clear hil hir LZ eb el er Qm TA hM;obtain⟨iS,hiS,zS0,zS1,zS2⟩:=info_parts Pf;obtain⟨iI,hiI,zI0,zI1,zI2⟩:=info_parts iy
      go_wp2_with (first
       |(at_mapUpdate;refine iT rfl _ _ _ 113 rfl 9 3 CU underlying113 h s.D.length f rfl hM2 (by unfold maxLen;omega) _ _ rfl rfl ⟨kl,hkl⟩ ?_
         intro w21 ags Tf;have Zq:w21.heap[pp]?=_:=((gJ Tf).block pp (bG lC) afn).trans lC;obtain⟨p1,q1,r1⟩:=wC Zq;have d10:=q1 0 _ rfl;have e10:=r1 0;have abx:=bO aby (gJ Tf) (λb hb=>Tg b (.inl hb));have abt:=bO abu (gJ Tf) (λb hb=>Tg b (.inr (.inl hb)));have abz:=bO ae6 (gJ Tf) (λb hb=>Tg b (.inr (.inr hb)));clear q1 r1)
       |(at_builtin;refine bQ rfl (.tmp 103) (.tmp 105) 137 rfl 0 80 iS (.slice none 0 0) 1 24 underlying137 hiS zS0 zS1 zS2 rfl (by decide) (.slice al s.D.length cl) s.D.length xl rfl (abx.alloc _) _ 1 _ [.slice aL L.length cL] rfl rfl (.inr ⟨_,rfl,cK (bP _ _ _)⟩) Cc (by unfold maxLen;omega) (by omega) (az _) ?_
         intro v2 w2 ho2 hg2 hl2;have hb2:=(rP (j:=0) Zq ab2 hg2 ho2 hl2).1;obtain⟨p2,q2,r2⟩:=wC (BN Zq hg2 ab2);have d20:=q2 0 _ rfl;have d21:=q2 1 _ rfl;have e20:=r2 0;have ae3:=FQ abt hg2 hlr;have ae5:=FQ abz hg2 hlb;obtain⟨a2,k2,rfl,_,_⟩:=bD ho2;clear q2 r2)
       |(at_builtin;refine bQ rfl (.tmp 113) (.tmp 115) 137 rfl 0 80 iS (.slice none 0 0) 1 24 underlying137 hiS zS0 zS1 zS2 rfl (by decide) (.slice ar s.D.length cr) s.D.length xr rfl ((ownsRow_setCell_other ae3 YS _).alloc _) _ 1 _ [.slice aR R.length cR] rfl rfl (.inr ⟨_,rfl,cK (sQ _ _ _ _ _)⟩) Cc (by unfold maxLen;omega) (by omega) (az _) ?_
         intro v3 w3 ho3 hg3 hl3;have hb3:=(rP (j:=1) hb2 YS hg3 ho3 hl3).1;obtain⟨p3,q3,r3⟩:=wC (BN hb2 hg3 YS);have d31:=q3 1 _ rfl;have d32:=q3 2 _ rfl;have e31:=r3 1;have ae4:=FQ (ownsRow_setCell_other ae5 (a:=⟨pp,0,none⟩) Zo _) hg3 hrb;obtain⟨a3,k3,rfl,_,_⟩:=bD ho3;clear q3 r3)
       |(at_builtin;refine bQ rfl (.tmp 123) (.tmp 125) 80 rfl 0 3 iI (.int .i64 0) 1 8 underlying80 hiI zI0 zI1 zI2 rfl (by decide) (.slice ab s.D.length cb) s.D.length _ rfl ((ownsRow_setCell_other ae4 Zo _).alloc _) _ 1 _ [.int .i64 (fJ s.D (L++R))] rfl rfl (.inr ⟨_,rfl,cK (sQ _ _ _ _ _)⟩) one_cell (by unfold maxLen;omega) (by omega) (az _) ?_
         intro v4 w4 He hg4 hl4;obtain⟨p4,q4,r4⟩:=wC (BN hb3 hg4 Zo);have d42:=q4 2 _ rfl;have e42:=r4 2;obtain⟨a4,k4,rfl,_,_⟩:=bD He;clear q4 r4))
      go_ret
      subst hL hR;have hEd:Ext w wr.drew.drew:=ay TH (bS ⟨2,rfl⟩);have ZK:Ext w1 wr.drew.drew:=ay Ei.out (bS ⟨2,rfl⟩);have hz1':=ZK.size;have e1:=FE.out.1;have e2:=FE.out.2.1;have e3:=FE.out.2.2
      exact RI hP hEd hD hl hr (X3.ext ZK) (hRI.ext ZK) (λb hb=>⟨(FL.out b hb).1,aQ (FL.out b hb).2 hz1'⟩) (λb hb=>⟨(FR.out b hb).1,aQ (FR.out b hb).2 hz1'⟩) hf1 hf2 HFK.out ags Tf
       (by rw[e1];exact aby) FI.out.1 (by rw[e2];exact abu) FI.out.2 (by rw[e1];exact hg2) ho2 (by rw[e1];exact hl2) (by rw[e2];exact hg3) ho3 (by rw[e2];exact hl3) (by rw[e3];exact hg4) He (by rw[e3];exact hl4)
end
section
open Go.RowKit
open bz (dC Nd Gm vl Same plus)
variable {G:Nat->Prop} {a b N pp h n i:Nat} {w w' wr w2 wa:World} {s s' s0:iQ} {lv rv:Value} {L R:List Nat} {gs:List Gm} {D' D:dC}
theorem VR{F:Nat->Prop}{a b:World}(h:fe F a b)(k:∀x,F x->G x):fe G a b:=⟨h.os,h.tape,h.output,h.size,λb hb hn=>h.block b hb λc=>hn (k b c)⟩
def SMap(w:World)(h:Nat)(s:iQ):Prop:=∃n f,gu prog 183 w (h+1+1+1) n f/\∀k v,f k=some v->∃a b j:Nat,k=.agg #[.int .i64 (a:Int),.int .i64 (b:Int)]/\v=.int .i64 (j:Int)/\a<s.D.length/\b<s.D.length/\j<s.D.length/\Same (vl s.D j) (plus (vl s.D a) (vl s.D b))
def adu(N:Nat)(D:dC):Prop:=∀i,N<=i->i<D.length->∃a b,a<N/\b<N/\Same (vl D i) (plus (vl D a) (vl D b))
structure Bq(w:World)(pp h N:Nat)(s:iQ):Prop where
 pool:dm w pp h s
 map:SMap w h s
 le:N<=s.D.length
 sums:adu N s.D
theorem VF{a' b':Nat}(hb:b<N)(hb':b'<N)(e:b+a*N=b'+a'*N):a=a'/\b=b':=by
 have hN:0<N:=by omega
 have e1:(b+a*N) / N=a:=by rw[Nat.add_mul_div_right _ _ hN,Nat.div_eq_of_lt hb,gK]
 have e2:(b'+a'*N) / N=a':=by rw[Nat.add_mul_div_right _ _ hN,Nat.div_eq_of_lt hb',gK]
 have:a=a':=by rw[<-e1,<-e2,e]
 subst this;exact⟨rfl,by omega⟩
theorem Rw(ha:a<N)(hb:b<N):b+a*N<N*N:=by
 have:=iM N (show a+1<=N by omega);rw[nZ]at this;omega
theorem Bq.small(k:Bq w pp h N s):s.D.length<=N+N*N:=by
 have g:=k.pool.good;have:=BM (n:=s.D.length) (at_:=List.range (N+N*N)) (R:=λi j=>(i<N/\j=i)\/∃a b,a<N/\b<N/\j=N+(b+a*N)/\Same (vl s.D i) (plus (vl s.D a) (vl s.D b))) (λi hi=>by
  rcases dX i N with c|c
  .exact⟨i,dA.2 (by omega),.inl ⟨c,rfl⟩⟩
  .obtain⟨a,b,ha,hb,hs⟩:=k.sums i c hi
   exact⟨N+(b+a*N),dA.2 (by have:=Rw ha hb;omega),.inr ⟨a,b,ha,hb,rfl,hs⟩⟩) (λi i' j hi hi' h1 h2=>by
  rcases h1 with⟨a,b⟩|⟨a,b,ha,hb,e,c⟩ <;> rcases h2 with⟨a',b'⟩|⟨a',b',ha',hb',e',c'⟩
  .omega
  .omega
  .omega
  .obtain⟨rfl,rfl⟩:=VF hb hb' (show b+a*N=b'+a'*N by omega)
   exact bz.mW g i i' hi hi' (bz.ik c (bz.kJ c')))
 simpa using this
theorem QS(hP:dm w pp h s):¬jP pp h s (h+1+1+1):=by
 rintro(c|c|c|c|c)
 .have:=hP.WZ;omega
 .omega
 .have:=(hP.Dr _ (.inl c)).2;omega
 .have:=(hP.Dr _ (.inr (.inl c))).2;omega
 .have:=(hP.Dr _ (.inr (.inr c))).2;omega
structure Ag(pp h:Nat)(s:iQ)(w:World)(s':iQ)(w':World):Prop where
 pool:dm w' pp h s'
 keep:fe (λb=>jP pp h s b\/b=h+1+1+1) w w'
 own:∀b,jP pp h s' b->jP pp h s b\/w.heap.size<=b
 old:∀b,s.S b->s'.S b
 lists:∀b,s'.S b->s.S b\/w.heap.size<=b
 more:∃E,s'.D=s.D++E
theorem jK.sm(k:jK pp h s w s' w'):Ag pp h s w s' w':=⟨k.pool,VR k.keep λ_ h=>.inl h,k.own,k.old,k.lists,k.more⟩
theorem Ag.trans{w1 w2 w3:World}{pp h:Nat}{s1 s2 s3:iQ}(k:Ag pp h s1 w1 s2 w2)(m:Ag pp h s2 w2 s3 w3):Ag pp h s1 w1 s3 w3:=by
 have hz:=k.keep.size;refine⟨m.pool,k.keep.trans m.keep (λx hx hi=>by
  rcases hi with hi|hi
  .rcases k.own x hi with h|h
   .exact .inl h
   .omega
  .exact .inr hi),λx hx=>?_,λb hb=>m.old b (k.old b hb),λx hx=>?_,?_⟩
 .rcases m.own x hx with h1|h1
  .exact k.own x h1
  .exact .inr (by omega)
 .rcases m.lists x hx with h1|h1
  .exact k.lists x h1
  .exact .inr (by omega)
 .obtain⟨E,h1⟩:=k.more
  obtain⟨E',h2⟩:=m.more;exact⟨E++E',by rw[h2,h1,bY]⟩
theorem Ag.len(k:Ag pp h s w s' w'):s.D.length<=s'.D.length:=by obtain⟨E,h⟩:=k.more;rw[h];simp
theorem Ag.vl{w w':World}{pp h:Nat}{s s':iQ}(k:Ag pp h s w s' w')(hw:bz.WF s.D){i:Nat}(hi:i<s.D.length):vl s'.D i=vl s.D i:=by
 obtain⟨E,h⟩:=k.more;have hg:=k.pool.good.wf;rw[h]at hg ⊢;exact bz.ib hw hg i hi
theorem Ag.sup{A:World->Prop}(a:oP s0.S A w)(k:Ag pp h s w s' w')(hP:dm w pp h s)(ho:∀b,s0.S b->s.S b):oP s0.S A w':=
 a.keep k.keep λb hb=>by
  rintro(c|c)
  .exact hP.Z5 b (ho b hb) c
  .have:=hP.ap6 b (ho b hb);omega
theorem SMap.go(m:SMap w h s)(hP:dm w pp h s)(k:jK pp h s w s' w'):SMap w' h s':=by
 obtain⟨n,f,h1,h2⟩:=m;refine⟨n,f,h1.keep (k.keep.block _ h1.lt (QS hP)),λq v hv=>?_⟩;obtain⟨a,b,j,e1,e2,ha,hb,hj,hs⟩:=h2 q v hv;have:=k.len;exact⟨a,b,j,e1,e2,by omega,by omega,by omega,by rw[k.vl hP.good.wf ha,k.vl hP.good.wf hb,k.vl hP.good.wf hj];exact hs⟩
theorem Bq.ext{w w':World}{pp h N:Nat}{s:iQ}(k:Bq w pp h N s)(hx:Ext w w'):Bq w' pp h N s:=
 ⟨k.pool.ext hx,k.map.go k.pool (jK.refl k.pool hx),k.le,k.sums⟩
structure lu(pp h:Nat)(s:iQ)(w wr:World)(lv rv:Value)(L R:List Nat):Prop where
 l:wr.ownsRow w.heap.size 3 1 lv L.length ((dx L).map (Value.int .i64))
 r:wr.ownsRow w.heap.size 3 1 rv R.length ((dx R).map (Value.int .i64))
 ap:∀b,lv.ownBlock=some b->rv.ownBlock≠some b
 uW:Ku pp h s wr (λb=>lv.ownBlock=some b\/rv.ownBlock=some b)
theorem lu.swap(m:lu pp h s w wr lv rv L R):lu pp h s w wr rv lv R L:=
 ⟨m.r,m.l,λb h1 h2=>m.ap b h2 h1,λb hb=>m.uW b (hb.symm)⟩
theorem lu.keep(m:lu pp h s w wr lv rv L R)(hk:fe G wr w2)(hG:∀b,lv.ownBlock=some b\/rv.ownBlock=some b->¬G b)
 (hc:Ku pp h s' w2 (λb=>lv.ownBlock=some b\/rv.ownBlock=some b)):lu pp h s' w w2 lv rv L R:=
 ⟨bO m.l hk (λb hb=>hG b (.inl hb)),bO m.r hk (λb hb=>hG b (.inr hb)),m.ap,hc⟩
theorem lu.ext{pp h:Nat}{s:iQ}{w wr w2:World}{lv rv:Value}{L R:List Nat}(m:lu pp h s w wr lv rv L R)(hx:Ext wr w2):lu pp h s w w2 lv rv L R:=
 m.keep (fV (F:=λ_=>False) hx) (λ_ _=>id) (m.uW.ext hx)
theorem lu.lo(m:lu pp h s w wr lv rv L R)(hb:lv.ownBlock=some b\/rv.ownBlock=some b):w.heap.size<=b:=by
 rcases hb with hb|hb
 .exact(m.l.lt b hb).1
 .exact(m.r.lt b hb).1
theorem lu.go(m:lu pp h s w wr lv rv L R)(hh:h+1+1+1<w.heap.size)(g:Ag pp h s wr s' w2):lu pp h s' w w2 lv rv L R:=by
 have hz:=g.keep.size;refine m.keep g.keep (λb hb=>?_) (λb hb=>?_)
 .rintro(c|c)
  .exact(m.uW b hb).2.1 c
  .have:=m.lo hb;omega
 .obtain⟨c1,c2,c3⟩:=m.uW b hb
  refine⟨by omega,λc=>?_,λc=>?_⟩
  .rcases g.own b c with c|c
   .exact c2 c
   .omega
  .rcases g.lists b c with c|c
   .exact c3 c
   .omega
theorem lu.push{VM:Value}{news:List Nat}{ys:List Value}(m:lu pp h s w wr lv rv L R)(hP:dm wr pp h s)(hx:Ext wr wa)(hg:wa.grownBy w2 lv.ownBlock)
 (ho:w2.ownsRow w.heap.size 3 1 VM n ys) (hn:n=(L++news).length) (hy:ys=(dx (L++news)).map (Value.int .i64)) (hl:mM wa lv VM):lu pp h s w w2 VM rv (L++news) R:=by
 have hz:=hx.size;have hz2:=hg.size;have hL:∀b,VM.ownBlock=some b->lv.ownBlock=some b\/wr.heap.size<=b:=λb hb=>by
  rcases hl with e|⟨g,e,k⟩
  .exact .inl (e ▸ hb)
  .rw[e]at hb;injection hb with hb;exact .inr (by omega)
 have m1:=m.ext hx;have hkg:=fD hg;have hcm:=m.uW;refine⟨FW ho hn hy,bO m1.r hkg (λb hb hq=>m.ap b hq hb),λb hb hc=>?_,λb hb=>?_⟩
 .rcases hL b hb with h1|h1
  .exact m.ap b h1 hc
  .have:=(hcm b (.inr hc)).1;omega
 .have hlt:=ho.lt
  rcases hb with hb|hb
  .refine⟨(hlt b hb).2,?_⟩
   rcases hL b hb with h1|h1
   .exact(hcm b (.inl h1)).2
   .exact hP.new h1
  .have:=hcm b (.inr hb);exact⟨by omega,this.2⟩
theorem lu.side(m:lu pp h s w wr lv rv L R)(g:Ag pp h s0 w s wr)(hx:Ext wr wa)(hg:wa.grownBy w2 lv.ownBlock):Ag pp h s0 w s w2:=by
 have hkg:=fD hg;have hz:=hx.size;have hP:=g.pool.ext hx;refine⟨hP.keep hkg (λb hb hc=>(m.uW b (.inl hc)).2.1 hb) (λb hb hc=>(m.uW b (.inl hc)).2.2 hb),?_,g.own,g.old,g.lists,g.more⟩;have k1:=(g.keep.trans (fV (F:=λ_=>False) hx) (λ_ _ h=>h.elim)).trans hkg (G:=λb=>lv.ownBlock=some b) (λx hx hc=>by have:=m.lo (.inl hc);omega);exact k1
theorem Bq.side(k:Bq wr pp h N s)(m:lu pp h s w wr lv rv L R)(hh:h+1+1+1<w.heap.size)(hx:Ext wr wa)(hg:wa.grownBy w2 lv.ownBlock):Bq w2 pp h N s:=by
 have hkg:=fD hg;have k1:=k.ext hx;refine⟨k1.pool.keep hkg (λb hb hc=>(m.uW b (.inl hc)).2.1 hb) (λb hb hc=>(m.uW b (.inl hc)).2.2 hb),?_,k.le,k.sums⟩;obtain⟨n,f,h1,h2⟩:=k1.map;exact⟨n,f,h1.keep (hkg.block _ h1.lt (λhc=>by have:=m.lo (.inl hc);omega)),h2⟩
structure oo(D':dC)(gs:List Gm)(L:List Nat):Prop where
 len:L.length=gs.length
 at_:∀j (h:j<L.length) (h':j<gs.length),L[j]<D'.length/\Same (vl D' L[j]) gs[j]
theorem oo.nil(D':dC):oo D' [] []:=⟨rfl,λj h=>absurd h (by simp)⟩
theorem oo.go(n:oo s.D gs L)(hw:bz.WF s.D)(g:Ag pp h s w s' w'):oo s'.D gs L:=by
 refine⟨n.len,λj h h'=>?_⟩;obtain⟨h1,h2⟩:=n.at_ j h h';have:=g.len;exact⟨by omega,by rw[g.vl hw h1];exact h2⟩
theorem oo.next{g:Gm}(n:oo D' gs L)(hi:i<D'.length)(hs:Same (vl D' i) g):oo D' (gs++[g]) (L++[i]):=by
 refine⟨by simp[n.len],λj h h'=>?_⟩;have hl:=n.len;by_cases c:j<L.length
 .rw[dM c,dM (by omega)];exact n.at_ j c (by omega)
 .have e:j=L.length:=by simp at h;omega
  subst e;rw[eB (by omega),eB (by omega)];simp only[List.getElem_singleton];exact⟨hi,hs⟩
theorem oo.lt(n:oo D' gs L):∀x,x∈L->x<D'.length:=λx hx=>by
 obtain⟨j,hj,rfl⟩:=aO.1 hx;exact(n.at_ j hj (by have:=n.len;omega)).1
theorem RA{gl gr:List Gm}(hD:bz.WF D)(hD':bz.WF D')(hl:oo D gl L)(hr:oo D gr R)(p:jo D L R D' i):Same (vl D' i) (.mk gl gr):=by
 rw[bz.nO hD' p.1,bz.same_iff];have hll:=hl.len;have hrl:=hr.len;simp only[Gm.l,Gm.r];refine⟨λx hx=>?_,λy hy=>?_,λx hx=>?_,λy hy=>?_⟩
 .obtain⟨k,hk,rfl⟩:=aI.1 hx
  obtain⟨j,hj,rfl⟩:=aO.1 (bZ.1 hk);obtain⟨h1,h2⟩:=hl.at_ j hj (by omega);exact⟨_,ah (show j<gl.length by omega),by rw[p.vl hD hD' h1];exact h2⟩
 .obtain⟨j,hj,rfl⟩:=aO.1 hy
  obtain⟨h1,h2⟩:=hl.at_ j (by omega) hj;exact⟨_,aW (bZ.2 (ah (show j<L.length by omega))),by rw[p.vl hD hD' h1];exact h2⟩
 .obtain⟨k,hk,rfl⟩:=aI.1 hx
  obtain⟨j,hj,rfl⟩:=aO.1 (bZ.1 hk);obtain⟨h1,h2⟩:=hr.at_ j hj (by omega);exact⟨_,ah (show j<gr.length by omega),by rw[p.vl hD hD' h1];exact h2⟩
 .obtain⟨j,hj,rfl⟩:=aO.1 hy
  obtain⟨h1,h2⟩:=hr.at_ j (by omega) hj;exact⟨_,aW (bZ.2 (ah (show j<R.length by omega))),by rw[p.vl hD hD' h1];exact h2⟩
theorem Yt(h:bz.WF D)(ha:a<D.length)(hb:b<D.length):plus (vl D a) (vl D b)=.mk (((D[a]).1.map λx=>plus (vl D x) (vl D b))++(D[b]).1.map λx=>plus (vl D a) (vl D x)) (((D[a]).2.map λx=>plus (vl D x) (vl D b))++(D[b]).2.map λx=>plus (vl D a) (vl D x)):=by
 rw[bz.FU,bz.om h (aa ha),bz.oh h (aa ha),bz.om h (aa hb),bz.oh h (aa hb)];simp only[jC];rfl
theorem Bq.put(k:Bq w pp h N s)(g:jK pp h s w s' w')(p:jo s.D L R s'.D i)(ha:a<N)(hb:b<N)(hs:Same (vl s'.D i) (plus (vl s.D a) (vl s.D b))):Bq w' pp h N s':=by
 have hl:=g.len;have hle:=k.le;have hw:=k.pool.good.wf;refine⟨g.pool,k.map.go k.pool g,by omega,λx hx hlt=>?_⟩;rcases dX x s.D.length with c|c
 .obtain⟨a',b',ha',hb',hb2⟩:=k.sums x hx c
  exact⟨a',b',ha',hb',by rw[g.vl hw c,g.vl hw (show a'<s.D.length by omega),g.vl hw (show b'<s.D.length by omega)];exact hb2⟩
 .have hxi:x=i:=by
   obtain⟨p1,p2⟩:=p;rcases p2 with e|e
   .rw[e]at hlt;omega
   .have hx':x=s.D.length:=by rw[e]at hlt;simp at hlt;omega
    have h1:s'.D[x]?=some (bE L,bE R):=(by rw[e,hx',dV (ai _)];simp);exact(List.getElem?_inj (by rw[hx',e];simp) g.pool.good.nodup).1 (h1.trans p1.symm)
  subst hxi;exact⟨a,b,ha,hb,by rw[g.vl hw (show a<s.D.length by omega),g.vl hw (show b<s.D.length by omega)];exact hs⟩
theorem Bq.store{w1:World}{f:Value->Option Value}(k:Bq w pp h N s)(hx:Ext w w1)(hf:∀k v,f k=some v->∃a b j:Nat,k=.agg #[.int .i64 (a:Int),.int .i64 (b:Int)]/\v=.int .i64 (j:Int)/\a<s.D.length/\b<s.D.length/\j<s.D.length/\Same (vl s.D j) (plus (vl s.D a) (vl s.D b)))
 (hM:gu prog 183 w' (h+1+1+1) n (upd (λ_ _=>Classical.propDecidable _) f (.agg #[.int .i64 (a:Int),.int .i64 (b:Int)]) (.int .i64 (i:Int)))) (hg:w1.grownBy w' (some (h+1+1+1))) (ha:a<s.D.length) (hb:b<s.D.length) (hi:i<s.D.length) (hs:Same (vl s.D i) (plus (vl s.D a) (vl s.D b))):Bq w' pp h N s/\Ag pp h s w s w':=by
 have kk:=gJ hg;have k1:=(k.ext hx).pool;have hP:dm w' pp h s:=k1.keep kk (λb hb c=>by subst c;exact QS k1 hb) (λb hb c=>by have:=k1.ap6 b hb;omega);refine⟨⟨hP,⟨n,_,hM,λq v hv=>?_⟩,k.le,k.sums⟩,⟨hP,?_,λ_ h=>.inl h,λ_ h=>h,λ_ h=>.inl h,⟨[],by simp⟩⟩⟩
 .rcases vw hv with⟨rfl,rfl⟩|hv
  .exact⟨a,b,i,rfl,rfl,ha,hb,hi,hs⟩
  .exact hf q v hv
 .exact(fV (F:=λb=>jP pp h s b\/b=h+1+1+1) hx).trans kk (λx _ c=>.inr c)
theorem Bq.Ni(k:Bq w pp h N s):∃f,gu prog 183 w (h+1+1+1) 810000000000 f/\∀k v,f k=some v->∃a b j:Nat,k=.agg #[.int .i64 (a:Int),.int .i64 (b:Int)]/\v=.int .i64 (j:Int)/\a<s.D.length/\b<s.D.length/\j<s.D.length/\Same (vl s.D j) (plus (vl s.D a) (vl s.D b)):=by
 obtain⟨n,f,h1,h2⟩:=k.map;refine⟨f,(h1.room ((List.range s.D.length).flatMap λ(a:Nat)=>(List.range s.D.length).map λ(b:Nat)=>.agg #[.int .i64 (a:Int),.int .i64 (b:Int)]) λkey v hv=>?_).mono ?_,h2⟩
 .obtain⟨a,b,j,rfl,_,ha,hb,_⟩:=h2 key v hv
  exact lH.2 ⟨a,dA.2 ha,aI.2 ⟨b,dA.2 hb,rfl⟩⟩
 .have e:∀l:List Nat,(l.flatMap λ(a:Nat)=>(List.range s.D.length).map λ(b:Nat)=>Value.agg #[.int .i64 (a:Int),.int .i64 (b:Int)]).length=l.length*s.D.length:=by
   intro l
   induction l with
   |nil=>simp
   |cons x l ih=>rw[gV,aj,ih,aJ,og,dO,nZ];omega
  rw[e,og];exact jR k.pool.small k.pool.small
theorem dm.c6(k:dm w pp h s):w.cell? ⟨pp,6,none⟩=some (.map (some (h+1+1+1))):=cell_of_row w pp 6 _ _ _ k.box
end
end Go.Proofs.YteknjeohbcgpdaaGreatDoor