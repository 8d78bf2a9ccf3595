/- 42 -/
import Derived.Test.YtplgooajigigkaaGreatDoorK26
set_option maxRecDepth 100000
set_option maxHeartbeats 4000000
namespace Go.Proofs.YtplgooajigigkaaGreatDoor
open Tryz
open Go.RowKit
open bE (dh Nd vl Same bI)
def Jb:List Row:=[⟨0,[],21,[2]⟩,⟨1,[0],22,[20]⟩,⟨2,[],23,[5]⟩,⟨3,[1,2],24,[21,22]⟩,⟨4,[3],25,[23]⟩,⟨5,[4],26,[24]⟩,⟨6,[],27,[3]⟩,⟨7,[6],28,[26]⟩,⟨8,[],29,[5]⟩,⟨9,[7,8],30,[27,28]⟩,⟨10,[9],31,[29]⟩,⟨11,[10],32,[30]⟩,⟨12,[5,11],33,[25,31]⟩,⟨13,[12],34,[32]⟩,⟨14,[13,12],35,[33]⟩,⟨15,[14],36,[2,34]⟩,⟨16,[15,14],37,[35,34]⟩,⟨17,[14],38,[5,34]⟩,⟨18,[16,17,14],39,[36,37,34]⟩,⟨19,[18,14],40,[38,34]⟩,⟨20,[19,14],41,[39,34]⟩,⟨21,[14],42,[3,34]⟩,⟨22,[21,14],43,[41,34]⟩,⟨23,[14],44,[5,34]⟩,⟨24,[22,23,14],45,[42,43,34]⟩,⟨25,[24,14],46,[44,34]⟩,⟨26,[25,14],47,[45,34]⟩,⟨27,[20,26,14,14],48,[40,46,34]⟩,⟨28,[27,14],49,[47,34]⟩,⟨29,[14,28],50,[34,48]⟩]
theorem sQ(w:World):Ext w w.drew:=dQ ⟨1,rfl⟩
theorem LC(va vb:Value)(F G:dh)(w:World)(ha:dI w 0 va F)(hb:dI w 0 vb G):Calls prog 111 #[.agg #[va],.agg #[vb]] w (yI (F=G) w):=by
 obtain⟨aA,MN,rfl,-,alv,-⟩:=id ha;obtain⟨aB,MM,rfl,hcapB,zz,-⟩:=id hb;obtain⟨W,hW,hx,hp,hq,-⟩:=MV w (.cells #[.slice aA F.length MN] 30) (.cells #[.slice aB G.length MM] 30);have cp0:=bQ W w.heap.size 0 _ _ _ hp;have cq0:=bQ W (w.heap.size+1) 0 _ _ _ hq;simp only[gE]at cp0 cq0;by_cases hlen:F.length=G.length
 case neg=>
  have hne:(((F.length:Nat):Int) != ((G.length:Nat):Int))=true:=by simp;omega
  have HN:Hid (¬F=G):=aW λe=>hlen (by rw[e])
  clear hlen;go_enter Tryz.func111,Tryz.ntmps111
  go_upto_region 1 with fail
  rw[<-hW];clear hW;go_wp2
  go_ret
  exact⟨false,rfl,⟨λh=>(by cases h),λh=>absurd h HN.out⟩,hx⟩
 case pos=>
 have hne:(((G.length:Nat):Int) != ((G.length:Nat):Int))=false:=by simp
 rw[hlen]at hW hp cp0 ⊢;have HLEN:=aW hlen;have HA:=aW ha;have HB:=aW hb;clear hlen ha hb alv;go_enter Tryz.func111,Tryz.ntmps111
 go_upto_region 1 with fail
 rw[<-hW];clear hW;go_wp2
 generalize w.heap.size+1=q at *;generalize Ke:w.heap.size=p at *;clear Ke;go_loopw [5] (λkk wr=>∃k,k<=G.length/\kk=.int .i64 ((k:Nat):Int)/\Ext W wr/\Hid (∀i,i<k->F[i]?=G[i]?)) (λkk _=>G.length-(intOf kk).toNat)
 case atStart=>exact⟨0,aU _,rfl,gz _ _,aW λi h=>absurd h (by omega)⟩
 case round=>
  obtain⟨k,hk,rfl,Gh,HJ⟩:=hrel;have hE:=ah hx Gh;have cp:=fw Gh cp0;have cq:=fw Gh cq0;by_cases hlt:k<G.length
  .have h1:((k:Nat):Int)<(G.length:Int):=by omega
   have ady:k<F.length:=(by have:=HLEN.out;omega);obtain⟨bA,cA,aL,cL,aR,cR,he,hcA,cl,cr,xg,xe⟩:=(HA.out.ext hE).at ady;have hlen:=HLEN.out;simp only[il]at he;obtain⟨rfl,-,rfl⟩:=he;obtain⟨bB,cB,JZ,JU,Km,Kk,he,hcB,cl2,Zo,ad2,ad1⟩:=(HB.out.ext hE).at hlt;simp only[il]at he;obtain⟨rfl,-,rfl⟩:=he;obtain⟨lA,hlA⟩:=fu (dB (F[k]).1);obtain⟨rA,hrA⟩:=fu (dB (F[k]).2);obtain⟨lB,hlB⟩:=fu (dB (G[k]).1);obtain⟨rB,hrB⟩:=fu (dB (G[k]).2);rw[<-hlA]at xg;rw[<-hrA]at xe;rw[<-hlB]at ad2;rw[<-hrB]at ad1;have HI:=nY (And.intro xg xe) ad2 ad1;have tz:∀{a b:List Nat},dB a=dB b->a=b:=λ{a b} e=>by
    have h:=congrArg (List.map Int.toNat) e
    simpa [dB,jg,Function.comp_def]using h
   have Y1:Hid (F[k]?=G[k]?↔lA=lB/\rA=rB):=aW (by
    rw[af ady,af hlt,bU,hlA,hrA,hlB,hrB,Prod.ext_iff];exact⟨λ⟨a,b⟩=>⟨by rw[a],by rw[b]⟩,λ⟨a,b⟩=>⟨tz a,tz b⟩⟩)
   obtain⟨nL,UA⟩:=fu ((F[k]).1.length);obtain⟨nR,hnR⟩:=fu ((F[k]).2.length);obtain⟨nL2,adt⟩:=fu ((G[k]).1.length);obtain⟨nR2,ads⟩:=fu ((G[k]).2.length);rw[<-UA,<-hnR,<-adt,<-ads]at HI;rw[<-UA]at cl;rw[<-hnR]at cr;rw[<-adt]at cl2;rw[<-ads]at Zo;have HX:=jm Gh hE;have kg:=aW hlt;have hwk:wrap64 ((k:Int)+1)=(k:Int)+1:=(by unfold maxLen at zz;unfold wrap64;omega);clear xg xe ad2 ad1 Gh hE tz hlA hrA hlB hrB UA hnR adt ads ady hlen hcA hcB;cases s1:qF lA lB with
   |false=>
    have HN:Hid (¬F=G):=aW λe=>by
     have:=(Y1.out.1 (by rw[e])).1;rw[this]at s1;simp[qF]at s1
    go_wp2_with fail
    refine oJ (λV=>(V.cell? ⟨p,0,none⟩=some (.slice (some ⟨bA,0,none⟩) G.length MN)/\V.cell? ⟨q,0,none⟩=some (.slice (some ⟨bB,0,none⟩) G.length MM))/\(V.cell? ⟨bA,k*2,none⟩=some (.slice aL nL cL)/\V.cell? ⟨bA,k*2+1,none⟩=some (.slice aR nR cR))/\V.cell? ⟨bB,k*2,none⟩=some (.slice JZ nL2 JU)/\V.cell? ⟨bB,k*2+1,none⟩=some (.slice Km nR2 Kk)) [29] Jb ⟨⟨cp,cq⟩,⟨cl,cr⟩,cl2,Zo⟩ (λaj ae=>?_);(refine bP 0 aj ae ?_;refine bP 1 aj ae ?_;refine bP 2 aj ae ?_;refine bP 3 aj ae ?_;refine bP 4 aj ae ?_;refine bP 5 aj ae ?_;refine bP 6 aj ae ?_;refine bP 7 aj ae ?_;refine bP 8 aj ae ?_;refine bP 9 aj ae ?_;refine bP 10 aj ae ?_;refine bP 11 aj ae ?_);(refine jv aj (i:=12) λK hK=>?_;go_simp);refine(oo _ _ lA lB _ (HI.out.1.1.ext (sQ _)) (HI.out.2.1.ext (sQ _))).mono ?_;rintro e w1 ⟨he,n1,rfl⟩;rw[s1]at he;subst he;have ae:(λV:World=>(V.cell? ⟨p,0,none⟩=some (.slice (some ⟨bA,0,none⟩) G.length MN)/\V.cell? ⟨q,0,none⟩=some (.slice (some ⟨bB,0,none⟩) G.length MM))/\(V.cell? ⟨bA,k*2,none⟩=some (.slice aL nL cL)/\V.cell? ⟨bA,k*2+1,none⟩=some (.slice aR nR cR))/\V.cell? ⟨bB,k*2,none⟩=some (.slice JZ nL2 JU)/\V.cell? ⟨bB,k*2+1,none⟩=some (.slice Km nR2 Kk)) (wr.drew.drewN n1):=ae;refine hK.out _ _ (λ_=>ae) ?_;clear hK K;(try simp only[nP]);(refine bP 13 aj ae ?_;refine bP 14 aj ae ?_);((refine dK aj (i:=15) (oi:=_) (v:=undef) (by simp only[gE];rfl) (by kernel_rfl) (by exact λ_ _ _ h=>h) ae (Or.inr ⟨by rfl,rfl⟩) ?r15);(try simp only[nP]);(refine dK aj (i:=16) (oi:=_) (v:=undef) (by simp only[gE];rfl) (by kernel_rfl) (by exact λ_ _ _ h=>h) ae (Or.inr ⟨by rfl,rfl⟩) ?r16);(try simp only[nP]);(refine dK aj (i:=17) (oi:=_) (v:=undef) (by simp only[gE];rfl) (by kernel_rfl) (by exact λ_ _ _ h=>h) ae (Or.inr ⟨by rfl,rfl⟩) ?r17);(try simp only[nP]);(refine dK aj (i:=18) (oi:=_) (v:=undef) (by simp only[gE];rfl) (by kernel_rfl) (by exact λ_ _ _ h=>h) ae (Or.inr ⟨by rfl,rfl⟩) ?r18);(try simp only[nP]);(refine dK aj (i:=19) (oi:=_) (v:=undef) (by simp only[gE];rfl) (by kernel_rfl) (by exact λ_ _ _ h=>h) ae (Or.inr ⟨by rfl,rfl⟩) ?r19);(try simp only[nP]);(refine dK aj (i:=20) (oi:=_) (v:=undef) (by simp only[gE];rfl) (by kernel_rfl) (by exact λ_ _ _ h=>h) ae (Or.inr ⟨by rfl,rfl⟩) ?r20);(try simp only[nP]);(refine dK aj (i:=21) (oi:=_) (v:=undef) (by simp only[gE];rfl) (by kernel_rfl) (by exact λ_ _ _ h=>h) ae (Or.inr ⟨by rfl,rfl⟩) ?r21);(try simp only[nP]);(refine dK aj (i:=22) (oi:=_) (v:=undef) (by simp only[gE];rfl) (by kernel_rfl) (by exact λ_ _ _ h=>h) ae (Or.inr ⟨by rfl,rfl⟩) ?r22);(try simp only[nP]);(refine dK aj (i:=23) (oi:=_) (v:=undef) (by simp only[gE];rfl) (by kernel_rfl) (by exact λ_ _ _ h=>h) ae (Or.inr ⟨by rfl,rfl⟩) ?r23);(try simp only[nP]);(refine dK aj (i:=24) (oi:=_) (v:=undef) (by simp only[gE];rfl) (by kernel_rfl) (by exact λ_ _ _ h=>h) ae (Or.inr ⟨by rfl,rfl⟩) ?r24);(try simp only[nP]);(refine dK aj (i:=25) (oi:=_) (v:=undef) (by simp only[gE];rfl) (by kernel_rfl) (by exact λ_ _ _ h=>h) ae (Or.inr ⟨by rfl,rfl⟩) ?r25);(try simp only[nP]);(refine dK aj (i:=26) (oi:=_) (v:=undef) (by simp only[gE];rfl) (by kernel_rfl) (by exact λ_ _ _ h=>h) ae (Or.inr ⟨by rfl,rfl⟩) ?r26);(try simp only[nP]);(refine dK aj (i:=27) (oi:=_) (v:=undef) (by simp only[gE];rfl) (by kernel_rfl) (by exact λ_ _ _ h=>h) ae (Or.inr ⟨by rfl,rfl⟩) ?r27);(try simp only[nP]);(refine dK aj (i:=28) (oi:=_) (v:=undef) (by simp only[gE];rfl) (by kernel_rfl) (by exact λ_ _ _ h=>h) ae (Or.inr ⟨by rfl,rfl⟩) ?r28);(try simp only[nP]));refine nQ aj [29] [_] ?_;clear aj ae;go_wp2
    go_ret
    exact⟨false,rfl,⟨λh=>(by cases h),λh=>absurd h HN.out⟩,eH HX.out.2 _⟩
   |true=>
    cases s2:qF rA rB with
    |false=>
     have HN:Hid (¬F=G):=aW λe=>by
      have:=(Y1.out.1 (by rw[e])).2;rw[this]at s2;simp[qF]at s2
     go_wp2_with fail
     refine oJ (λV=>(V.cell? ⟨p,0,none⟩=some (.slice (some ⟨bA,0,none⟩) G.length MN)/\V.cell? ⟨q,0,none⟩=some (.slice (some ⟨bB,0,none⟩) G.length MM))/\(V.cell? ⟨bA,k*2,none⟩=some (.slice aL nL cL)/\V.cell? ⟨bA,k*2+1,none⟩=some (.slice aR nR cR))/\V.cell? ⟨bB,k*2,none⟩=some (.slice JZ nL2 JU)/\V.cell? ⟨bB,k*2+1,none⟩=some (.slice Km nR2 Kk)) [27,28,29] Jb ⟨⟨cp,cq⟩,⟨cl,cr⟩,cl2,Zo⟩ (λaj ae=>?_);(refine bP 0 aj ae ?_;refine bP 1 aj ae ?_;refine bP 2 aj ae ?_;refine bP 3 aj ae ?_;refine bP 4 aj ae ?_;refine bP 5 aj ae ?_;refine bP 6 aj ae ?_;refine bP 7 aj ae ?_;refine bP 8 aj ae ?_;refine bP 9 aj ae ?_;refine bP 10 aj ae ?_;refine bP 11 aj ae ?_);(refine jv aj (i:=12) λK hK=>?_;go_simp);refine(oo _ _ lA lB _ (HI.out.1.1.ext (sQ _)) (HI.out.2.1.ext (sQ _))).mono ?_;rintro e w1 ⟨he,n1,rfl⟩;rw[s1]at he;subst he;have ae:(λV:World=>(V.cell? ⟨p,0,none⟩=some (.slice (some ⟨bA,0,none⟩) G.length MN)/\V.cell? ⟨q,0,none⟩=some (.slice (some ⟨bB,0,none⟩) G.length MM))/\(V.cell? ⟨bA,k*2,none⟩=some (.slice aL nL cL)/\V.cell? ⟨bA,k*2+1,none⟩=some (.slice aR nR cR))/\V.cell? ⟨bB,k*2,none⟩=some (.slice JZ nL2 JU)/\V.cell? ⟨bB,k*2+1,none⟩=some (.slice Km nR2 Kk)) (wr.drew.drewN n1):=ae;refine hK.out _ _ (λ_=>ae) ?_;clear hK K;(try simp only[nP]);(refine bP 13 aj ae ?_;refine bP 14 aj ae ?_;refine bP 15 aj ae ?_;refine bP 16 aj ae ?_;refine bP 17 aj ae ?_;refine bP 18 aj ae ?_;refine bP 19 aj ae ?_;refine bP 20 aj ae ?_;refine bP 21 aj ae ?_;refine bP 22 aj ae ?_;refine bP 23 aj ae ?_;refine bP 24 aj ae ?_;refine bP 25 aj ae ?_;refine bP 26 aj ae ?_);refine nQ aj [27,28,29] [_,_,_] ?_;clear aj ae;go_wp2_with (go_at_call 152;refine(oo _ _ rA rB _ (HI.out.1.2.ext (dQ ⟨1+n1,by rw[<-World.drewN_drewN]⟩)) (HI.out.2.2.ext (dQ ⟨1+n1,by rw[<-World.drewN_drewN]⟩))).mono ?_;rintro e w2 ⟨he,n2,rfl⟩;rw[s2]at he;subst he)
     go_ret
     exact⟨false,rfl,⟨λh=>(by cases h),λh=>absurd h HN.out⟩,eH HX.out.2 _⟩
    |true=>
     have HN:Hid (∀i,i<k+1->F[i]?=G[i]?):=aW λi hi=>by
      by_cases c:i=k
      .subst c;exact Y1.out.2 ⟨of_decide_eq_true s1,of_decide_eq_true s2⟩
      .exact HJ.out i (by omega)
     go_wp2_with fail
     refine oJ (λV=>(V.cell? ⟨p,0,none⟩=some (.slice (some ⟨bA,0,none⟩) G.length MN)/\V.cell? ⟨q,0,none⟩=some (.slice (some ⟨bB,0,none⟩) G.length MM))/\(V.cell? ⟨bA,k*2,none⟩=some (.slice aL nL cL)/\V.cell? ⟨bA,k*2+1,none⟩=some (.slice aR nR cR))/\V.cell? ⟨bB,k*2,none⟩=some (.slice JZ nL2 JU)/\V.cell? ⟨bB,k*2+1,none⟩=some (.slice Km nR2 Kk)) [27,28,29] Jb ⟨⟨cp,cq⟩,⟨cl,cr⟩,cl2,Zo⟩ (λaj ae=>?_);(refine bP 0 aj ae ?_;refine bP 1 aj ae ?_;refine bP 2 aj ae ?_;refine bP 3 aj ae ?_;refine bP 4 aj ae ?_;refine bP 5 aj ae ?_;refine bP 6 aj ae ?_;refine bP 7 aj ae ?_;refine bP 8 aj ae ?_;refine bP 9 aj ae ?_;refine bP 10 aj ae ?_;refine bP 11 aj ae ?_);(refine jv aj (i:=12) λK hK=>?_;go_simp);refine(oo _ _ lA lB _ (HI.out.1.1.ext (sQ _)) (HI.out.2.1.ext (sQ _))).mono ?_;rintro e w1 ⟨he,n1,rfl⟩;rw[s1]at he;subst he;have ae:(λV:World=>(V.cell? ⟨p,0,none⟩=some (.slice (some ⟨bA,0,none⟩) G.length MN)/\V.cell? ⟨q,0,none⟩=some (.slice (some ⟨bB,0,none⟩) G.length MM))/\(V.cell? ⟨bA,k*2,none⟩=some (.slice aL nL cL)/\V.cell? ⟨bA,k*2+1,none⟩=some (.slice aR nR cR))/\V.cell? ⟨bB,k*2,none⟩=some (.slice JZ nL2 JU)/\V.cell? ⟨bB,k*2+1,none⟩=some (.slice Km nR2 Kk)) (wr.drew.drewN n1):=ae;refine hK.out _ _ (λ_=>ae) ?_;clear hK K;(try simp only[nP]);(refine bP 13 aj ae ?_;refine bP 14 aj ae ?_;refine bP 15 aj ae ?_;refine bP 16 aj ae ?_;refine bP 17 aj ae ?_;refine bP 18 aj ae ?_;refine bP 19 aj ae ?_;refine bP 20 aj ae ?_;refine bP 21 aj ae ?_;refine bP 22 aj ae ?_;refine bP 23 aj ae ?_;refine bP 24 aj ae ?_;refine bP 25 aj ae ?_;refine bP 26 aj ae ?_);refine nQ aj [27,28,29] [_,_,_] ?_;clear aj ae;go_wp2_with (go_at_call 152;refine(oo _ _ rA rB _ (HI.out.1.2.ext (dQ ⟨1+n1,by rw[<-World.drewN_drewN]⟩)) (HI.out.2.2.ext (dQ ⟨1+n1,by rw[<-World.drewN_drewN]⟩))).mono ?_;rintro e w2 ⟨he,n2,rfl⟩;rw[s2]at he;subst he)
     go_roundw
     case rel=>exact⟨k+1,kg.out,by rw[hwk];rfl,eH HX.out.1 _,HN⟩
     case measure=>
      have:=kg.out;rw[hwk];simp[intOf];omega
  .have h1:¬(((k:Nat):Int)<(G.length:Int)):=by omega
   have HN:Hid (F=G):=aW (qA λi=>by
    by_cases c:i<k
    .exact HJ.out i c
    .rw[kY (by have:=HLEN.out;omega),kY (by omega)])
   go_wp2
   go_ret
   exact⟨true,rfl,⟨λ_=>HN.out,λ_=>rfl⟩,hE⟩
def ZV:List Row:=[⟨0,[],40,[4]⟩,⟨1,[],41,[4]⟩,⟨2,[],42,[1]⟩,⟨3,[1,2],43,[40,41]⟩,⟨4,[0,3,3],44,[39,42]⟩,⟨5,[],45,[1]⟩,⟨6,[4,5,4],46,[43,44]⟩,⟨7,[6,6,0,1,2,3,4,5,6],3,[45]⟩]
theorem Dg(vf:Value)(Z:List ru)(w:World)(hz:kH w vf Z):Calls prog 65 #[.agg #[vf]] w (yI (nO Z) w):=by
 obtain⟨aF,gH,rfl,hcap,zz,-⟩:=id hz;have hxb:Ext w (w.alloc (.cells #[.slice aF Z.length gH] 30)):=by go_grown
 cases hfit:tX Z with
 |false=>
  have HN:Hid (¬nO Z):=aW λk=>by rw[k.1]at hfit;cases hfit
  go_enter Tryz.func65,Tryz.ntmps65
  go_wp2_with (go_at_call 109;refine(yc _ Z _ (hz.ext hxb)).mono ?_;rintro e w1 ⟨he,hx1⟩;rw[hfit]at he;subst he)
  go_ret
  exact⟨false,rfl,⟨λh=>(by cases h),λh=>absurd h HN.out⟩,ah hxb hx1⟩
 |true=>
  have hlen:Z.length<=120/\0<Z.length:=by
   unfold tX at hfit;have:=of_decide_eq_true hfit;omega
  have HZ:=jm hz hfit;go_enter Tryz.func65,Tryz.ntmps65
  go_wp2_with (go_at_call 109;refine(yc _ Z _ (hz.ext hxb)).mono ?_;rintro e w1 ⟨he,hx1⟩;rw[hfit]at he;subst he)
  have hbx:w1.heap[w.heap.size]?=some (.cells #[.slice aF Z.length gH] 30 (0,0)):=by
   rw[hx1.block _ (by rw[fU];omega)];exact eu _ _
  have hE1:=ah hxb hx1;clear hx1 hxb hz hfit;go_loopw [3] (λkk wr=>∃k,k<=Z.length/\kk=.int .i64 ((k:Nat):Int)/\Ext w1 wr/\Hid (∀i (h:i<Z.length),i<k->uT (Z[i]).1 i/\uT (Z[i]).2 i)) (λkk _=>Z.length-(intOf kk).toNat)
  case atStart=>exact⟨0,aU _,rfl,gz _ _,aW λi _ h=>absurd h (by omega)⟩
  case round=>
   obtain⟨k,hk,rfl,hx,HJ⟩:=hrel;have hE:=ah hE1 hx;have hb1:wr.heap[w.heap.size]?=some (.cells #[.slice aF Z.length gH] 30 (0,0)):=(by rw[hx.block _ (bW hbx)];exact hbx);have cb:=bQ wr w.heap.size 0 _ _ _ hb1;by_cases hlt:k<Z.length
   .have h1:((k:Nat):Int)<(Z.length:Int):=by omega
    obtain⟨bF,cF,aL,cL,aR,cR,he,Nh,cl,cr,xg,xe⟩:=(HZ.out.1.ext hE).at hlt;simp only[il]at he;obtain⟨rfl,-,rfl⟩:=he;obtain⟨zL,WI⟩:=fu ((Z[k]).1);obtain⟨zR,WH⟩:=fu ((Z[k]).2);rw[<-WI]at cl xg;rw[<-WH]at cr xe;have HI:=jm xg xe;have Y1:Hid (nO Z->uT zL k/\uT zR k):=aW λq=>by rw[WI,WH];exact q.2.1 k hlt
    have Dm:Hid (uT zL k->uT zR k->∀i (h:i<Z.length),i<k+1->uT (Z[i]).1 i/\uT (Z[i]).2 i):=aW λa b i h hik=>by
     by_cases c:i=k
     .subst c;rw[<-WI,<-WH];exact⟨a,b⟩
     .exact HJ.out i h (by omega)
    have HX:=jm hx hE;have hwk:wrap64 ((k:Int)-1)=(k:Int)-1:=(by unfold wrap64;omega);clear hb1 hE hx xg xe WI WH;cases r1:rises zL 0 ((k:Int)-1)with
    |false=>
     have HN:Hid (¬nO Z):=aW λq=>by rw[qJ.2 (Y1.out q).1]at r1;cases r1
     go_wp2_with (go_at_call 110;refine(qh _ _ _ _ _ HI.out.1).mono ?_;rintro e w2 ⟨he,n1,rfl⟩;rw[r1]at he;subst he)
     go_ret
     exact⟨false,rfl,⟨λh=>(by cases h),λh=>absurd h HN.out⟩,eH HX.out.2 _⟩
    |true=>
     cases r2:rises zR 0 ((k:Int)-1)with
     |false=>
      have HN:Hid (¬nO Z):=aW λq=>by rw[qJ.2 (Y1.out q).2]at r2;cases r2
      go_wp2_with (first
       |(go_at_call 110;refine(qh _ _ _ _ _ (jL HI.out.2 n1)).mono ?_;rintro e w3 ⟨he,n2,rfl⟩;rw[r2]at he;subst he)
       |(go_at_call 110;refine(qh _ _ _ _ _ HI.out.1).mono ?_;rintro e w2 ⟨he,n1,rfl⟩;rw[r1]at he;subst he))
      go_ret
      exact⟨false,rfl,⟨λh=>(by cases h),λh=>absurd h HN.out⟩,by first|exact eH HX.out.2 _|exact eH (eH HX.out.2 _) _⟩
     |true=>
      have HN:=aW (Dm.out (qJ.1 r1) (qJ.1 r2))
      go_wp2_with (first
       |(go_at_call 110;refine(qh _ _ _ _ _ (jL HI.out.2 n1)).mono ?_;rintro e w3 ⟨he,n2,rfl⟩;rw[r2]at he;subst he)
       |(go_at_call 110;refine(qh _ _ _ _ _ HI.out.1).mono ?_;rintro e w2 ⟨he,n1,rfl⟩;rw[r1]at he;subst he))
      go_roundw
      case rel=>exact⟨k+1,by omega,by go_num,by first|exact eH HX.out.1 _|exact eH (eH HX.out.1 _) _,HN⟩
      case measure=>simp[intOf];omega
   .have h1:¬(((k:Nat):Int)<(Z.length:Int)):=by omega
    obtain⟨F,Zn⟩:=fu (kU Z);have Pm:F.length=Z.length:=(by rw[Zn,rZ]);have hAR:Gf Z:=λi h=>HJ.out i h (by omega)
    obtain⟨LV,Fz⟩:=IP hAR;rw[<-Zn]at LV Fz;have hf:dI w 0 (.slice aF Z.length gH) F:=by
     have:=HZ.out.1.nodes (xA hAR);rw[<-Zn]at this;exact this
    have HGZ:Hid (bI F↔nO Z):=aW (by rw[Zn];exact⟨λq=>⟨HZ.out.2,hAR,q⟩,λq=>q.2.2⟩);clear HJ hAR Zn;go_wp2_with fail
    obtain⟨W0,hW0,hxe,hpb,akK⟩:=Ce wr (.cells #[.slice none 0 0,.slice none 0 0] 109);have Cb:=qM hpb;have hB:qp wr W0 wr.heap.size (.slice none 0 0) (.slice none 0 0) []:=⟨Cb,λb hb=>by
     rcases hb with h|h|h
     .omega
     .simp[Value.ownBlock]at h
     .simp[Value.ownBlock]at h,hxe⟩
    have hbw:=ik hxe hb1;have hbl:=bW hb1;rw[<-hW0];clear hW0 akK;have cw:=bQ W0 w.heap.size 0 _ _ _ hbw;have hd:Ext W0 W0.drew:=⟨rfl,rfl,rfl,aJ _,λ_ _=>rfl⟩;have hfr:=hf.ext hE;have HFL:=aW Pm;have HFR:=jm hf hfr;clear Pm hf hfr;refine oJ (λW=>W.cell? ⟨w.heap.size,0,none⟩=some (.slice aF Z.length gH)) [6,7] ZV cw (λaj ae=>?_);(refine bP 0 aj ae ?_;refine bP 1 aj ae ?_;refine bP 2 aj ae ?_;refine bP 5 aj ae ?_);(refine jv aj (i:=3) λK hK=>?_;go_simp);refine(Hy _ _ _ _ _ F wr _ (hB.ext' hd) HFR.out.2 LV Fz (by have:=HFL.out;omega) (by have:=HFL.out;simp;omega)).mono ?_;rintro e w2 ⟨zS,qE,D2,i2,rfl,hB2,hG2,hD2,hi2,hS2⟩;have hbw2:w2.heap[w.heap.size]?=some (.cells #[.slice aF Z.length gH] 30 (0,0)):=by
     rw[hG2.keep.block _ (bg (bW hbw) hd.size) (λk=>by
      rcases k with h|h|h
      .omega
      .simp[Value.ownBlock]at h
      .simp[Value.ownBlock]at h)]
     exact hbw
    (refine hK.out _ _ (λ_=>?_) ?_)
    .exact bQ w2 w.heap.size 0 _ _ _ hbw2
    clear hK K;(try simp only[nP]);have amJ:=(hB.ext' hd).go hB2 hG2;(refine jv aj (i:=4) λK hK=>?_;go_simp);refine(vU _ _ _ D2 i2 _ hB2 hi2).mono ?_;rintro e w3 ⟨vN,F',rfl,hN,hIF,hSF,hx3⟩;have HF':Hid (F'=F↔bI F):=aW ⟨λe=>by rw[<-e];exact hIF,λq=>bE.kQ hIF q (bE.dn hSF hS2)⟩;(refine hK.out _ _ (λ_=>?_) ?_)
    .exact fw hx3 (bQ w2 w.heap.size 0 _ _ _ hbw2)
    clear hK K;(try simp only[nP]);have mZ:=ah hE (ah amJ.ext hx3);refine nQ aj [6,7] [_,_] ?_;go_wp2_with (go_at_call 111;refine(LC _ _ F' F _ (hN.weaken (aU _)) (HFR.out.1.ext mZ)).mono ?_;rintro e w4 ⟨bb,rfl,hbb,hx4⟩;have HBB:=aW hbb;clear hbb)
    go_ret
    exact⟨bb,rfl,by rw[HBB.out,HF'.out,HGZ.out],ah mZ hx4⟩
theorem Ah(vf:Value)(F:dh)(w:World)(hf:dI w 0 vf F)(hF:bE.bI F):Calls prog 65 #[.agg #[vf]] w λe w'=>e=.returned (.bool (dm F))/\Ext w w':=by
 refine(Dg vf (qV F) w hf.dB).mono ?_;rintro e w' ⟨b,rfl,hb,hx⟩;rw[FJ hF,<-uk]at hb;exact⟨by rw[hb],hx⟩
