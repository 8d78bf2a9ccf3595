/- 44 -/
import Derived.Test.YtplgooajigigkaaGreatDoorQ40
set_option maxRecDepth 100000
set_option maxHeartbeats 4000000
namespace Go.Proofs.YtplgooajigigkaaGreatDoor
open Tryz
open Go.RowKit
open aZ (cZ Nd vl Same eD)
def EP:List Row:=[⟨0,[],21,[2]⟩,⟨1,[0],22,[20]⟩,⟨2,[],23,[5]⟩,⟨3,[1,2],24,[21,22]⟩,⟨4,[3],25,[23]⟩,⟨5,[4],26,[24]⟩,⟨6,[],27,[3]⟩,⟨7,[6],28,[26]⟩,⟨8,[],29,[5]⟩,⟨9,[7,8],30,[27,28]⟩,⟨10,[9],31,[29]⟩,⟨11,[10],32,[30]⟩,⟨12,[5,11],33,[25,31]⟩,⟨13,[12],34,[32]⟩,⟨14,[13,12],35,[33]⟩,⟨15,[14],36,[2,34]⟩,⟨16,[15,14],37,[35,34]⟩,⟨17,[14],38,[5,34]⟩,⟨18,[16,17,14],39,[36,37,34]⟩,⟨19,[18,14],40,[38,34]⟩,⟨20,[19,14],41,[39,34]⟩,⟨21,[14],42,[3,34]⟩,⟨22,[21,14],43,[41,34]⟩,⟨23,[14],44,[5,34]⟩,⟨24,[22,23,14],45,[42,43,34]⟩,⟨25,[24,14],46,[44,34]⟩,⟨26,[25,14],47,[45,34]⟩,⟨27,[20,26,14,14],48,[40,46,34]⟩,⟨28,[27,14],49,[47,34]⟩,⟨29,[14,28],50,[34,48]⟩]
theorem pK(w:World):Ext w w.drew:=dz ⟨1,rfl⟩
theorem Iq(va vb:Value)(F G:cZ)(w:World)(ha:eZ w 0 va F)(hb:eZ w 0 vb G):Calls prog 111 #[.agg #[va],.agg #[vb]] w (CJ (F=G) w):=by
 obtain⟨aA,Js,rfl,-,agr,-⟩:=id ha;obtain⟨aB,Jr,rfl,hcapB,yH,-⟩:=id hb;obtain⟨W,hW,hx,hp,hq,-⟩:=Uv w (.cells #[.slice aA F.length Js] 30) (.cells #[.slice aB G.length Jr] 30);have cp0:=bI W w.heap.size 0 _ _ _ hp;have cq0:=bI W (w.heap.size+1) 0 _ _ _ hq;simp only[gE]at cp0 cq0;by_cases hlen:F.length=G.length
 case neg=>
  have hne:(((F.length:Nat):Int) != ((G.length:Nat):Int))=true:=by simp;omega
  have HN:Hid (¬F=G):=aI λe=>hlen (by rw[e])
  clear hlen;go_enter Tryz.func111,Tryz.ntmps111
  go_upto_region 1 with fail
  rw[<-hW];clear hW;go_wp2
  go_ret
  exact⟨false,rfl,⟨λh=>(by cases h),λh=>absurd h HN.out⟩,hx⟩
 case pos=>
 have hne:(((G.length:Nat):Int) != ((G.length:Nat):Int))=false:=by simp
 rw[hlen]at hW hp cp0 ⊢;have HLEN:=aI hlen;have HA:=aI ha;have HB:=aI hb;clear hlen ha hb agr;go_enter Tryz.func111,Tryz.ntmps111
 go_upto_region 1 with fail
 rw[<-hW];clear hW;go_wp2
 generalize w.heap.size+1=q at *;generalize Le:w.heap.size=p at *;clear Le;go_loopw [5] (λkk wr=>∃k,k<=G.length/\kk=.int .i64 ((k:Nat):Int)/\Ext W wr/\Hid (∀i,i<k->F[i]?=G[i]?)) (λkk _=>G.length-(intOf kk).toNat)
 case atStart=>exact⟨0,az _,rfl,fJ _ _,aI λi h=>absurd h (by omega)⟩
 case round=>
  obtain⟨k,hk,rfl,wY,HJ⟩:=hrel;have hE:=ah hx wY;have cp:=dP wY cp0;have cq:=dP wY cq0;by_cases hlt:k<G.length
  .have h1:((k:Nat):Int)<(G.length:Int):=by omega
   have ZZ:k<F.length:=(by have:=HLEN.out;omega);obtain⟨bA,cA,aL,cL,aR,cR,he,hcA,cl,cr,Ai,Ah⟩:=(HA.out.ext hE).at ZZ;have hlen:=HLEN.out;simp only[gz]at he;obtain⟨rfl,-,rfl⟩:=he;obtain⟨bB,cB,Ey,Et,F3,FT,he,hcB,cl2,Za,aaB,aaA⟩:=(HB.out.ext hE).at hlt;simp only[gz]at he;obtain⟨rfl,-,rfl⟩:=he;obtain⟨lA,hlA⟩:=eu (bV (F[k]).1);obtain⟨rA,hrA⟩:=eu (bV (F[k]).2);obtain⟨lB,hlB⟩:=eu (bV (G[k]).1);obtain⟨rB,hrB⟩:=eu (bV (G[k]).2);rw[<-hlA]at Ai;rw[<-hrA]at Ah;rw[<-hlB]at aaB;rw[<-hrB]at aaA;have HI:=yD (And.intro Ai Ah) aaB aaA;have tz:∀{a b:List Nat},bV a=bV b->a=b:=λ{a b} e=>by
    have h:=congrArg (List.map Int.toNat) e
    simpa [bV,eP,Function.comp_def]using h
   have U6:Hid (F[k]?=G[k]?↔lA=lB/\rA=rB):=aI (by
    rw[ae ZZ,ae hlt,bN,hlA,hrA,hlB,hrB,Prod.ext_iff];exact⟨λ⟨a,b⟩=>⟨by rw[a],by rw[b]⟩,λ⟨a,b⟩=>⟨tz a,tz b⟩⟩)
   obtain⟨nL,hnL⟩:=eu ((F[k]).1.length);obtain⟨nR,hnR⟩:=eu ((F[k]).2.length);obtain⟨nL2,ZX⟩:=eu ((G[k]).1.length);obtain⟨nR2,ZW⟩:=eu ((G[k]).2.length);rw[<-hnL,<-hnR,<-ZX,<-ZW]at HI;rw[<-hnL]at cl;rw[<-hnR]at cr;rw[<-ZX]at cl2;rw[<-ZW]at Za;have HX:=jW wY hE;have Qn:=aI hlt;have hwk:wrap64 ((k:Int)+1)=(k:Int)+1:=(by unfold maxLen at yH;unfold wrap64;omega);clear Ai Ah aaB aaA wY hE tz hlA hrA hlB hrB hnL hnR ZX ZW ZZ hlen hcA hcB;cases s1:tN lA lB with
   |false=>
    have HN:Hid (¬F=G):=aI λe=>by
     have:=(U6.out.1 (by rw[e])).1;rw[this]at s1;simp[tN]at s1
    go_wp2_with fail
    refine mQ (λV=>(V.cell? ⟨p,0,none⟩=some (.slice (some ⟨bA,0,none⟩) G.length Js)/\V.cell? ⟨q,0,none⟩=some (.slice (some ⟨bB,0,none⟩) G.length Jr))/\(V.cell? ⟨bA,k*2,none⟩=some (.slice aL nL cL)/\V.cell? ⟨bA,k*2+1,none⟩=some (.slice aR nR cR))/\V.cell? ⟨bB,k*2,none⟩=some (.slice Ey nL2 Et)/\V.cell? ⟨bB,k*2+1,none⟩=some (.slice F3 nR2 FT)) [29] EP ⟨⟨cp,cq⟩,⟨cl,cr⟩,cl2,Za⟩ (λai aa=>?_);(refine bg 0 ai aa ?_;refine bg 1 ai aa ?_;refine bg 2 ai aa ?_;refine bg 3 ai aa ?_;refine bg 4 ai aa ?_;refine bg 5 ai aa ?_;refine bg 6 ai aa ?_;refine bg 7 ai aa ?_;refine bg 8 ai aa ?_;refine bg 9 ai aa ?_;refine bg 10 ai aa ?_;refine bg 11 ai aa ?_);(refine kS ai (i:=12) λK hK=>?_;go_simp);refine(lJ _ _ lA lB _ (HI.out.1.1.ext (pK _)) (HI.out.2.1.ext (pK _))).mono ?_;rintro e w1 ⟨he,n1,rfl⟩;rw[s1]at he;subst he;have aa:(λV:World=>(V.cell? ⟨p,0,none⟩=some (.slice (some ⟨bA,0,none⟩) G.length Js)/\V.cell? ⟨q,0,none⟩=some (.slice (some ⟨bB,0,none⟩) G.length Jr))/\(V.cell? ⟨bA,k*2,none⟩=some (.slice aL nL cL)/\V.cell? ⟨bA,k*2+1,none⟩=some (.slice aR nR cR))/\V.cell? ⟨bB,k*2,none⟩=some (.slice Ey nL2 Et)/\V.cell? ⟨bB,k*2+1,none⟩=some (.slice F3 nR2 FT)) (wr.drew.drewN n1):=aa;refine hK.out _ _ (λ_=>aa) ?_;clear hK K;(try simp only[nP]);(refine bg 13 ai aa ?_;refine bg 14 ai aa ?_);((refine bK ai (i:=15) (oi:=_) (v:=undef) (by simp only[gE];rfl) (by kernel_rfl) (by exact λ_ _ _ h=>h) aa (Or.inr ⟨by rfl,rfl⟩) ?r15);(try simp only[nP]);(refine bK ai (i:=16) (oi:=_) (v:=undef) (by simp only[gE];rfl) (by kernel_rfl) (by exact λ_ _ _ h=>h) aa (Or.inr ⟨by rfl,rfl⟩) ?r16);(try simp only[nP]);(refine bK ai (i:=17) (oi:=_) (v:=undef) (by simp only[gE];rfl) (by kernel_rfl) (by exact λ_ _ _ h=>h) aa (Or.inr ⟨by rfl,rfl⟩) ?r17);(try simp only[nP]);(refine bK ai (i:=18) (oi:=_) (v:=undef) (by simp only[gE];rfl) (by kernel_rfl) (by exact λ_ _ _ h=>h) aa (Or.inr ⟨by rfl,rfl⟩) ?r18);(try simp only[nP]);(refine bK ai (i:=19) (oi:=_) (v:=undef) (by simp only[gE];rfl) (by kernel_rfl) (by exact λ_ _ _ h=>h) aa (Or.inr ⟨by rfl,rfl⟩) ?r19);(try simp only[nP]);(refine bK ai (i:=20) (oi:=_) (v:=undef) (by simp only[gE];rfl) (by kernel_rfl) (by exact λ_ _ _ h=>h) aa (Or.inr ⟨by rfl,rfl⟩) ?r20);(try simp only[nP]);(refine bK ai (i:=21) (oi:=_) (v:=undef) (by simp only[gE];rfl) (by kernel_rfl) (by exact λ_ _ _ h=>h) aa (Or.inr ⟨by rfl,rfl⟩) ?r21);(try simp only[nP]);(refine bK ai (i:=22) (oi:=_) (v:=undef) (by simp only[gE];rfl) (by kernel_rfl) (by exact λ_ _ _ h=>h) aa (Or.inr ⟨by rfl,rfl⟩) ?r22);(try simp only[nP]);(refine bK ai (i:=23) (oi:=_) (v:=undef) (by simp only[gE];rfl) (by kernel_rfl) (by exact λ_ _ _ h=>h) aa (Or.inr ⟨by rfl,rfl⟩) ?r23);(try simp only[nP]);(refine bK ai (i:=24) (oi:=_) (v:=undef) (by simp only[gE];rfl) (by kernel_rfl) (by exact λ_ _ _ h=>h) aa (Or.inr ⟨by rfl,rfl⟩) ?r24);(try simp only[nP]);(refine bK ai (i:=25) (oi:=_) (v:=undef) (by simp only[gE];rfl) (by kernel_rfl) (by exact λ_ _ _ h=>h) aa (Or.inr ⟨by rfl,rfl⟩) ?r25);(try simp only[nP]);(refine bK ai (i:=26) (oi:=_) (v:=undef) (by simp only[gE];rfl) (by kernel_rfl) (by exact λ_ _ _ h=>h) aa (Or.inr ⟨by rfl,rfl⟩) ?r26);(try simp only[nP]);(refine bK ai (i:=27) (oi:=_) (v:=undef) (by simp only[gE];rfl) (by kernel_rfl) (by exact λ_ _ _ h=>h) aa (Or.inr ⟨by rfl,rfl⟩) ?r27);(try simp only[nP]);(refine bK ai (i:=28) (oi:=_) (v:=undef) (by simp only[gE];rfl) (by kernel_rfl) (by exact λ_ _ _ h=>h) aa (Or.inr ⟨by rfl,rfl⟩) ?r28);(try simp only[nP]));refine mM ai [29] [_] ?_;clear ai aa;go_wp2
    go_ret
    exact⟨false,rfl,⟨λh=>(by cases h),λh=>absurd h HN.out⟩,dG HX.out.2 _⟩
   |true=>
    cases s2:tN rA rB with
    |false=>
     have HN:Hid (¬F=G):=aI λe=>by
      have:=(U6.out.1 (by rw[e])).2;rw[this]at s2;simp[tN]at s2
     go_wp2_with fail
     refine mQ (λV=>(V.cell? ⟨p,0,none⟩=some (.slice (some ⟨bA,0,none⟩) G.length Js)/\V.cell? ⟨q,0,none⟩=some (.slice (some ⟨bB,0,none⟩) G.length Jr))/\(V.cell? ⟨bA,k*2,none⟩=some (.slice aL nL cL)/\V.cell? ⟨bA,k*2+1,none⟩=some (.slice aR nR cR))/\V.cell? ⟨bB,k*2,none⟩=some (.slice Ey nL2 Et)/\V.cell? ⟨bB,k*2+1,none⟩=some (.slice F3 nR2 FT)) [27,28,29] EP ⟨⟨cp,cq⟩,⟨cl,cr⟩,cl2,Za⟩ (λai aa=>?_);(refine bg 0 ai aa ?_;refine bg 1 ai aa ?_;refine bg 2 ai aa ?_;refine bg 3 ai aa ?_;refine bg 4 ai aa ?_;refine bg 5 ai aa ?_;refine bg 6 ai aa ?_;refine bg 7 ai aa ?_;refine bg 8 ai aa ?_;refine bg 9 ai aa ?_;refine bg 10 ai aa ?_;refine bg 11 ai aa ?_);(refine kS ai (i:=12) λK hK=>?_;go_simp);refine(lJ _ _ lA lB _ (HI.out.1.1.ext (pK _)) (HI.out.2.1.ext (pK _))).mono ?_;rintro e w1 ⟨he,n1,rfl⟩;rw[s1]at he;subst he;have aa:(λV:World=>(V.cell? ⟨p,0,none⟩=some (.slice (some ⟨bA,0,none⟩) G.length Js)/\V.cell? ⟨q,0,none⟩=some (.slice (some ⟨bB,0,none⟩) G.length Jr))/\(V.cell? ⟨bA,k*2,none⟩=some (.slice aL nL cL)/\V.cell? ⟨bA,k*2+1,none⟩=some (.slice aR nR cR))/\V.cell? ⟨bB,k*2,none⟩=some (.slice Ey nL2 Et)/\V.cell? ⟨bB,k*2+1,none⟩=some (.slice F3 nR2 FT)) (wr.drew.drewN n1):=aa;refine hK.out _ _ (λ_=>aa) ?_;clear hK K;(try simp only[nP]);(refine bg 13 ai aa ?_;refine bg 14 ai aa ?_;refine bg 15 ai aa ?_;refine bg 16 ai aa ?_;refine bg 17 ai aa ?_;refine bg 18 ai aa ?_;refine bg 19 ai aa ?_;refine bg 20 ai aa ?_;refine bg 21 ai aa ?_;refine bg 22 ai aa ?_;refine bg 23 ai aa ?_;refine bg 24 ai aa ?_;refine bg 25 ai aa ?_;refine bg 26 ai aa ?_);refine mM ai [27,28,29] [_,_,_] ?_;clear ai aa;go_wp2_with (go_at_call 152;refine(lJ _ _ rA rB _ (HI.out.1.2.ext (dz ⟨1+n1,by rw[<-World.drewN_drewN]⟩)) (HI.out.2.2.ext (dz ⟨1+n1,by rw[<-World.drewN_drewN]⟩))).mono ?_;rintro e w2 ⟨he,n2,rfl⟩;rw[s2]at he;subst he)
     go_ret
     exact⟨false,rfl,⟨λh=>(by cases h),λh=>absurd h HN.out⟩,dG HX.out.2 _⟩
    |true=>
     have HN:Hid (∀i,i<k+1->F[i]?=G[i]?):=aI λi hi=>by
      by_cases c:i=k
      .subst c;exact U6.out.2 ⟨of_decide_eq_true s1,of_decide_eq_true s2⟩
      .exact HJ.out i (by omega)
     go_wp2_with fail
     refine mQ (λV=>(V.cell? ⟨p,0,none⟩=some (.slice (some ⟨bA,0,none⟩) G.length Js)/\V.cell? ⟨q,0,none⟩=some (.slice (some ⟨bB,0,none⟩) G.length Jr))/\(V.cell? ⟨bA,k*2,none⟩=some (.slice aL nL cL)/\V.cell? ⟨bA,k*2+1,none⟩=some (.slice aR nR cR))/\V.cell? ⟨bB,k*2,none⟩=some (.slice Ey nL2 Et)/\V.cell? ⟨bB,k*2+1,none⟩=some (.slice F3 nR2 FT)) [27,28,29] EP ⟨⟨cp,cq⟩,⟨cl,cr⟩,cl2,Za⟩ (λai aa=>?_);(refine bg 0 ai aa ?_;refine bg 1 ai aa ?_;refine bg 2 ai aa ?_;refine bg 3 ai aa ?_;refine bg 4 ai aa ?_;refine bg 5 ai aa ?_;refine bg 6 ai aa ?_;refine bg 7 ai aa ?_;refine bg 8 ai aa ?_;refine bg 9 ai aa ?_;refine bg 10 ai aa ?_;refine bg 11 ai aa ?_);(refine kS ai (i:=12) λK hK=>?_;go_simp);refine(lJ _ _ lA lB _ (HI.out.1.1.ext (pK _)) (HI.out.2.1.ext (pK _))).mono ?_;rintro e w1 ⟨he,n1,rfl⟩;rw[s1]at he;subst he;have aa:(λV:World=>(V.cell? ⟨p,0,none⟩=some (.slice (some ⟨bA,0,none⟩) G.length Js)/\V.cell? ⟨q,0,none⟩=some (.slice (some ⟨bB,0,none⟩) G.length Jr))/\(V.cell? ⟨bA,k*2,none⟩=some (.slice aL nL cL)/\V.cell? ⟨bA,k*2+1,none⟩=some (.slice aR nR cR))/\V.cell? ⟨bB,k*2,none⟩=some (.slice Ey nL2 Et)/\V.cell? ⟨bB,k*2+1,none⟩=some (.slice F3 nR2 FT)) (wr.drew.drewN n1):=aa;refine hK.out _ _ (λ_=>aa) ?_;clear hK K;(try simp only[nP]);(refine bg 13 ai aa ?_;refine bg 14 ai aa ?_;refine bg 15 ai aa ?_;refine bg 16 ai aa ?_;refine bg 17 ai aa ?_;refine bg 18 ai aa ?_;refine bg 19 ai aa ?_;refine bg 20 ai aa ?_;refine bg 21 ai aa ?_;refine bg 22 ai aa ?_;refine bg 23 ai aa ?_;refine bg 24 ai aa ?_;refine bg 25 ai aa ?_;refine bg 26 ai aa ?_);refine mM ai [27,28,29] [_,_,_] ?_;clear ai aa;go_wp2_with (go_at_call 152;refine(lJ _ _ rA rB _ (HI.out.1.2.ext (dz ⟨1+n1,by rw[<-World.drewN_drewN]⟩)) (HI.out.2.2.ext (dz ⟨1+n1,by rw[<-World.drewN_drewN]⟩))).mono ?_;rintro e w2 ⟨he,n2,rfl⟩;rw[s2]at he;subst he)
     go_roundw
     case rel=>exact⟨k+1,Qn.out,by rw[hwk];rfl,dG HX.out.1 _,HN⟩
     case measure=>
      have:=Qn.out;rw[hwk];simp[intOf];omega
  .have h1:¬(((k:Nat):Int)<(G.length:Int)):=by omega
   have HN:Hid (F=G):=aI (qQ λi=>by
    by_cases c:i<k
    .exact HJ.out i c
    .rw[ic (by have:=HLEN.out;omega),ic (by omega)])
   go_wp2
   go_ret
   exact⟨true,rfl,⟨λ_=>HN.out,λ_=>rfl⟩,hE⟩
def Wh:List Row:=[⟨0,[],40,[4]⟩,⟨1,[],41,[4]⟩,⟨2,[],42,[1]⟩,⟨3,[1,2],43,[40,41]⟩,⟨4,[0,3,3],44,[39,42]⟩,⟨5,[],45,[1]⟩,⟨6,[4,5,4],46,[43,44]⟩,⟨7,[6,6,0,1,2,3,4,5,6],3,[45]⟩]
theorem Ir(vf:Value)(Z:List Ml)(w:World)(hz:qj w vf Z):Calls prog 65 #[.agg #[vf]] w (CJ (qH Z) w):=by
 obtain⟨aF,fI,rfl,hcap,yH,-⟩:=id hz;have hxb:Ext w (w.alloc (.cells #[.slice aF Z.length fI] 30)):=by go_grown
 cases hfit:qg Z with
 |false=>
  have HN:Hid (¬qH Z):=aI λk=>by rw[k.1]at hfit;cases hfit
  go_enter Tryz.func65,Tryz.ntmps65
  go_wp2_with (go_at_call 109;refine(zK _ Z _ (hz.ext hxb)).mono ?_;rintro e w1 ⟨he,hx1⟩;rw[hfit]at he;subst he)
  go_ret
  exact⟨false,rfl,⟨λh=>(by cases h),λh=>absurd h HN.out⟩,ah hxb hx1⟩
 |true=>
  have hlen:Z.length<=120/\0<Z.length:=by
   unfold qg at hfit;have:=of_decide_eq_true hfit;omega
  have HZ:=jW hz hfit;go_enter Tryz.func65,Tryz.ntmps65
  go_wp2_with (go_at_call 109;refine(zK _ Z _ (hz.ext hxb)).mono ?_;rintro e w1 ⟨he,hx1⟩;rw[hfit]at he;subst he)
  have hbx:w1.heap[w.heap.size]?=some (.cells #[.slice aF Z.length fI] 30 (0,0)):=by
   rw[hx1.block _ (by rw[eX];omega)];exact dV _ _
  have hE1:=ah hxb hx1;clear hx1 hxb hz hfit;go_loopw [3] (λkk wr=>∃k,k<=Z.length/\kk=.int .i64 ((k:Nat):Int)/\Ext w1 wr/\Hid (∀i (h:i<Z.length),i<k->qP (Z[i]).1 i/\qP (Z[i]).2 i)) (λkk _=>Z.length-(intOf kk).toNat)
  case atStart=>exact⟨0,az _,rfl,fJ _ _,aI λi _ h=>absurd h (by omega)⟩
  case round=>
   obtain⟨k,hk,rfl,hx,HJ⟩:=hrel;have hE:=ah hE1 hx;have hb1:wr.heap[w.heap.size]?=some (.cells #[.slice aF Z.length fI] 30 (0,0)):=(by rw[hx.block _ (bq hbx)];exact hbx);have cb:=bI wr w.heap.size 0 _ _ _ hb1;by_cases hlt:k<Z.length
   .have h1:((k:Nat):Int)<(Z.length:Int):=by omega
    obtain⟨bF,cF,aL,cL,aR,cR,he,Qf,cl,cr,Ai,Ah⟩:=(HZ.out.1.ext hE).at hlt;simp only[gz]at he;obtain⟨rfl,-,rfl⟩:=he;obtain⟨zL,YK⟩:=eu ((Z[k]).1);obtain⟨zR,YJ⟩:=eu ((Z[k]).2);rw[<-YK]at cl Ai;rw[<-YJ]at cr Ah;have HI:=jW Ai Ah;have U6:Hid (qH Z->qP zL k/\qP zR k):=aI λq=>by rw[YK,YJ];exact q.2.1 k hlt
    have P6:Hid (qP zL k->qP zR k->∀i (h:i<Z.length),i<k+1->qP (Z[i]).1 i/\qP (Z[i]).2 i):=aI λa b i h hik=>by
     by_cases c:i=k
     .subst c;rw[<-YK,<-YJ];exact⟨a,b⟩
     .exact HJ.out i h (by omega)
    have HX:=jW hx hE;have hwk:wrap64 ((k:Int)-1)=(k:Int)-1:=(by unfold wrap64;omega);clear hb1 hE hx Ai Ah YK YJ;cases r1:rises zL 0 ((k:Int)-1)with
    |false=>
     have HN:Hid (¬qH Z):=aI λq=>by rw[nS.2 (U6.out q).1]at r1;cases r1
     go_wp2_with (go_at_call 110;refine(nk _ _ _ _ _ HI.out.1).mono ?_;rintro e w2 ⟨he,n1,rfl⟩;rw[r1]at he;subst he)
     go_ret
     exact⟨false,rfl,⟨λh=>(by cases h),λh=>absurd h HN.out⟩,dG HX.out.2 _⟩
    |true=>
     cases r2:rises zR 0 ((k:Int)-1)with
     |false=>
      have HN:Hid (¬qH Z):=aI λq=>by rw[nS.2 (U6.out q).2]at r2;cases r2
      go_wp2_with (first
       |(go_at_call 110;refine(nk _ _ _ _ _ (j5 HI.out.2 n1)).mono ?_;rintro e w3 ⟨he,n2,rfl⟩;rw[r2]at he;subst he)
       |(go_at_call 110;refine(nk _ _ _ _ _ HI.out.1).mono ?_;rintro e w2 ⟨he,n1,rfl⟩;rw[r1]at he;subst he))
      go_ret
      exact⟨false,rfl,⟨λh=>(by cases h),λh=>absurd h HN.out⟩,by first|exact dG HX.out.2 _|exact dG (dG HX.out.2 _) _⟩
     |true=>
      have HN:=aI (P6.out (nS.1 r1) (nS.1 r2))
      go_wp2_with (first
       |(go_at_call 110;refine(nk _ _ _ _ _ (j5 HI.out.2 n1)).mono ?_;rintro e w3 ⟨he,n2,rfl⟩;rw[r2]at he;subst he)
       |(go_at_call 110;refine(nk _ _ _ _ _ HI.out.1).mono ?_;rintro e w2 ⟨he,n1,rfl⟩;rw[r1]at he;subst he))
      go_roundw
      case rel=>exact⟨k+1,by omega,by go_num,by first|exact dG HX.out.1 _|exact dG (dG HX.out.1 _) _,HN⟩
      case measure=>simp[intOf];omega
   .have h1:¬(((k:Nat):Int)<(Z.length:Int)):=by omega
    obtain⟨F,VD⟩:=eu (nM Z);have Ak:F.length=Z.length:=(by rw[VD,o8]);have XJ:CK Z:=λi h=>HJ.out i h (by omega)
    obtain⟨IP,Cc⟩:=Ex XJ;rw[<-VD]at IP Cc;have hf:eZ w 0 (.slice aF Z.length fI) F:=by
     have:=HZ.out.1.nodes (Cv XJ);rw[<-VD]at this;exact this
    have HGZ:Hid (eD F↔qH Z):=aI (by rw[VD];exact⟨λq=>⟨HZ.out.2,XJ,q⟩,λq=>q.2.2⟩);clear HJ XJ VD;go_wp2_with fail
    obtain⟨W0,hW0,hxe,hpb,afM⟩:=xq wr (.cells #[.slice none 0 0,.slice none 0 0] 109);have Gd:=xm hpb;have hB:oF wr W0 wr.heap.size (.slice none 0 0) (.slice none 0 0) []:=⟨Gd,λb hb=>by
     rcases hb with h|h|h
     .omega
     .simp[Value.ownBlock]at h
     .simp[Value.ownBlock]at h,hxe⟩
    have hbw:=kY hxe hb1;have hbl:=bq hb1;rw[<-hW0];clear hW0 afM;have cw:=bI W0 w.heap.size 0 _ _ _ hbw;have hd:Ext W0 W0.drew:=⟨rfl,rfl,rfl,ax _,λ_ _=>rfl⟩;have hfr:=hf.ext hE;have Mt:=aI Ak;have Yi:=jW hf hfr;clear Ak hf hfr;refine mQ (λW=>W.cell? ⟨w.heap.size,0,none⟩=some (.slice aF Z.length fI)) [6,7] Wh cw (λai aa=>?_);(refine bg 0 ai aa ?_;refine bg 1 ai aa ?_;refine bg 2 ai aa ?_;refine bg 5 ai aa ?_);(refine kS ai (i:=3) λK hK=>?_;go_simp);refine(DD _ _ _ _ _ F wr _ (hB.ext' hd) Yi.out.2 IP Cc (by have:=Mt.out;omega) (by have:=Mt.out;simp;omega)).mono ?_;rintro e w2 ⟨F8,qK,D2,i2,rfl,hB2,hG2,hD2,hi2,hS2⟩;have hbw2:w2.heap[w.heap.size]?=some (.cells #[.slice aF Z.length fI] 30 (0,0)):=by
     rw[hG2.keep.block _ (aJ (bq hbw) hd.size) (λk=>by
      rcases k with h|h|h
      .omega
      .simp[Value.ownBlock]at h
      .simp[Value.ownBlock]at h)]
     exact hbw
    (refine hK.out _ _ (λ_=>?_) ?_)
    .exact bI w2 w.heap.size 0 _ _ _ hbw2
    clear hK K;(try simp only[nP]);have ahy:=(hB.ext' hd).go hB2 hG2;(refine kS ai (i:=4) λK hK=>?_;go_simp);refine(Cg _ _ _ D2 i2 _ hB2 hi2).mono ?_;rintro e w3 ⟨vN,F',rfl,hN,hIF,hSF,hx3⟩;have HF':Hid (F'=F↔eD F):=aI ⟨λe=>by rw[<-e];exact hIF,λq=>aZ.zW hIF q (aZ.fE hSF hS2)⟩;(refine hK.out _ _ (λ_=>?_) ?_)
    .exact dP hx3 (bI w2 w.heap.size 0 _ _ _ hbw2)
    clear hK K;(try simp only[nP]);have pG:=ah hE (ah ahy.ext hx3);refine mM ai [6,7] [_,_] ?_;go_wp2_with (go_at_call 111;refine(Iq _ _ F' F _ (hN.weaken (az _)) (Yi.out.1.ext pG)).mono ?_;rintro e w4 ⟨bb,rfl,hbb,hx4⟩;have HBB:=aI hbb;clear hbb)
    go_ret
    exact⟨bb,rfl,by rw[HBB.out,HF'.out,HGZ.out],ah pG hx4⟩
theorem KM(vf:Value)(F:cZ)(w:World)(hf:eZ w 0 vf F)(hF:aZ.eD F):Calls prog 65 #[.agg #[vf]] w λe w'=>e=.returned (.bool (mP F))/\Ext w w':=by
 refine(Ir vf (tQ F) w hf.bV).mono ?_;rintro e w' ⟨b,rfl,hb,hx⟩;rw[Ce hF,<-fV]at hb;exact⟨by rw[hb],hx⟩
theorem yF(vf:Value)(F:cZ)(w:World)(hf:eZ w 0 vf F)(hF:aZ.eD F):Calls prog 49 #[.agg #[vf]] w λe w'=>e=.returned (.bool (mP F))/\Ext w w':=by
 obtain⟨aF,fI,rfl,hcap,yH,-⟩:=id hf;have hxb:Ext w (w.alloc (.cells #[.slice aF F.length fI] 30)):=by go_grown
 go_enter Tryz.func49,Tryz.ntmps49
 go_wp2_with (go_at_call 65;refine(KM _ F _ (hf.ext hxb) hF).mono ?_;rintro e w1 ⟨rfl,hx1⟩)
 go_ret
 exact⟨rfl,ah hxb hx1⟩
