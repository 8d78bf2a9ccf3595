/- 50 -/
import Derived.Test.YtplgooajigigkaaGreatDoorQ41
set_option maxRecDepth 100000
set_option maxHeartbeats 4000000
namespace Go.Proofs.YtplgooajigigkaaGreatDoor
open Tryz
open Go.RowKit
open aZ (cZ Nd Gm vl Same Ge N0)
variable {D:cZ}
def Gh(g:Gm):Prop:=g.l.length<=1/\g.r.length<=1/\(∀x,(h:x∈g.l)->Gh x)/\(∀x,(h:x∈g.r)->Gh x)/\∀x y,x∈g.l->y∈g.r->¬Ge x y
termination_by SizeOf.sizeOf g
decreasing_by
 .exact aZ.Gm.jc h
 .exact aZ.Gm.jb h
theorem WM{g:Gm}:Gh g↔g.l.length<=1/\g.r.length<=1/\(∀x,x∈g.l->Gh x)/\(∀x,x∈g.r->Gh x)/\∀x y,x∈g.l->y∈g.r->¬Ge x y:=by rw[Gh]
theorem KT(g:aZ.Good D){i:Nat}(hi:i<D.length):Gh (vl D i)↔(D[i]).1.length<=1/\(D[i]).2.length<=1/\(∀x,x∈(D[i]).1->Gh (vl D x))/\(∀x,x∈(D[i]).2->Gh (vl D x))/\∀x y,x∈(D[i]).1->y∈(D[i]).2->¬Ge (vl D x) (vl D y):=by
 have d:=ae hi;rw[WM,aZ.oN g.wf d,aZ.oK g.wf d];simp only[bH,ay,forall_exists_index,and_imp,forall_apply_eq_imp_iff₂];refine and_congr Iff.rfl (and_congr Iff.rfl (and_congr Iff.rfl (and_congr Iff.rfl ⟨λh x y hx hy=>h _ _ x hx rfl y hy rfl,λh _ _ x hx ex y hy ey=>by rw[<-ex,<-ey];exact h x y hx hy⟩)))
theorem WL(g:aZ.Good D):∀i,i<D.length->N0 (vl D i)->Gh (vl D i):=λi=>by
 induction i using Nat.strongRecOn with
 |_ i ih=>
  intro hi hn;have d:=ae hi;obtain⟨w1,w2⟩:=g.wf i _ d;obtain⟨pl,pr⟩:=Ky g hi;have one:∀{l:List Gm},l.Pairwise (λx y=>¬Same x y)->(∀x y,x∈l->y∈l->Same x y)->l.length<=1:=λ{l} p h=>by
   match l with
   |[]=>simp
   |[_]=>simp
   |a :: b :: l=>exact absurd (h a b (by simp) (by simp)) ((mE.1 p).1 b (by simp))
  have ol:=Rp g hi;have h1:=one pl λx y hx hy=>aZ.Gu hn (.inl ⟨hx,hy⟩)
  have h2:=one pr λx y hx hy=>aZ.Gu hn (.inr ⟨hx,hy⟩)
  have ml:∀x,x∈(D[i]).1->vl D x∈(vl D i).l:=λx hx=>by rw[aZ.oN g.wf d];exact bD hx
  have mr:∀x,x∈(D[i]).2->vl D x∈(vl D i).r:=λx hx=>by rw[aZ.oK g.wf d];exact bD hx
  rw[KT g hi];refine⟨by omega,by omega,λx hx=>?_,λx hx=>?_,λx y hx hy k=>?_⟩
  .have:=w1 x hx;exact ih x this (by omega) (aZ.vw.left _ _ hn (ml x hx)).1
  .have:=w2 x hx;exact ih x this (by omega) (aZ.vw.right _ _ hn (mr x hx)).1
  .exact aZ.ku (ml x hx) (aZ.bZ _ _ _ k (aZ.vw.right _ _ hn (mr y hy)).2)
def NP(pp h:Nat)(s:iK)(i:Nat)(w:World)(e:Ending)(w':World):Prop:=∃b:Bool,e=.returned (.bool b)/\(b=true↔Gh (vl s.D i))/\jd pp h s w s w'
def UW(m:Nat):Prop:=∀(pp h:Nat) (s:iK) (i:Nat) (w:World),bX w pp h s->i<s.D.length->i<m->Calls prog 106 #[.pointer (some ⟨pp,0,none⟩),.int .i64 (i:Int)] w (NP pp h s i w)
def yS:List Row:=[⟨0,[],56,[5]⟩,⟨1,[0],57,[55]⟩,⟨2,[1],58,[56]⟩,⟨3,[2],59,[57]⟩,⟨4,[3],60,[6,58]⟩,⟨5,[4,3],61,[59,58]⟩,⟨6,[5,3],62,[60,58]⟩,⟨7,[3,6],63,[58,61]⟩,⟨8,[7,3],64,[62]⟩,⟨9,[8],65,[0,63]⟩,⟨10,[8],66,[5,63]⟩,⟨11,[10,8],67,[65,63]⟩,⟨12,[11,8],68,[66,63]⟩,⟨13,[8],69,[6,63]⟩,⟨14,[13,8],70,[68,63]⟩,⟨15,[14,8],71,[69,63]⟩,⟨16,[9,12,15,8,8],72,[64,67,70,63]⟩,⟨17,[16,8],73,[71,63]⟩,⟨18,[8,17],74,[63,72]⟩,⟨19,[18,16,0,1,2,3,4,5,6,7,8,9,10,11,12,13,14,15,16,17,18],5,[73]⟩]
theorem R8{m:Nat}(ih:UW m):UW (m+1):=by
 intro pp h s i w hP hi him;obtain⟨gl,L9,aL,cL,xg,Lu,Lr,Es,yI⟩:=hP.qM hi;obtain⟨gr,L8,aR,cR,xe,Lp,nK,Er,hSR⟩:=hP.oO hi;have HI:=aI (KT hP.good hi);have d:=ae hi;obtain⟨w1,w2⟩:=hP.good.wf i _ d;have hii:((i:Nat):Int)<((s.D.length:Nat):Int):=by omega
 have hsm:=hP.small;obtain⟨OL,Pq⟩:=eu ((s.D[i]).1);obtain⟨OR,Qi⟩:=eu ((s.D[i]).2);rw[<-Pq]at Es yI w1 HI;rw[<-Qi]at Er hSR w2 HI;have HP:=aI hP;have IH:=aI ih;clear d Pq Qi ih;go_enter Tryz.func106,Tryz.ntmps106
 go_upto_region 1 with fail
 go_quiet (fail)
 generalize hW1:w.drewN nq=W1;have hd1:Ext w W1:=by rw[<-hW1];exact dz ⟨_,rfl⟩
 have hg1:jd pp h s w s W1:=jd.refl HP.out hd1;have PZ:=aI yI;have Zh:=aI hSR;clear hW1 hd1 xg xe Es Er yI hSR Lu Lr Lp nK;by_cases hl1:OL.length<=1
 .by_cases hr1:OR.length<=1
  .have q1:¬(1:Int)<((OL.length:Nat):Int):=by omega
   have q2:¬(1:Int)<((OR.length:Nat):Int):=(by omega);go_upto_region 5 with fail
   go_loopw [8,35] (λ_ kk wr=>∃k:Nat,kk=.int .i64 (k:Int)/\k<=OL.length/\jd pp h s w s wr/\Hid (∀j (h:j<OL.length),j<k->Gh (vl s.D OL[j]))) (λ_ kk _=>OL.length-(intOf kk).toNat)
   case atStart=>exact⟨0,by go_num,az _,hg1,aI λj _ h=>absurd h (by omega)⟩
   case round=>
    clear hg1;obtain⟨k,rfl,hk,hgo,HN⟩:=hrel;by_cases hlt:k<OL.length
    .have g1:((k:Nat):Int)<((OL.length:Nat):Int):=by omega
     obtain⟨-,hln,hcl⟩:=jB.at (nN.go PZ.out (Off.lists HP.out) hgo);obtain⟨b,off,rfl,hcell⟩:=hcl (by omega);have hck:=hcell k hlt;have hxi:=w1 _ (aj hlt);obtain⟨x,hxe⟩:=eu (OL[k]);rw[<-hxe]at hck hxi;have HX:=aI hxe;have HIH:=aI (IH.out pp h s x wr hgo.pool (by omega) (by omega));clear hcell hcl hln hxe;by_cases hb:Gh (vl s.D x)
     .have HB:=aI hb
      clear hb;go_wp2_with (go_at_call 106;refine HIH.out.mono ?_;rintro e w2 ⟨b,rfl,hbi,fZ⟩;obtain rfl:b=true:=hbi.2 HB.out;have gU:=hgo.trans fZ;clear hbi)
      go_roundw
      case rel=>exact⟨k+1,by go_num,by omega,gU,aI λj h h2=>by
       by_cases c:j<k
       .exact HN.out j h c
       .have:j=k:=by omega
        subst this;rw[<-HX.out];exact HB.out⟩
      case measure=>simp[intOf];omega
     .have HB:=aI hb
      clear hb;go_wp2_with (go_at_call 106;refine HIH.out.mono ?_;rintro e w2 ⟨b,rfl,hbi,fZ⟩;obtain rfl:b=false:=nJ.2 (λe=>HB.out (hbi.1 e));have gU:=hgo.trans fZ;clear hbi)
      go_ret
      exact⟨false,rfl,⟨λh=>(by cases h),λh=>absurd ((HI.out.1 h).2.2.1 x (by rw[HX.out];exact aj hlt)) HB.out⟩,gU⟩
    .have g1:¬((k:Nat):Int)<((OL.length:Nat):Int):=by omega
     have HNL:Hid (∀x,x∈OL->Gh (vl s.D x)):=aI λx hx=>by
      obtain⟨j,hj,rfl⟩:=aH.1 hx;exact HN.out j hj (by omega)
     have hg2:=hgo;clear HN hgo;go_upto_region 11 with fail
     go_loopw [10,46] (λ_ kk wr=>∃k:Nat,kk=.int .i64 (k:Int)/\k<=OR.length/\jd pp h s w s wr/\Hid (∀j (h:j<OR.length),j<k->Gh (vl s.D OR[j]))) (λ_ kk _=>OR.length-(intOf kk).toNat)
     case atStart=>exact⟨0,by go_num,az _,hg2,aI λj _ h=>absurd h (by omega)⟩
     case round=>
      clear hg2;obtain⟨k,rfl,hk,hgo,HN⟩:=hrel;by_cases hlt:k<OR.length
      .have g1:((k:Nat):Int)<((OR.length:Nat):Int):=by omega
       obtain⟨-,hln,hcl⟩:=jB.at (nN.go Zh.out (Off.lists HP.out) hgo);obtain⟨b,off,rfl,hcell⟩:=hcl (by omega);have hck:=hcell k hlt;have hxi:=w2 _ (aj hlt);obtain⟨x,hxe⟩:=eu (OR[k]);rw[<-hxe]at hck hxi;have HX:=aI hxe;have HIH:=aI (IH.out pp h s x wr hgo.pool (by omega) (by omega));clear hcell hcl hln hxe;by_cases hb:Gh (vl s.D x)
       .have HB:=aI hb
        clear hb;go_wp2_with (go_at_call 106;refine HIH.out.mono ?_;rintro e w2 ⟨b,rfl,hbi,fZ⟩;obtain rfl:b=true:=hbi.2 HB.out;have gU:=hgo.trans fZ;clear hbi)
        go_roundw
        case rel=>exact⟨k+1,by go_num,by omega,gU,aI λj h h2=>by
         by_cases c:j<k
         .exact HN.out j h c
         .have:j=k:=by omega
          subst this;rw[<-HX.out];exact HB.out⟩
        case measure=>simp[intOf];omega
       .have HB:=aI hb
        clear hb;go_wp2_with (go_at_call 106;refine HIH.out.mono ?_;rintro e w2 ⟨b,rfl,hbi,fZ⟩;obtain rfl:b=false:=nJ.2 (λe=>HB.out (hbi.1 e));have gU:=hgo.trans fZ;clear hbi)
        go_ret
        exact⟨false,rfl,⟨λh=>(by cases h),λh=>absurd ((HI.out.1 h).2.2.2.1 x (by rw[HX.out];exact aj hlt)) HB.out⟩,gU⟩
      .have g1:¬((k:Nat):Int)<((OR.length:Nat):Int):=by omega
       have HNR:Hid (∀x,x∈OR->Gh (vl s.D x)):=aI λx hx=>by
        obtain⟨j,hj,rfl⟩:=aH.1 hx;exact HN.out j hj (by omega)
       have hg2:=hgo;clear HN hgo;go_upto_region 16 with fail
       by_cases hl0:OL.length=0
       .have z1:(((OL.length:Nat):Int)== 0)=true:=by simp[hl0]
        have HZ:Hid (OL=[]):=aI (cz hl0);have aa:True:=True.intro;clear hl0;refine mQ (λ_=>True) [19] yS aa (λai aa=>?_);(refine bg 0 ai aa ?_;refine bg 1 ai aa ?_;refine bg 2 ai aa ?_;refine bg 3 ai aa ?_);((refine bK ai (i:=4) (oi:=_) (v:=undef) (by simp only[gE];rfl) (by kernel_rfl) (by exact λ_ _ _ h=>h) aa (Or.inr ⟨by rfl,rfl⟩) ?r5);(try simp only[nP]);(refine bK ai (i:=5) (oi:=_) (v:=undef) (by simp only[gE];rfl) (by kernel_rfl) (by exact λ_ _ _ h=>h) aa (Or.inr ⟨by rfl,rfl⟩) ?r6);(try simp only[nP]);(refine bK ai (i:=6) (oi:=_) (v:=undef) (by simp only[gE];rfl) (by kernel_rfl) (by exact λ_ _ _ h=>h) aa (Or.inr ⟨by rfl,rfl⟩) ?r7);(try simp only[nP]));(refine bg 7 ai aa ?_;refine bg 8 ai aa ?_);((refine bK ai (i:=9) (oi:=_) (v:=undef) (by simp only[gE];rfl) (by kernel_rfl) (by exact λ_ _ _ h=>h) aa (Or.inr ⟨by rfl,rfl⟩) ?r10);(try simp only[nP]);(refine bK ai (i:=10) (oi:=_) (v:=undef) (by simp only[gE];rfl) (by kernel_rfl) (by exact λ_ _ _ h=>h) aa (Or.inr ⟨by rfl,rfl⟩) ?r11);(try simp only[nP]);(refine bK ai (i:=11) (oi:=_) (v:=undef) (by simp only[gE];rfl) (by kernel_rfl) (by exact λ_ _ _ h=>h) aa (Or.inr ⟨by rfl,rfl⟩) ?r12);(try simp only[nP]);(refine bK ai (i:=12) (oi:=_) (v:=undef) (by simp only[gE];rfl) (by kernel_rfl) (by exact λ_ _ _ h=>h) aa (Or.inr ⟨by rfl,rfl⟩) ?r13);(try simp only[nP]);(refine bK ai (i:=13) (oi:=_) (v:=undef) (by simp only[gE];rfl) (by kernel_rfl) (by exact λ_ _ _ h=>h) aa (Or.inr ⟨by rfl,rfl⟩) ?r14);(try simp only[nP]);(refine bK ai (i:=14) (oi:=_) (v:=undef) (by simp only[gE];rfl) (by kernel_rfl) (by exact λ_ _ _ h=>h) aa (Or.inr ⟨by rfl,rfl⟩) ?r15);(try simp only[nP]);(refine bK ai (i:=15) (oi:=_) (v:=undef) (by simp only[gE];rfl) (by kernel_rfl) (by exact λ_ _ _ h=>h) aa (Or.inr ⟨by rfl,rfl⟩) ?r16);(try simp only[nP]);(refine bK ai (i:=16) (oi:=_) (v:=undef) (by simp only[gE];rfl) (by kernel_rfl) (by exact λ_ _ _ h=>h) aa (Or.inr ⟨by rfl,rfl⟩) ?r17);(try simp only[nP]);(refine bK ai (i:=17) (oi:=_) (v:=undef) (by simp only[gE];rfl) (by kernel_rfl) (by exact λ_ _ _ h=>h) aa (Or.inr ⟨by rfl,rfl⟩) ?r18);(try simp only[nP]));(refine bg 18 ai aa ?_);refine mM ai [19] [_] ?_;clear ai aa;go_wp2
        go_ret
        exact⟨true,rfl,⟨λ_=>HI.out.2 ⟨hl1,hr1,HNL.out,HNR.out,λx y hx=>by rw[HZ.out]at hx;simp at hx⟩,λ_=>rfl⟩,hg2.ext (iy _)⟩
       .have z1:(((OL.length:Nat):Int)== 0)=false:=by simp;exact λe=>hl0 (by rw[e];rfl)
        by_cases hr0:OR.length=0
        .have z2:(((OR.length:Nat):Int)== 0)=true:=by simp[hr0]
         have HZ:Hid (OR=[]):=aI (cz hr0);have aa:True:=True.intro;clear hl0 hr0;refine mQ (λ_=>True) [19] yS aa (λai aa=>?_);(refine bg 0 ai aa ?_;refine bg 1 ai aa ?_;refine bg 2 ai aa ?_;refine bg 3 ai aa ?_;refine bg 4 ai aa ?_;refine bg 5 ai aa ?_;refine bg 6 ai aa ?_;refine bg 7 ai aa ?_;refine bg 8 ai aa ?_);((refine bK ai (i:=9) (oi:=_) (v:=undef) (by simp only[gE];rfl) (by kernel_rfl) (by exact λ_ _ _ h=>h) aa (Or.inr ⟨by rfl,rfl⟩) ?r29);(try simp only[nP]);(refine bK ai (i:=10) (oi:=_) (v:=undef) (by simp only[gE];rfl) (by kernel_rfl) (by exact λ_ _ _ h=>h) aa (Or.inr ⟨by rfl,rfl⟩) ?r30);(try simp only[nP]);(refine bK ai (i:=11) (oi:=_) (v:=undef) (by simp only[gE];rfl) (by kernel_rfl) (by exact λ_ _ _ h=>h) aa (Or.inr ⟨by rfl,rfl⟩) ?r31);(try simp only[nP]);(refine bK ai (i:=12) (oi:=_) (v:=undef) (by simp only[gE];rfl) (by kernel_rfl) (by exact λ_ _ _ h=>h) aa (Or.inr ⟨by rfl,rfl⟩) ?r32);(try simp only[nP]);(refine bK ai (i:=13) (oi:=_) (v:=undef) (by simp only[gE];rfl) (by kernel_rfl) (by exact λ_ _ _ h=>h) aa (Or.inr ⟨by rfl,rfl⟩) ?r33);(try simp only[nP]);(refine bK ai (i:=14) (oi:=_) (v:=undef) (by simp only[gE];rfl) (by kernel_rfl) (by exact λ_ _ _ h=>h) aa (Or.inr ⟨by rfl,rfl⟩) ?r34);(try simp only[nP]);(refine bK ai (i:=15) (oi:=_) (v:=undef) (by simp only[gE];rfl) (by kernel_rfl) (by exact λ_ _ _ h=>h) aa (Or.inr ⟨by rfl,rfl⟩) ?r35);(try simp only[nP]);(refine bK ai (i:=16) (oi:=_) (v:=undef) (by simp only[gE];rfl) (by kernel_rfl) (by exact λ_ _ _ h=>h) aa (Or.inr ⟨by rfl,rfl⟩) ?r36);(try simp only[nP]);(refine bK ai (i:=17) (oi:=_) (v:=undef) (by simp only[gE];rfl) (by kernel_rfl) (by exact λ_ _ _ h=>h) aa (Or.inr ⟨by rfl,rfl⟩) ?r37);(try simp only[nP]));(refine bg 18 ai aa ?_);refine mM ai [19] [_] ?_;clear ai aa;go_wp2
         go_ret
         exact⟨true,rfl,⟨λ_=>HI.out.2 ⟨hl1,hr1,HNL.out,HNR.out,λx y _ hy=>by rw[HZ.out]at hy;simp at hy⟩,λ_=>rfl⟩,hg2.ext (iy _)⟩
        .have z2:(((OR.length:Nat):Int)== 0)=false:=by simp;exact λe=>hr0 (by rw[e];rfl)
         obtain⟨x,hox⟩:∃x,OL=[x]:=by
          match OL,hl0,hl1 with
          |[],h,_=>exact absurd rfl h
          |[x],_,_=>exact⟨x,rfl⟩
          |_ :: _ :: _,_,h=>simp at h
         obtain⟨y,hoy⟩:∃y,OR=[y]:=by
          match OR,hr0,hr1 with
          |[],h,_=>exact absurd rfl h
          |[y],_,_=>exact⟨y,rfl⟩
          |_ :: _ :: _,_,h=>simp at h
         have hx:=w1 x (by rw[hox];simp);have hy:=w2 y (by rw[hoy];simp);obtain⟨bl,ol,br,or,rfl,rfl⟩:∃bl ol br or,aL=some ⟨bl,ol,none⟩/\aR=some ⟨br,or,none⟩:=by
          obtain⟨-,-,h1⟩:=jB.at PZ.out;obtain⟨-,-,h2⟩:=jB.at Zh.out;obtain⟨b1,o1,e1,-⟩:=h1 (by omega);obtain⟨b2,o2,e2,-⟩:=h2 (by omega);exact⟨b1,o1,b2,o2,e1,e2⟩
         have hC:∀V:World,jd pp h s w s V->V.cell? ⟨bl,ol,none⟩=some (.int .i64 ((x:Nat):Int))/\V.cell? ⟨br,or,none⟩=some (.int .i64 ((y:Nat):Int)):=λV g=>by
          obtain⟨-,-,h1⟩:=jB.at (nN.go PZ.out (Off.lists HP.out) g);obtain⟨-,-,h2⟩:=jB.at (nN.go Zh.out (Off.lists HP.out) g);obtain⟨b1,o1,e1,k1⟩:=h1 (by omega);obtain⟨b2,o2,e2,k2⟩:=h2 (by omega);simp only[bN,Addr.mk.injEq,and_true]at e1 e2;obtain⟨rfl,rfl⟩:=e1;obtain⟨rfl,rfl⟩:=e2;have k1:=k1 0 (by omega);have k2:=k2 0 (by omega);simp only[hox,hoy,l5]at k1 k2;exact⟨k1,k2⟩
         have HC:=aI hC;have HO:=jW hox hoy;have gd:=hg2.ext (iy wr);have aa:=hC _ gd;have n1:0<OL.length:=(by omega);have n2:0<OR.length:=(by omega);obtain⟨W2,hW2⟩:=eu wr.drew;clear hl0 hr0 hC hox hoy;refine mQ (λV=>V.cell? ⟨bl,ol,none⟩=some (.int .i64 ((x:Nat):Int))/\V.cell? ⟨br,or,none⟩=some (.int .i64 ((y:Nat):Int))) [19] yS aa (λai aa=>?_);rw[<-hW2]at gd aa ⊢;clear hW2;(refine bg 0 ai aa ?_;refine bg 1 ai aa ?_;refine bg 2 ai aa ?_;refine bg 3 ai aa ?_;refine bg 4 ai aa ?_;refine bg 5 ai aa ?_;refine bg 6 ai aa ?_;refine bg 7 ai aa ?_;refine bg 8 ai aa ?_;refine bg 9 ai aa ?_;refine bg 10 ai aa ?_;refine bg 11 ai aa ?_;refine bg 12 ai aa ?_;refine bg 13 ai aa ?_;refine bg 14 ai aa ?_;refine bg 15 ai aa ?_);(refine kS ai (i:=16) λK hK=>?_;go_simp);refine(xN pp h s x y _ gd.pool (by omega) (by omega)).mono ?_;rintro e w4 ⟨g,rfl,hge,ll⟩;have gd4:=gd.trans ll;have aa:=HC.out _ gd4;refine hK.out _ _ (λ_=>aa) ?_;clear hK K;(try simp only[nP]);(refine bg 17 ai aa ?_;refine bg 18 ai aa ?_);refine mM ai [19] [_] ?_;clear ai aa;have yM:=aI hge;clear hge;go_wp2
         go_ret
         refine⟨!g,rfl,⟨λe=>HI.out.2 ⟨hl1,hr1,HNL.out,HNR.out,λx' y' hx' hy' k=>?_⟩,λe=>?_⟩,gd4⟩
         .rw[HO.out.1,dB]at hx'
          rw[HO.out.2,dB]at hy';subst hx';subst hy';rw[yM.out.2 k]at e;cases e
         .have k:=(HI.out.1 e).2.2.2.2 x y (by rw[HO.out.1];simp) (by rw[HO.out.2];simp)
          have:g=false:=nJ.2 (λq=>k (yM.out.1 q));rw[this];rfl
  .have q1:¬(1:Int)<((OL.length:Nat):Int):=by omega
   have q2:(1:Int)<((OR.length:Nat):Int):=(by omega);have HB:=aI hr1;clear hl1 hr1;go_wp2
   go_ret
   exact⟨false,rfl,⟨λh=>(by cases h),λh=>absurd (HI.out.1 h).2.1 HB.out⟩,hg1⟩
 .have q1:(1:Int)<((OL.length:Nat):Int):=by omega
  have HB:=aI hl1;clear hl1;go_wp2
  go_ret
  exact⟨false,rfl,⟨λh=>(by cases h),λh=>absurd (HI.out.1 h).1 HB.out⟩,hg1⟩
theorem WO:∀m,UW m:=λm=>by
 induction m with
 |zero=>intro pp h s i w _ _ h;omega
 |succ m ih=>exact R8 ih
theorem WN(pp h:Nat)(s:iK)(i:Nat)(w:World)(hP:bX w pp h s)(hi:i<s.D.length):Calls prog 106 #[.pointer (some ⟨pp,0,none⟩),.int .i64 (i:Int)] w (NP pp h s i w):=WO (i+1) pp h s i w hP hi (by omega)
