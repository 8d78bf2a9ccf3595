/- 43 -/
import Derived.Test.YtplgooajigigkaaGreatDoorK37
set_option maxRecDepth 100000
set_option maxHeartbeats 4000000
namespace Go.Proofs.YtplgooajigigkaaGreatDoor
open Tryz
section
open Go.RowKit
open bE (dh Nd Gm vl Same Ge N0)
variable {D:dh}
def Kn(g:Gm):Prop:=g.l.length<=1/\g.r.length<=1/\(∀x,(h:x∈g.l)->Kn x)/\(∀x,(h:x∈g.r)->Kn x)/\∀x y,x∈g.l->y∈g.r->¬Ge x y
termination_by SizeOf.sizeOf g
decreasing_by
 .exact bE.Gm.jI h
 .exact bE.Gm.jH h
theorem QV{g:Gm}:Kn g↔g.l.length<=1/\g.r.length<=1/\(∀x,x∈g.l->Kn x)/\(∀x,x∈g.r->Kn x)/\∀x y,x∈g.l->y∈g.r->¬Ge x y:=by rw[Kn]
theorem Ov(g:bE.Good D){i:Nat}(hi:i<D.length):Kn (vl D i)↔(D[i]).1.length<=1/\(D[i]).2.length<=1/\(∀x,x∈(D[i]).1->Kn (vl D x))/\(∀x,x∈(D[i]).2->Kn (vl D x))/\∀x y,x∈(D[i]).1->y∈(D[i]).2->¬Ge (vl D x) (vl D y):=by
 have d:=af hi;rw[QV,bE.lI g.wf d,bE.lH g.wf d];simp only[bK,az,forall_exists_index,and_imp,forall_apply_eq_imp_iff₂];refine and_congr Iff.rfl (and_congr Iff.rfl (and_congr Iff.rfl (and_congr Iff.rfl ⟨λh x y hx hy=>h _ _ x hx rfl y hy rfl,λh _ _ x hx ex y hy ey=>by rw[<-ex,<-ey];exact h x y hx hy⟩)))
theorem QU(g:bE.Good D):∀i,i<D.length->N0 (vl D i)->Kn (vl D i):=λi=>by
 induction i using Nat.strongRecOn with
 |_ i ih=>
  intro hi hn;have d:=af hi;obtain⟨w1,w2⟩:=g.wf i _ d;obtain⟨pl,pr⟩:=qK g hi;have one:∀{l:List Gm},l.Pairwise (λx y=>¬Same x y)->(∀x y,x∈l->y∈l->Same x y)->l.length<=1:=λ{l} p h=>by
   match l with
   |[]=>simp
   |[_]=>simp
   |a :: b :: l=>exact absurd (h a b (by simp) (by simp)) ((lu.1 p).1 b (by simp))
  have ol:=Bc g hi;have h1:=one pl λx y hx hy=>bE.AB hn (.inl ⟨hx,hy⟩)
  have h2:=one pr λx y hx hy=>bE.AB hn (.inr ⟨hx,hy⟩)
  have ml:∀x,x∈(D[i]).1->vl D x∈(vl D i).l:=λx hx=>by rw[bE.lI g.wf d];exact aV hx
  have mr:∀x,x∈(D[i]).2->vl D x∈(vl D i).r:=λx hx=>by rw[bE.lH g.wf d];exact aV hx
  rw[Ov g hi];refine⟨by omega,by omega,λx hx=>?_,λx hx=>?_,λx y hx hy k=>?_⟩
  .have:=w1 x hx;exact ih x this (by omega) (bE.lT.left _ _ hn (ml x hx)).1
  .have:=w2 x hx;exact ih x this (by omega) (bE.lT.right _ _ hn (mr x hx)).1
  .exact bE.kV (ml x hx) (bE.bH _ _ _ k (bE.lT.right _ _ hn (mr y hy)).2)
def RG(pp h:Nat)(s:jF)(i:Nat)(w:World)(e:Ending)(w':World):Prop:=∃b:Bool,e=.returned (.bool b)/\(b=true↔Kn (vl s.D i))/\jr pp h s w s w'
def YQ(m:Nat):Prop:=∀(pp h:Nat) (s:jF) (i:Nat) (w:World),dA w pp h s->i<s.D.length->i<m->Calls prog 106 #[.pointer (some ⟨pp,0,none⟩),.int .i64 (i:Int)] w (RG pp h s i w)
def Ck:List Row:=[⟨0,[],56,[5]⟩,⟨1,[0],57,[55]⟩,⟨2,[1],58,[56]⟩,⟨3,[2],59,[57]⟩,⟨4,[3],60,[6,58]⟩,⟨5,[4,3],61,[59,58]⟩,⟨6,[5,3],62,[60,58]⟩,⟨7,[3,6],63,[58,61]⟩,⟨8,[7,3],64,[62]⟩,⟨9,[8],65,[0,63]⟩,⟨10,[8],66,[5,63]⟩,⟨11,[10,8],67,[65,63]⟩,⟨12,[11,8],68,[66,63]⟩,⟨13,[8],69,[6,63]⟩,⟨14,[13,8],70,[68,63]⟩,⟨15,[14,8],71,[69,63]⟩,⟨16,[9,12,15,8,8],72,[64,67,70,63]⟩,⟨17,[16,8],73,[71,63]⟩,⟨18,[8,17],74,[63,72]⟩,⟨19,[18,16,0,1,2,3,4,5,6,7,8,9,10,11,12,13,14,15,16,17,18],5,[73]⟩]
theorem Wz{m:Nat}(ih:YQ m):YQ (m+1):=by
 intro pp h s i w hP hi him;obtain⟨gl,PG,aL,cL,Al,OU,OT,IK,sO⟩:=hP.rG hi;obtain⟨gr,PE,aR,cR,yx,OQ,qC,IJ,hSR⟩:=hP.qc hi;have HI:=aW (Ov hP.good hi);have d:=af hi;obtain⟨w1,w2⟩:=hP.good.wf i _ d;have hii:((i:Nat):Int)<((s.D.length:Nat):Int):=by omega
 have hsm:=hP.small;obtain⟨OL,Kg⟩:=fu ((s.D[i]).1);obtain⟨OR,Mg⟩:=fu ((s.D[i]).2);rw[<-Kg]at IK sO w1 HI;rw[<-Mg]at IJ hSR w2 HI;have HP:=aW hP;have IH:=aW ih;clear d Kg Mg ih;go_enter Tryz.func106,Tryz.ntmps106
 go_upto_region 1 with fail
 go_quiet (fail)
 generalize hW1:w.drewN nq=W1;have hd1:Ext w W1:=by rw[<-hW1];exact dQ ⟨_,rfl⟩
 have hg1:jr pp h s w s W1:=jr.refl HP.out hd1;have HSL:=aW sO;have HSR:=aW hSR;clear hW1 hd1 Al yx IK IJ sO hSR OU OT OQ qC;by_cases hl1:OL.length<=1
 .by_cases hr1:OR.length<=1
  .have q1:¬(1:Int)<((OL.length:Nat):Int):=by omega
   have q2:¬(1:Int)<((OR.length:Nat):Int):=(by omega);go_upto_region 5 with fail
   go_loopw [8,35] (λ_ kk wr=>∃k:Nat,kk=.int .i64 (k:Int)/\k<=OL.length/\jr pp h s w s wr/\Hid (∀j (h:j<OL.length),j<k->Kn (vl s.D OL[j]))) (λ_ kk _=>OL.length-(intOf kk).toNat)
   case atStart=>exact⟨0,by go_num,aU _,hg1,aW λj _ h=>absurd h (by omega)⟩
   case round=>
    clear hg1;obtain⟨k,rfl,hk,hgo,HN⟩:=hrel;by_cases hlt:k<OL.length
    .have g1:((k:Nat):Int)<((OL.length:Nat):Int):=by omega
     obtain⟨-,hln,hcl⟩:=ji.at (oN.go HSL.out (Off.lists HP.out) hgo);obtain⟨b,off,rfl,hcell⟩:=hcl (by omega);have hck:=hcell k hlt;have hxi:=w1 _ (ai hlt);obtain⟨x,hxe⟩:=fu (OL[k]);rw[<-hxe]at hck hxi;have HX:=aW hxe;have HIH:=aW (IH.out pp h s x wr hgo.pool (by omega) (by omega));clear hcell hcl hln hxe;by_cases hb:Kn (vl s.D x)
     .have HB:=aW hb
      clear hb;go_wp2_with (go_at_call 106;refine HIH.out.mono ?_;rintro e w2 ⟨b,rfl,hbi,gZ⟩;obtain rfl:b=true:=hbi.2 HB.out;have iq:=hgo.trans gZ;clear hbi)
      go_roundw
      case rel=>exact⟨k+1,by go_num,by omega,iq,aW λj h h2=>by
       by_cases c:j<k
       .exact HN.out j h c
       .have:j=k:=by omega
        subst this;rw[<-HX.out];exact HB.out⟩
      case measure=>simp[intOf];omega
     .have HB:=aW hb
      clear hb;go_wp2_with (go_at_call 106;refine HIH.out.mono ?_;rintro e w2 ⟨b,rfl,hbi,gZ⟩;obtain rfl:b=false:=iT.2 (λe=>HB.out (hbi.1 e));have iq:=hgo.trans gZ;clear hbi)
      go_ret
      exact⟨false,rfl,⟨λh=>(by cases h),λh=>absurd ((HI.out.1 h).2.2.1 x (by rw[HX.out];exact ai hlt)) HB.out⟩,iq⟩
    .have g1:¬((k:Nat):Int)<((OL.length:Nat):Int):=by omega
     have HNL:Hid (∀x,x∈OL->Kn (vl s.D x)):=aW λx hx=>by
      obtain⟨j,hj,rfl⟩:=aQ.1 hx;exact HN.out j hj (by omega)
     have hg2:=hgo;clear HN hgo;go_upto_region 11 with fail
     go_loopw [10,46] (λ_ kk wr=>∃k:Nat,kk=.int .i64 (k:Int)/\k<=OR.length/\jr pp h s w s wr/\Hid (∀j (h:j<OR.length),j<k->Kn (vl s.D OR[j]))) (λ_ kk _=>OR.length-(intOf kk).toNat)
     case atStart=>exact⟨0,by go_num,aU _,hg2,aW λj _ h=>absurd h (by omega)⟩
     case round=>
      clear hg2;obtain⟨k,rfl,hk,hgo,HN⟩:=hrel;by_cases hlt:k<OR.length
      .have g1:((k:Nat):Int)<((OR.length:Nat):Int):=by omega
       obtain⟨-,hln,hcl⟩:=ji.at (oN.go HSR.out (Off.lists HP.out) hgo);obtain⟨b,off,rfl,hcell⟩:=hcl (by omega);have hck:=hcell k hlt;have hxi:=w2 _ (ai hlt);obtain⟨x,hxe⟩:=fu (OR[k]);rw[<-hxe]at hck hxi;have HX:=aW hxe;have HIH:=aW (IH.out pp h s x wr hgo.pool (by omega) (by omega));clear hcell hcl hln hxe;by_cases hb:Kn (vl s.D x)
       .have HB:=aW hb
        clear hb;go_wp2_with (go_at_call 106;refine HIH.out.mono ?_;rintro e w2 ⟨b,rfl,hbi,gZ⟩;obtain rfl:b=true:=hbi.2 HB.out;have iq:=hgo.trans gZ;clear hbi)
        go_roundw
        case rel=>exact⟨k+1,by go_num,by omega,iq,aW λj h h2=>by
         by_cases c:j<k
         .exact HN.out j h c
         .have:j=k:=by omega
          subst this;rw[<-HX.out];exact HB.out⟩
        case measure=>simp[intOf];omega
       .have HB:=aW hb
        clear hb;go_wp2_with (go_at_call 106;refine HIH.out.mono ?_;rintro e w2 ⟨b,rfl,hbi,gZ⟩;obtain rfl:b=false:=iT.2 (λe=>HB.out (hbi.1 e));have iq:=hgo.trans gZ;clear hbi)
        go_ret
        exact⟨false,rfl,⟨λh=>(by cases h),λh=>absurd ((HI.out.1 h).2.2.2.1 x (by rw[HX.out];exact ai hlt)) HB.out⟩,iq⟩
      .have g1:¬((k:Nat):Int)<((OR.length:Nat):Int):=by omega
       have Zx:Hid (∀x,x∈OR->Kn (vl s.D x)):=aW λx hx=>by
        obtain⟨j,hj,rfl⟩:=aQ.1 hx;exact HN.out j hj (by omega)
       have hg2:=hgo;clear HN hgo;go_upto_region 16 with fail
       by_cases hl0:OL.length=0
       .have z1:(((OL.length:Nat):Int)== 0)=true:=by simp[hl0]
        have HZ:Hid (OL=[]):=aW (eP hl0);have ae:True:=True.intro;clear hl0;refine oJ (λ_=>True) [19] Ck ae (λaj ae=>?_);(refine bP 0 aj ae ?_;refine bP 1 aj ae ?_;refine bP 2 aj ae ?_;refine bP 3 aj ae ?_);((refine dK aj (i:=4) (oi:=_) (v:=undef) (by simp only[gE];rfl) (by kernel_rfl) (by exact λ_ _ _ h=>h) ae (Or.inr ⟨by rfl,rfl⟩) ?r5);(try simp only[nP]);(refine dK aj (i:=5) (oi:=_) (v:=undef) (by simp only[gE];rfl) (by kernel_rfl) (by exact λ_ _ _ h=>h) ae (Or.inr ⟨by rfl,rfl⟩) ?r6);(try simp only[nP]);(refine dK aj (i:=6) (oi:=_) (v:=undef) (by simp only[gE];rfl) (by kernel_rfl) (by exact λ_ _ _ h=>h) ae (Or.inr ⟨by rfl,rfl⟩) ?r7);(try simp only[nP]));(refine bP 7 aj ae ?_;refine bP 8 aj ae ?_);((refine dK aj (i:=9) (oi:=_) (v:=undef) (by simp only[gE];rfl) (by kernel_rfl) (by exact λ_ _ _ h=>h) ae (Or.inr ⟨by rfl,rfl⟩) ?r10);(try simp only[nP]);(refine dK aj (i:=10) (oi:=_) (v:=undef) (by simp only[gE];rfl) (by kernel_rfl) (by exact λ_ _ _ h=>h) ae (Or.inr ⟨by rfl,rfl⟩) ?r11);(try simp only[nP]);(refine dK aj (i:=11) (oi:=_) (v:=undef) (by simp only[gE];rfl) (by kernel_rfl) (by exact λ_ _ _ h=>h) ae (Or.inr ⟨by rfl,rfl⟩) ?r12);(try simp only[nP]);(refine dK aj (i:=12) (oi:=_) (v:=undef) (by simp only[gE];rfl) (by kernel_rfl) (by exact λ_ _ _ h=>h) ae (Or.inr ⟨by rfl,rfl⟩) ?r13);(try simp only[nP]);(refine dK aj (i:=13) (oi:=_) (v:=undef) (by simp only[gE];rfl) (by kernel_rfl) (by exact λ_ _ _ h=>h) ae (Or.inr ⟨by rfl,rfl⟩) ?r14);(try simp only[nP]);(refine dK aj (i:=14) (oi:=_) (v:=undef) (by simp only[gE];rfl) (by kernel_rfl) (by exact λ_ _ _ h=>h) ae (Or.inr ⟨by rfl,rfl⟩) ?r15);(try simp only[nP]);(refine dK aj (i:=15) (oi:=_) (v:=undef) (by simp only[gE];rfl) (by kernel_rfl) (by exact λ_ _ _ h=>h) ae (Or.inr ⟨by rfl,rfl⟩) ?r16);(try simp only[nP]);(refine dK aj (i:=16) (oi:=_) (v:=undef) (by simp only[gE];rfl) (by kernel_rfl) (by exact λ_ _ _ h=>h) ae (Or.inr ⟨by rfl,rfl⟩) ?r17);(try simp only[nP]);(refine dK aj (i:=17) (oi:=_) (v:=undef) (by simp only[gE];rfl) (by kernel_rfl) (by exact λ_ _ _ h=>h) ae (Or.inr ⟨by rfl,rfl⟩) ?r18);(try simp only[nP]));(refine bP 18 aj ae ?_);refine nQ aj [19] [_] ?_;clear aj ae;go_wp2
        go_ret
        exact⟨true,rfl,⟨λ_=>HI.out.2 ⟨hl1,hr1,HNL.out,Zx.out,λx y hx=>by rw[HZ.out]at hx;simp at hx⟩,λ_=>rfl⟩,hg2.ext (eX _)⟩
       .have z1:(((OL.length:Nat):Int)== 0)=false:=by simp;exact λe=>hl0 (by rw[e];rfl)
        by_cases hr0:OR.length=0
        .have z2:(((OR.length:Nat):Int)== 0)=true:=by simp[hr0]
         have HZ:Hid (OR=[]):=aW (eP hr0);have ae:True:=True.intro;clear hl0 hr0;refine oJ (λ_=>True) [19] Ck ae (λaj ae=>?_);(refine bP 0 aj ae ?_;refine bP 1 aj ae ?_;refine bP 2 aj ae ?_;refine bP 3 aj ae ?_;refine bP 4 aj ae ?_;refine bP 5 aj ae ?_;refine bP 6 aj ae ?_;refine bP 7 aj ae ?_;refine bP 8 aj ae ?_);((refine dK aj (i:=9) (oi:=_) (v:=undef) (by simp only[gE];rfl) (by kernel_rfl) (by exact λ_ _ _ h=>h) ae (Or.inr ⟨by rfl,rfl⟩) ?r29);(try simp only[nP]);(refine dK aj (i:=10) (oi:=_) (v:=undef) (by simp only[gE];rfl) (by kernel_rfl) (by exact λ_ _ _ h=>h) ae (Or.inr ⟨by rfl,rfl⟩) ?r30);(try simp only[nP]);(refine dK aj (i:=11) (oi:=_) (v:=undef) (by simp only[gE];rfl) (by kernel_rfl) (by exact λ_ _ _ h=>h) ae (Or.inr ⟨by rfl,rfl⟩) ?r31);(try simp only[nP]);(refine dK aj (i:=12) (oi:=_) (v:=undef) (by simp only[gE];rfl) (by kernel_rfl) (by exact λ_ _ _ h=>h) ae (Or.inr ⟨by rfl,rfl⟩) ?r32);(try simp only[nP]);(refine dK aj (i:=13) (oi:=_) (v:=undef) (by simp only[gE];rfl) (by kernel_rfl) (by exact λ_ _ _ h=>h) ae (Or.inr ⟨by rfl,rfl⟩) ?r33);(try simp only[nP]);(refine dK aj (i:=14) (oi:=_) (v:=undef) (by simp only[gE];rfl) (by kernel_rfl) (by exact λ_ _ _ h=>h) ae (Or.inr ⟨by rfl,rfl⟩) ?r34);(try simp only[nP]);(refine dK aj (i:=15) (oi:=_) (v:=undef) (by simp only[gE];rfl) (by kernel_rfl) (by exact λ_ _ _ h=>h) ae (Or.inr ⟨by rfl,rfl⟩) ?r35);(try simp only[nP]);(refine dK aj (i:=16) (oi:=_) (v:=undef) (by simp only[gE];rfl) (by kernel_rfl) (by exact λ_ _ _ h=>h) ae (Or.inr ⟨by rfl,rfl⟩) ?r36);(try simp only[nP]);(refine dK aj (i:=17) (oi:=_) (v:=undef) (by simp only[gE];rfl) (by kernel_rfl) (by exact λ_ _ _ h=>h) ae (Or.inr ⟨by rfl,rfl⟩) ?r37);(try simp only[nP]));(refine bP 18 aj ae ?_);refine nQ aj [19] [_] ?_;clear aj ae;go_wp2
         go_ret
         exact⟨true,rfl,⟨λ_=>HI.out.2 ⟨hl1,hr1,HNL.out,Zx.out,λx y _ hy=>by rw[HZ.out]at hy;simp at hy⟩,λ_=>rfl⟩,hg2.ext (eX _)⟩
        .have z2:(((OR.length:Nat):Int)== 0)=false:=by simp;exact λe=>hr0 (by rw[e];rfl)
         obtain⟨x,hox⟩:∃x,OL=[x]:=by
          match OL,hl0,hl1 with
          |[],h,_=>exact absurd rfl h
          |[x],_,_=>exact⟨x,rfl⟩
          |_ :: _ :: _,_,h=>simp at h
         obtain⟨y,hoy⟩:∃y,OR=[y]:=by
          match OR,hr0,hr1 with
          |[],h,_=>exact absurd rfl h
          |[y],_,_=>exact⟨y,rfl⟩
          |_ :: _ :: _,_,h=>simp at h
         have hx:=w1 x (by rw[hox];simp);have hy:=w2 y (by rw[hoy];simp);obtain⟨bl,ol,br,or,rfl,rfl⟩:∃bl ol br or,aL=some ⟨bl,ol,none⟩/\aR=some ⟨br,or,none⟩:=by
          obtain⟨-,-,h1⟩:=ji.at HSL.out;obtain⟨-,-,h2⟩:=ji.at HSR.out;obtain⟨b1,o1,e1,-⟩:=h1 (by omega);obtain⟨b2,o2,e2,-⟩:=h2 (by omega);exact⟨b1,o1,b2,o2,e1,e2⟩
         have hC:∀V:World,jr pp h s w s V->V.cell? ⟨bl,ol,none⟩=some (.int .i64 ((x:Nat):Int))/\V.cell? ⟨br,or,none⟩=some (.int .i64 ((y:Nat):Int)):=λV g=>by
          obtain⟨-,-,h1⟩:=ji.at (oN.go HSL.out (Off.lists HP.out) g);obtain⟨-,-,h2⟩:=ji.at (oN.go HSR.out (Off.lists HP.out) g);obtain⟨b1,o1,e1,k1⟩:=h1 (by omega);obtain⟨b2,o2,e2,k2⟩:=h2 (by omega);simp only[bU,Addr.mk.injEq,and_true]at e1 e2;obtain⟨rfl,rfl⟩:=e1;obtain⟨rfl,rfl⟩:=e2;have k1:=k1 0 (by omega);have k2:=k2 0 (by omega);simp only[hox,hoy,jG]at k1 k2;exact⟨k1,k2⟩
         have HC:=aW hC;have HO:=jm hox hoy;have gd:=hg2.ext (eX wr);have ae:=hC _ gd;have n1:0<OL.length:=(by omega);have n2:0<OR.length:=(by omega);obtain⟨W2,hW2⟩:=fu wr.drew;clear hl0 hr0 hC hox hoy;refine oJ (λV=>V.cell? ⟨bl,ol,none⟩=some (.int .i64 ((x:Nat):Int))/\V.cell? ⟨br,or,none⟩=some (.int .i64 ((y:Nat):Int))) [19] Ck ae (λaj ae=>?_);rw[<-hW2]at gd ae ⊢;clear hW2;(refine bP 0 aj ae ?_;refine bP 1 aj ae ?_;refine bP 2 aj ae ?_;refine bP 3 aj ae ?_;refine bP 4 aj ae ?_;refine bP 5 aj ae ?_;refine bP 6 aj ae ?_;refine bP 7 aj ae ?_;refine bP 8 aj ae ?_;refine bP 9 aj ae ?_;refine bP 10 aj ae ?_;refine bP 11 aj ae ?_;refine bP 12 aj ae ?_;refine bP 13 aj ae ?_;refine bP 14 aj ae ?_;refine bP 15 aj ae ?_);(refine jv aj (i:=16) λK hK=>?_;go_simp);refine(A7 pp h s x y _ gd.pool (by omega) (by omega)).mono ?_;rintro e w4 ⟨g,rfl,hge,jq⟩;have gd4:=gd.trans jq;have ae:=HC.out _ gd4;refine hK.out _ _ (λ_=>ae) ?_;clear hK K;(try simp only[nP]);(refine bP 17 aj ae ?_;refine bP 18 aj ae ?_);refine nQ aj [19] [_] ?_;clear aj ae;have Cg:=aW hge;clear hge;go_wp2
         go_ret
         refine⟨!g,rfl,⟨λe=>HI.out.2 ⟨hl1,hr1,HNL.out,Zx.out,λx' y' hx' hy' k=>?_⟩,λe=>?_⟩,gd4⟩
         .rw[HO.out.1,eT]at hx'
          rw[HO.out.2,eT]at hy';subst hx';subst hy';rw[Cg.out.2 k]at e;cases e
         .have k:=(HI.out.1 e).2.2.2.2 x y (by rw[HO.out.1];simp) (by rw[HO.out.2];simp)
          have:g=false:=iT.2 (λq=>k (Cg.out.1 q));rw[this];rfl
  .have q1:¬(1:Int)<((OL.length:Nat):Int):=by omega
   have q2:(1:Int)<((OR.length:Nat):Int):=(by omega);have HB:=aW hr1;clear hl1 hr1;go_wp2
   go_ret
   exact⟨false,rfl,⟨λh=>(by cases h),λh=>absurd (HI.out.1 h).2.1 HB.out⟩,hg1⟩
 .have q1:(1:Int)<((OL.length:Nat):Int):=by omega
  have HB:=aW hl1;clear hl1;go_wp2
  go_ret
  exact⟨false,rfl,⟨λh=>(by cases h),λh=>absurd (HI.out.1 h).1 HB.out⟩,hg1⟩
theorem aag:∀m,YQ m:=λm=>by
 induction m with
 |zero=>intro pp h s i w _ _ h;omega
 |succ m ih=>exact Wz ih
theorem aaf(pp h:Nat)(s:jF)(i:Nat)(w:World)(hP:dA w pp h s)(hi:i<s.D.length):Calls prog 106 #[.pointer (some ⟨pp,0,none⟩),.int .i64 (i:Int)] w (RG pp h s i w):=aag (i+1) pp h s i w hP hi (by omega)
end
section
open Go.RowKit
open bE (dh Nd Gm vl Same Ge N0 Val Canon gd dO dP)
variable {k:Int} {g:Gm}
theorem uD:dS (dO 16 k) (dP 16 k)=true↔gd k:=by
 obtain⟨h1,_,h3⟩:=bE.Ac 16 k;rw[fe];unfold bE.gd;constructor
 .rintro⟨a,b,_⟩;exact⟨a,b⟩
 .rintro⟨a,b⟩;exact⟨a,b,by omega,by omega,by omega⟩
theorem EY:gP (dO 16 k) (dP 16 k)=k:=(bE.Ac 16 k).2.1
theorem aca:dS (dO 17 k) (dP 17 k)=true↔k % 2=0/\gd (k / 2):=by
 by_cases e:k % 2=0
 .rw[show dO 17 k=dO 16 (k / 2) by rw[dO,if_pos e],show dP 17 k=dP 16 (k / 2) by rw[dP,if_pos e],uD];simp[e]
 .rw[show dO 17 k=k by rw[dO,if_neg e],show dP 17 k=17 by rw[dP,if_neg e],fe]
  constructor
  .rintro⟨_,_,_,h,_⟩;omega
  .rintro⟨h,_⟩;exact absurd h e
def M6(pp h:Nat)(s:jF)(i:Nat)(w:World)(e:Ending)(w':World):Prop:=
 ∃t p ok,e=.returned (.tuple #[tY t p,.bool ok])/\jr pp h s w s w'/\(ok=true->∃k,Val (vl s.D i) k/\t=dO 16 k/\p=dP 16 k)/\(ok=false->¬N0 (vl s.D i))
def PZ(m:Nat):Prop:=∀(pp h:Nat) (s:jF) (i:Nat) (w:World),dA w pp h s->i<s.D.length->Canon (vl s.D i)->i<m->Calls prog 56 #[.pointer (some ⟨pp,0,none⟩),.int .i64 (i:Int)] w (M6 pp h s i w)
theorem DT(h:∀j,Val g j↔j=k/\gd j):(dS (dO 16 k) (dP 16 k)=true->∃j,Val g j/\dO 16 k=dO 16 j/\dP 16 k=dP 16 j)/\(dS (dO 16 k) (dP 16 k)=false->¬N0 g):=by
 refine⟨λe=>⟨k,(h k).2 ⟨rfl,uD.1 e⟩,rfl,rfl⟩,λe ⟨j,hj⟩=>?_⟩;obtain⟨rfl,hg⟩:=(h j).1 hj;rw[uD.2 hg]at e;cases e
theorem U1{a b:Int}(h:∀j,Val g j↔a<b/\2*j=a+b/\gd j)(hab:a<b):(dS (dO 17 (a+b)) (dP 17 (a+b))=true->∃j,Val g j/\dO 17 (a+b)=dO 16 j/\dP 17 (a+b)=dP 16 j)/\(dS (dO 17 (a+b)) (dP 17 (a+b))=false->¬N0 g):=by
 refine⟨λe=>?_,λe ⟨j,hj⟩=>?_⟩
 .obtain⟨h1,h2⟩:=aca.1 e
  exact⟨(a+b) / 2,(h _).2 ⟨hab,by omega,h2⟩,by rw[dO,if_pos h1],by rw[dP,if_pos h1]⟩
 .obtain⟨_,hj2,hg⟩:=(h j).1 hj
  have:dS (dO 17 (a+b)) (dP 17 (a+b))=true:=aca.2 ⟨by omega,by rw[show(a+b) / 2=j by omega];exact hg⟩;rw[this]at e;cases e
theorem rT{pp h:Nat}{s:jF}{w wz:World}(g:jr pp h s w s wz)(hP:dA w pp h s)(u v:Value):jr pp h s w s ((wz.setCell ⟨w.heap.size,0,none⟩ u).setCell ⟨w.heap.size,1,none⟩ v):=by
 have k:∀{w':World},jr pp h s w s w'->∀(i:Nat) (u:Value),jr pp h s w s (w'.setCell ⟨w.heap.size,i,none⟩ u):=λ{w'} g i u=>by
  have hk:fJ (λb=>b=w.heap.size) w' (w'.setCell ⟨w.heap.size,i,none⟩ u):=dH (p:=⟨w.heap.size,i,none⟩);exact⟨g.pool.keep hk (λb hb e=>by have:=hP.uZ hb;omega) (λb hb e=>by have:=hP.Ae hb;omega),g.keep.trans hk (λx hx e=>by omega),λ_ h=>.inl h,λ_ h=>h,λ_ h=>.inl h,⟨[],by simp⟩,λ_ _ h=>h⟩
 exact k (k g 0 u) 1 v
def R3:List Row:=[⟨0,[],109,[12]⟩,⟨1,[0],110,[108]⟩,⟨2,[],111,[14]⟩,⟨3,[2,1],112,[110]⟩,⟨4,[1,3],113,[109,111]⟩,⟨5,[4,3],114,[112]⟩,⟨6,[5],115,[113]⟩,⟨7,[5],116,[113]⟩,⟨8,[6,5,0,1,2,3,4,5,6,7],0,[4,114]⟩,⟨9,[7,8,0,1,2,3,4,5,6,7,8],6,[115]⟩]
theorem Sd{m:Nat}(ih:PZ m):PZ (m+1):=by
 intro pp h s i w hP hi hc him;have hx:Ext w (w.alloc (.cells #[.int .i64 0,.int .i64 0] 34)):=by go_grown
 have hb:=eu w (.cells #[.int .i64 0,.int .i64 0] 34);have hO:Off pp h s (w.alloc (.cells #[.int .i64 0,.int .i64 0] 34)) (λb=>b=w.heap.size):=λb hb=>by
  subst hb;exact⟨by rw[fU];omega,λo=>by have:=hP.uZ o;omega⟩
 have HI:=aW (Ov hP.good hi);have HN:=aW (QU hP.good i hi);have d:=af hi;obtain⟨w1,w2⟩:=hP.good.wf i _ d;have hvl:=bE.lI hP.good.wf d;have hvr:=bE.lH hP.good.wf d;have hii:((i:Nat):Int)<((s.D.length:Nat):Int):=by omega
 have hsm:=hP.small;have HP:=aW hP;have HC:=aW hc;have IH:=aW ih;obtain⟨OL,Kg⟩:=fu ((s.D[i]).1);obtain⟨OR,Mg⟩:=fu ((s.D[i]).2);rw[<-Kg]at w1 HI hvl;rw[<-Mg]at w2 HI hvr;have HV:=jm hvl hvr;clear d ih hvl hvr hc hP;go_enter Tryz.func56,Tryz.ntmps56
 go_upto_region 1 with fail
 generalize w.alloc (.cells #[.int .i64 0,.int .i64 0] 34)=W at *;have HNI:=aW (aaf pp h s i W (HP.out.ext hx) hi);by_cases hn:Kn (vl s.D i)
 .obtain⟨hl1,hr1,-,-,hge⟩:=HI.out.1 hn
  have Cg:=aW hge;go_upto_region 3 with(go_at_call 106;refine HNI.out.mono ?_;rintro e w3 ⟨b,rfl,hbi,iq⟩;obtain rfl:b=true:=hbi.2 hn;clear hbi)
  have hgo:=(jr.refl HP.out hx).trans iq;have hR:w3.heap[w.heap.size]?=some (.cells #[.int .i64 0,.int .i64 0] 34 (0,0)):=(iq.keep.block _ (hO _ rfl).1 (hO _ rfl).2).trans hb;have hO3:=hO.go iq;clear hb hO iq hge HNI hx hn;obtain⟨gl,PG,aL,cL,Al,OU,OT,IK,sO⟩:=hgo.pool.rG hi;obtain⟨gr,PE,aR,cR,yx,OQ,qC,IJ,hSR⟩:=hgo.pool.qc hi;rw[<-Kg]at IK sO;rw[<-Mg]at IJ hSR;clear Kg Mg;have hp3:=hgo.pool;go_quiet (fail)
  generalize hW4:w3.drewN nq=W4;have hd4:Ext w3 W4:=by rw[<-hW4];exact dQ ⟨_,rfl⟩
  have hg4:=hgo.ext hd4;have hR4:=ik hd4 hR;have hO4:=hO3.ext hd4;have HSL:=aW (oN.ext sO hd4);have HSR:=aW (oN.ext hSR hd4);clear hW4 hd4 hgo hR hO3 Al yx IK IJ sO hSR OU OT OQ qC hp3;by_cases hl0:OL.length=0
  .have z1:(((OL.length:Nat):Int)== 0)=true:=by simp[hl0]
   have hle:=eP hl0;by_cases hr0:OR.length=0
   .have z2:(((OR.length:Nat):Int)== 0)=true:=by simp[hr0]
    have hre:=eP hr0;have HV0:Hid (Val (vl s.D i) 0):=aW (bE.val_zero (by rw[HV.out.1,hle];rfl) (by rw[HV.out.2,hre];rfl));obtain⟨q0,q1,q2,q3⟩:=eZ hR4;have q4:=(q2 (.int .i64 0)).1;have q5:=(q2 (.int .i64 0)).2;have HQ:=aW (q3 (.int .i64 0) (.int .i64 0));have HG:=jm hg4 hO4;clear q2 q3 hg4 hO4 hl0 hr0 hle hre hR4;go_wp2
    refine mg w.heap.size 34 #[.int .i64 0,.int .i64 0] HQ.out underlying34 ?_;exact⟨0,0,true,rfl,rT HG.out.1 HP.out _ _,λ_=>⟨0,HV0.out,by decide,by decide⟩,λh=>(by cases h)⟩
   .have z2:(((OR.length:Nat):Int)== 0)=false:=by simp;exact λe=>hr0 (by rw[e];rfl)
    obtain⟨y,hoy⟩:∃y,OR=[y]:=by
     match OR,hr0,hr1 with
     |[],h,_=>exact absurd rfl h
     |[y],_,_=>exact⟨y,rfl⟩
     |_ :: _ :: _,_,h=>simp at h
    have hyD:=w2 y (by rw[hoy];simp);obtain⟨-,-,hk⟩:=ji.at HSR.out;obtain⟨br,ox,rfl,hk2⟩:=hk (by omega);have ck:W4.cell? ⟨br,ox,none⟩=some (.int .i64 ((y:Nat):Int)):=(by have:=hk2 0 (by omega);simp only[hoy,jG]at this;exact this);have hcy:Canon (vl s.D y):=HC.out.r (by rw[HV.out.2,hoy];simp);have HVL:Hid (∀a j:Int,Val (vl s.D y) a->(Val (vl s.D i) j↔j=a+-65536/\gd j)):=aW λa j hv=>bE.G9 HC.out (by rw[HV.out.1,hle];rfl) (by rw[HV.out.2,hoy];rfl) hv
    have HNY:Hid (¬N0 (vl s.D y)->¬N0 (vl s.D i)):=aW λh k=>h (bE.lT.right _ _ k (by rw[HV.out.2,hoy];simp)).1
    have n1:0<OR.length:=(by omega);have HVX:=aW (IH.out pp h s y W4 hg4.pool (by omega) hcy (by omega));clear hk hk2 hoy hle hcy hl0 hr0;go_upto_region 13 with(go_at_call 56;refine HVX.out.mono ?_;rintro e w5 ⟨t5,p5,ok5,rfl,oq,hv5⟩;simp only[gM])
    obtain⟨V5,XI,hx5,d5,Tf⟩:=uI w5 t5 p5;rw[<-XI];have hg5:=(hg4.trans oq).ext hx5;have UG:V5.heap[w.heap.size]?=some (.cells #[.int .i64 0,.int .i64 0] 34 (0,0)):=by
     have h1:=(oq.keep.block _ (hO4 _ rfl).1 (hO4 _ rfl).2).trans hR4;exact ik hx5 h1
    obtain⟨c5,c6⟩:=d5.cells;have HR:=aW UG;have Zy:=aW hg5;clear XI hx5 d5 Tf hg4 oq hO4 hR4 ck hg5;cases ok5 with
    |false=>
     have HNN:=aW (HNY.out (hv5.2 rfl));obtain⟨q0,q1,q2,q3⟩:=eZ UG;have q4:=(q2 (.int .i64 0)).1;have q5:=(q2 (.int .i64 0)).2;have HQ:=aW (q3 (.int .i64 0) (.int .i64 0));clear q2 q3 hv5 UG;go_wp2
     refine mg w.heap.size 34 #[.int .i64 0,.int .i64 0] HQ.out underlying34 ?_;exact⟨0,0,false,rfl,rT Zy.out HP.out _ _,λh=>(by cases h),λ_=>HNN.out⟩
    |true=>
     obtain⟨a,hva,rfl,rfl⟩:=hv5.1 rfl;have hj:=DT (k:=a+(-65536)) (λj=>HVL.out a j hva);have Ka:=aW (λV=>IQ (dO 16 a) (-1) (dP 16 a) 0 V (uD.2 hva.1) (by decide));have e:gP (dO 16 a) (dP 16 a)+gP (-1) 0=a+(-65536):=(by rw[EY];rfl);rw[e]at Ka;obtain⟨kt,hkt⟩:=fu ((if dS (dO 16 (a+(-65536))) (dP 16 (a+(-65536)))then dO 16 (a+(-65536))else 0));obtain⟨kp,hkp⟩:=fu ((if dS (dO 16 (a+(-65536))) (dP 16 (a+(-65536)))then dP 16 (a+(-65536))else 0));obtain⟨kb,hkb⟩:=fu (dS (dO 16 (a+(-65536))) (dP 16 (a+(-65536))));have en:mD (dO 16 (a+(-65536))) (dP 16 (a+(-65536)))=.tuple #[.agg #[.int .i64 kt,.int .i64 (kp:Int)],.bool kb]:=(by rw[mD,hkt,hkp,hkb];rfl);rw[en]at Ka;have HJ:Hid ((kb=true->∃j,Val (vl s.D i) j/\kt=dO 16 j/\kp=dP 16 j)/\(kb=false->¬N0 (vl s.D i))):=aW ⟨λq=>by
      rw[hkb]at q;obtain⟨j,h1,h2,h3⟩:=hj.1 q;exact⟨j,h1,by rw[hkt,if_pos q];exact h2,by rw[hkp,if_pos q];exact h3⟩,λq=>hj.2 (by rw[<-hkb];exact q)⟩
     clear hj e hkt hkp hkb en hv5 UG;go_wp2_with (go_at_call 51;refine(Ka.out _).mono ?_;rintro e w6 ⟨rfl,hx6⟩;have Zi:=ik hx6 HR.out;obtain⟨q0,q1,q2,q3⟩:=eZ Zi;have q4:=(q2 (.int .i64 kt)).1;have q5:=(q2 (.int .i64 kt)).2;have HQ:=aW (q3 (.int .i64 kt) (.int .i64 (kp:Int)));have HG6:=aW (Zy.out.ext hx6);clear q2 q3 Zi hx6)
     refine mg w.heap.size 34 #[.int .i64 kt,.int .i64 (kp:Int)] HQ.out underlying34 ?_;exact⟨kt,kp,kb,rfl,rT HG6.out HP.out _ _,HJ.out.1,HJ.out.2⟩
  .have z1:(((OL.length:Nat):Int)== 0)=false:=by simp;exact λe=>hl0 (by rw[e];rfl)
   obtain⟨y,hox⟩:∃y,OL=[y]:=by
    match OL,hl0,hl1 with
    |[],h,_=>exact absurd rfl h
    |[y],_,_=>exact⟨y,rfl⟩
    |_ :: _ :: _,_,h=>simp at h
   have WM:=w1 y (by rw[hox];simp);obtain⟨-,-,hk⟩:=ji.at HSL.out;obtain⟨bl,ol,rfl,hk2⟩:=hk (by omega);have ck:W4.cell? ⟨bl,ol,none⟩=some (.int .i64 ((y:Nat):Int)):=(by have:=hk2 0 (by omega);simp only[hox,jG]at this;exact this);have hcx:Canon (vl s.D y):=HC.out.l (by rw[HV.out.1,hox];simp);have n1:0<OL.length:=(by omega);have HVX:=aW (IH.out pp h s y W4 hg4.pool (by omega) hcx (by omega));have HNY:Hid (¬N0 (vl s.D y)->¬N0 (vl s.D i)):=aW λh k=>h (bE.lT.left _ _ k (by rw[HV.out.1,hox];simp)).1
   by_cases hr0:OR.length=0
   .have z2:(((OR.length:Nat):Int)== 0)=true:=by simp[hr0]
    have hre:=eP hr0;have HVL:Hid (∀a j:Int,Val (vl s.D y) a->(Val (vl s.D i) j↔j=a+65536/\gd j)):=aW λa j hv=>bE.Ky HC.out (by rw[HV.out.1,hox];rfl) (by rw[HV.out.2,hre];rfl) hv
    clear hk hk2 hox hre hcx hl0 hr0;go_upto_region 8 with(go_at_call 56;refine HVX.out.mono ?_;rintro e w5 ⟨t5,p5,ok5,rfl,oq,hv5⟩;simp only[gM])
    obtain⟨V5,XI,hx5,d5,Tf⟩:=uI w5 t5 p5;rw[<-XI];have hg5:=(hg4.trans oq).ext hx5;have UG:V5.heap[w.heap.size]?=some (.cells #[.int .i64 0,.int .i64 0] 34 (0,0)):=by
     have h1:=(oq.keep.block _ (hO4 _ rfl).1 (hO4 _ rfl).2).trans hR4;exact ik hx5 h1
    obtain⟨c5,c6⟩:=d5.cells;have HR:=aW UG;have Zy:=aW hg5;clear XI hx5 d5 Tf hg4 oq hO4 hR4 ck hg5;cases ok5 with
    |false=>
     have HNN:=aW (HNY.out (hv5.2 rfl));obtain⟨q0,q1,q2,q3⟩:=eZ UG;have q4:=(q2 (.int .i64 0)).1;have q5:=(q2 (.int .i64 0)).2;have HQ:=aW (q3 (.int .i64 0) (.int .i64 0));clear q2 q3 hv5 UG;go_wp2
     refine mg w.heap.size 34 #[.int .i64 0,.int .i64 0] HQ.out underlying34 ?_;exact⟨0,0,false,rfl,rT Zy.out HP.out _ _,λh=>(by cases h),λ_=>HNN.out⟩
    |true=>
     obtain⟨a,hva,rfl,rfl⟩:=hv5.1 rfl;have hj:=DT (k:=a+65536) (λj=>HVL.out a j hva);have Ka:=aW (λV=>IQ (dO 16 a) 1 (dP 16 a) 0 V (uD.2 hva.1) (by decide));have e:gP (dO 16 a) (dP 16 a)+gP 1 0=a+65536:=(by rw[EY];rfl);rw[e]at Ka;obtain⟨kt,hkt⟩:=fu ((if dS (dO 16 (a+65536)) (dP 16 (a+65536))then dO 16 (a+65536)else 0));obtain⟨kp,hkp⟩:=fu ((if dS (dO 16 (a+65536)) (dP 16 (a+65536))then dP 16 (a+65536)else 0));obtain⟨kb,hkb⟩:=fu (dS (dO 16 (a+65536)) (dP 16 (a+65536)));have en:mD (dO 16 (a+65536)) (dP 16 (a+65536))=.tuple #[.agg #[.int .i64 kt,.int .i64 (kp:Int)],.bool kb]:=(by rw[mD,hkt,hkp,hkb];rfl);rw[en]at Ka;have HJ:Hid ((kb=true->∃j,Val (vl s.D i) j/\kt=dO 16 j/\kp=dP 16 j)/\(kb=false->¬N0 (vl s.D i))):=aW ⟨λq=>by
      rw[hkb]at q;obtain⟨j,h1,h2,h3⟩:=hj.1 q;exact⟨j,h1,by rw[hkt,if_pos q];exact h2,by rw[hkp,if_pos q];exact h3⟩,λq=>hj.2 (by rw[<-hkb];exact q)⟩
     clear hj e hkt hkp hkb en hv5 UG;go_wp2_with (go_at_call 51;refine(Ka.out _).mono ?_;rintro e w6 ⟨rfl,hx6⟩;have Zi:=ik hx6 HR.out;obtain⟨q0,q1,q2,q3⟩:=eZ Zi;have q4:=(q2 (.int .i64 kt)).1;have q5:=(q2 (.int .i64 kt)).2;have HQ:=aW (q3 (.int .i64 kt) (.int .i64 (kp:Int)));have HG6:=aW (Zy.out.ext hx6);clear q2 q3 Zi hx6)
     refine mg w.heap.size 34 #[.int .i64 kt,.int .i64 (kp:Int)] HQ.out underlying34 ?_;exact⟨kt,kp,kb,rfl,rT HG6.out HP.out _ _,HJ.out.1,HJ.out.2⟩
   .have z2:(((OR.length:Nat):Int)== 0)=false:=by simp;exact λe=>hr0 (by rw[e];rfl)
    obtain⟨u,hou⟩:∃u,OR=[u]:=by
     match OR,hr0,hr1 with
     |[],h,_=>exact absurd rfl h
     |[u],_,_=>exact⟨u,rfl⟩
     |_ :: _ :: _,_,h=>simp at h
    have huD:=w2 u (by rw[hou];simp);have hcu:Canon (vl s.D u):=HC.out.r (by rw[HV.out.2,hou];simp);obtain⟨br,ox,rfl⟩:∃br ox,aR=some ⟨br,ox,none⟩:=by
     obtain⟨-,-,h2⟩:=ji.at HSR.out;obtain⟨b2,o2,e2,-⟩:=h2 (by omega);exact⟨b2,o2,e2⟩
    have hC:∀V:World,jr pp h s W4 s V->V.cell? ⟨br,ox,none⟩=some (.int .i64 ((u:Nat):Int)):=λV g=>by
     obtain⟨-,-,h2⟩:=ji.at (oN.go HSR.out ((Off.lists HP.out).go hg4) g);obtain⟨b2,o2,e2,k2⟩:=h2 (by omega);simp only[bU,Addr.mk.injEq,and_true]at e2;obtain⟨rfl,rfl⟩:=e2;have k2:=k2 0 (by omega);simp only[hou,jG]at k2;exact k2
    have HCU:=aW hC;have HNU:Hid (¬N0 (vl s.D u)->¬N0 (vl s.D i)):=aW λh k=>h (bE.lT.right _ _ k (by rw[HV.out.2,hou];simp)).1
    have HVB:Hid (∀a b:Int,Val (vl s.D y) a->Val (vl s.D u) b->a<b/\∀k,Val (vl s.D i) k↔a<b/\2*k=a+b/\gd k):=aW λa b ha hb=>by
     have q:=(bE.Kz HC.out (by rw[HV.out.1,hox];rfl) (by rw[HV.out.2,hou];rfl) ha hb).2;have hn:=Cg.out y u (by rw[hox];simp) (by rw[hou];simp);rw[bE.Nr ha hb]at hn;exact⟨by omega,q⟩
    have n2:0<OR.length:=(by omega);have HIU:=aW (λV (g:jr pp h s W4 s V)=>IH.out pp h s u V g.pool (by omega) hcu (by omega));clear hk hk2 hox hou hcx hcu hl0 hr0 hC;go_upto_region 17 with(go_at_call 56;refine HVX.out.mono ?_;rintro e w5 ⟨t5,p5,ok5,rfl,oq,hv5⟩;simp only[gM])
    obtain⟨V5,XI,hx5,d5,Tf⟩:=uI w5 t5 p5;rw[<-XI];have g5:=oq.ext hx5;have o5:Off pp h s V5 (λb=>b=w5.heap.size):=λb hb=>by
     subst hb;exact⟨Tf,λo=>by have:=(hO4.go oq);have:=oq.pool.uZ o;omega⟩
    have oR:=(hO4.go oq).ext hx5;have UG:V5.heap[w.heap.size]?=some (.cells #[.int .i64 0,.int .i64 0] 34 (0,0)):=by
     have h1:=(oq.keep.block _ (hO4 _ rfl).1 (hO4 _ rfl).2).trans hR4;exact ik hx5 h1
    have cu:=HCU.out V5 g5;have HIV:=aW (HIU.out V5 g5);obtain⟨b5,hb5⟩:=fu w5.heap.size;rw[<-hb5]at d5 o5 ⊢;clear XI hx5 Tf oq hO4 hR4 ck hb5;go_upto_region 18 with(go_at_call 56;refine HIV.out.mono ?_;rintro e w6 ⟨t6,p6,ok6,rfl,uQ,hv6⟩;simp only[gM])
    obtain⟨V6,hV6,hx6,d6,hz6⟩:=uI w6 t6 p6;rw[<-hV6];have d56:oQ V6 b5 t5 p5:=(d5.go uQ o5).ext hx6;have Zi:V6.heap[w.heap.size]?=some (.cells #[.int .i64 0,.int .i64 0] 34 (0,0)):=by
     have h1:=(uQ.keep.block _ (oR _ rfl).1 (oR _ rfl).2).trans UG;exact ik hx6 h1
    have hg6:=(hg4.trans g5).trans (uQ.ext hx6);obtain⟨b6,hb6⟩:=fu w6.heap.size;rw[<-hb6]at d6 ⊢;have HR:=aW Zi;have HG6:=aW hg6;clear hV6 hx6 hz6 uQ UG d5 o5 oR g5 cu hg4 hg6 hb6;have NO:Hid (ok5=false\/ok6=false->¬N0 (vl s.D i)):=aW λq=>q.elim (λq=>HNY.out (hv5.2 q)) (λq=>HNU.out (hv6.2 q))
    cases ok5 with
    |false=>
     have HNN:=aW (NO.out (.inl rfl));clear hv5 hv6;obtain⟨q0,q1,q2,q3⟩:=eZ HR.out;have q4:=(q2 (.int .i64 0)).1;have q5:=(q2 (.int .i64 0)).2;have HQ:=aW (q3 (.int .i64 0) (.int .i64 0));clear q2 q3 Zi;go_wp2
     refine mg w.heap.size 34 #[.int .i64 0,.int .i64 0] HQ.out underlying34 ?_;exact⟨0,0,false,rfl,rT HG6.out HP.out _ _,λh=>(by cases h),λ_=>HNN.out⟩
    |true=>
     cases ok6 with
     |false=>
      have HNN:=aW (NO.out (.inr rfl));clear hv5 hv6;obtain⟨q0,q1,q2,q3⟩:=eZ HR.out;have q4:=(q2 (.int .i64 0)).1;have q5:=(q2 (.int .i64 0)).2;have HQ:=aW (q3 (.int .i64 0) (.int .i64 0));clear q2 q3 Zi;go_wp2
      refine mg w.heap.size 34 #[.int .i64 0,.int .i64 0] HQ.out underlying34 ?_;exact⟨0,0,false,rfl,rT HG6.out HP.out _ _,λh=>(by cases h),λ_=>HNN.out⟩
     |true=>
      obtain⟨a,hva,rfl,rfl⟩:=hv5.1 rfl;obtain⟨b,hvb,rfl,rfl⟩:=hv6.1 rfl;obtain⟨hab,hvk⟩:=HVB.out a b hva hvb;have hj:=U1 hvk hab;have ga:=fe.1 (uD.2 hva.1);have gb:=fe.1 (uD.2 hvb.1);have ba:=tH (t:=dO 16 a) (p:=dP 16 a) (by omega) (B:=1000000) (by omega) (by omega);have bb:=tH (t:=dO 16 b) (p:=dP 16 b) (by omega) (B:=1000000) (by omega) (by omega);rw[EY]at ba bb;have Uo:=aW (λV=>wI (dO 16 a) (dP 16 a) V (by omega) (by omega) (by omega));have HSB:=aW (λV=>wI (dO 16 b) (dP 16 b) V (by omega) (by omega) (by omega));rw[EY]at Uo HSB;have HLO:=aW (λV=>wT (a+b) 17 V (by omega) (by omega) (by omega));obtain⟨kt,hkt⟩:=fu ((if dS (dO 17 (a+b)) (dP 17 (a+b))then dO 17 (a+b)else 0));obtain⟨kp,hkp⟩:=fu ((if dS (dO 17 (a+b)) (dP 17 (a+b))then dP 17 (a+b)else 0));obtain⟨kb,hkb⟩:=fu (dS (dO 17 (a+b)) (dP 17 (a+b)));have en:mD (dO 17 (a+b)) (dP 17 (a+b))=.tuple #[.agg #[.int .i64 kt,.int .i64 (kp:Int)],.bool kb]:=(by rw[mD,hkt,hkp,hkb];rfl);rw[en]at HLO;have HJ:Hid ((kb=true->∃j,Val (vl s.D i) j/\kt=dO 16 j/\kp=dP 16 j)/\(kb=false->¬N0 (vl s.D i))):=aW ⟨λq=>by
       rw[hkb]at q;obtain⟨j,h1,h2,h3⟩:=hj.1 q;exact⟨j,h1,by rw[hkt,if_pos q];exact h2,by rw[hkp,if_pos q];exact h3⟩,λq=>hj.2 (by rw[<-hkb];exact q)⟩
      have b3:IntKind.i64.wrap (a+b)=a+b:=(l9 _).trans (by unfold wrap64;omega);obtain⟨A1,hA1⟩:=fu (dO 16 a);obtain⟨A2,hA2⟩:=fu (dP 16 a);obtain⟨B1,hB1⟩:=fu (dO 16 b);obtain⟨B2,hB2⟩:=fu (dP 16 b);rw[<-hA1,<-hA2]at Uo d56;rw[<-hB1,<-hB2]at HSB d6;rw[<-hA1,<-hA2,<-hB1,<-hB2];clear hj hkt hkp hkb en hv5 hv6 ga gb hvk hva hvb hab hA1 hA2 hB1 hB2 ba bb;go_upto_region 20 with fail
      have HD:=jm d56 d6;have ae:=(d56.ext (eX V6)).four (d6.ext (eX V6));clear d56 d6 Zi;refine oJ (λV=>V.cell? ⟨b5,0,none⟩=some (.int .i64 A1)/\V.cell? ⟨b5,1,none⟩=some (.int .i64 (A2:Int))/\V.cell? ⟨b6,0,none⟩=some (.int .i64 B1)/\V.cell? ⟨b6,1,none⟩=some (.int .i64 (B2:Int))) [8,9] R3 ae (λaj ae=>?_);(refine bP 0 aj ae ?_;refine bP 2 aj ae ?_);(refine jv aj (i:=1) λK hK=>?_;go_simp);refine(Uo.out _).mono ?_;rintro e w7 ⟨rfl,hx7⟩;have Ef:=ah (eX V6) hx7;refine hK.out _ _ (λ_=>(HD.out.1.ext Ef).four (HD.out.2.ext Ef)) ?_;clear ae hK K;have ae:=(HD.out.1.ext Ef).four (HD.out.2.ext Ef);(try simp only[nP]);(refine jv aj (i:=3) λK hK=>?_;go_simp);refine(HSB.out _).mono ?_;rintro e w8 ⟨rfl,Gi⟩;have hE8:=ah Ef Gi;refine hK.out _ _ (λ_=>(HD.out.1.ext hE8).four (HD.out.2.ext hE8)) ?_;clear ae Ef hx7 Gi hK K;have ae:=(HD.out.1.ext hE8).four (HD.out.2.ext hE8);(try simp only[nP]);(refine bP 4 aj ae ?_);(refine jv aj (i:=5) λK hK=>?_;go_simp);refine(HLO.out _).mono ?_;rintro e w9 ⟨rfl,Ti⟩;have Pq:=ah hE8 Ti;refine hK.out _ _ (λ_=>(HD.out.1.ext Pq).four (HD.out.2.ext Pq)) ?_;clear ae hE8 Ti hK K;have ae:=(HD.out.1.ext Pq).four (HD.out.2.ext Pq);(try simp only[nP]);(refine bP 6 aj ae ?_;refine bP 7 aj ae ?_);refine nQ aj [8,9] [_,_] ?_;clear aj ae;obtain⟨q0,q1,q2,q3⟩:=eZ (ik Pq HR.out);have q4:=(q2 (.int .i64 kt)).1;have q5:=(q2 (.int .i64 kt)).2;have HQ:=aW (q3 (.int .i64 kt) (.int .i64 (kp:Int)));have HG9:=aW (HG6.out.ext Pq);clear q2 q3 Pq;go_wp2
      refine mg w.heap.size 34 #[.int .i64 kt,.int .i64 (kp:Int)] HQ.out underlying34 ?_;exact⟨kt,kp,kb,rfl,rT HG9.out HP.out _ _,HJ.out.1,HJ.out.2⟩
 .have HB:=aW hn
  go_upto_region 2 with(go_at_call 106;refine HNI.out.mono ?_;rintro e w3 ⟨b,rfl,hbi,iq⟩;obtain rfl:b=false:=iT.2 (λe=>HB.out (hbi.1 e));clear hbi)
  have hgo:=(jr.refl HP.out hx).trans iq;have hR:w3.heap[w.heap.size]?=some (.cells #[.int .i64 0,.int .i64 0] 34 (0,0)):=(iq.keep.block _ (hO _ rfl).1 (hO _ rfl).2).trans hb;obtain⟨q0,q1,q2,q3⟩:=eZ hR;have q4:=(q2 (.int .i64 0)).1;have q5:=(q2 (.int .i64 0)).2;have HQ:=aW (q3 (.int .i64 0) (.int .i64 0));have HG:=aW hgo;clear q2 q3 hgo iq hO hR hb hn HNI;go_wp2
  refine mg w.heap.size 34 #[.int .i64 0,.int .i64 0] HQ.out underlying34 ?_;exact⟨0,0,false,rfl,rT HG.out HP.out _ _,λh=>(by cases h),λ_ k=>HB.out (HN.out k)⟩
theorem VB:∀m,PZ m:=λm=>by
 induction m with
 |zero=>intro pp h s i w _ _ _ h;omega
 |succ m ih=>exact Sd ih
theorem VA(pp h:Nat)(s:jF)(i:Nat)(w:World)(hP:dA w pp h s)(hi:i<s.D.length)(hc:Canon (vl s.D i)):Calls prog 56 #[.pointer (some ⟨pp,0,none⟩),.int .i64 (i:Int)] w (M6 pp h s i w):=VB (i+1) pp h s i w hP hi hc (by omega)
end
