/- 21 -/
import Derived.Test.YtplgooajigigkaaGreatDoorK20
set_option maxRecDepth 100000
set_option maxHeartbeats 4000000
namespace Go.Proofs.YtplgooajigigkaaGreatDoor
open Tryz
open Go.RowKit
open bE (dh Nd vl Same Ge)
variable {D:dh} {R Ls more:List Nat} {k x:Nat}
def Ub(_pp _h:Nat)(s:jF)(R:List Nat)(w:World)(e:Ending)(w':World):Prop:=
 ∃v' Ls,e=.returned v'/\w'.ownsRow w.heap.size 3 1 v' Ls.length ((dB Ls).map (Value.int .i64))/\Ls.Nodup/\(∀j,j∈Ls↔∃r,r∈R/\bE.Reach s.D r j)/\Ext w w'
structure jU(D:dh)(R Ls:List Nat)(k:Nat)(more:List Nat):Prop where
 nd:Ls.Nodup
 reach:∀j,j∈Ls->∃r,r∈R/\bE.Reach D r j
 done:∀j (h:j<Ls.length),j<k->∀side x,x∈opt D side Ls[j]->x∈Ls
 more:∀x,x∈more->x∈Ls
theorem QB(hD:bE.WF D)(hR:∀x,x∈R->x<D.length)(h:∀j,j∈Ls->∃r,r∈R/\bE.Reach D r j):∀j,j∈Ls->j<D.length:=λj hj=>by
 obtain⟨r,hr,hj⟩:=h j hj;have:=bE.mi hD hj;have:=hR r hr;omega
theorem jU.len(hD:bE.WF D)(hR:∀x,x∈R->x<D.length)(h:jU D R Ls k more):Ls.length<=D.length:=jW h.nd (QB hD hR h.reach)
theorem jU.have(h:jU D R Ls k more)(hx:x∈Ls):jU D R Ls k (more++[x]):=
 ⟨h.nd,h.reach,h.done,λy hy=>by rcases bq.1 hy with hy|hy;exact h.more y hy;simp at hy;subst hy;exact hx⟩
theorem jU.add(h:jU D R Ls k more)(hk:k<=Ls.length)(hx:x ∉ Ls)(hr:∃r,r∈R/\bE.Reach D r x):jU D R (Ls++[x]) k (more++[x]):=by
 refine⟨?_,λj hj=>?_,λj hj hjk side y hy=>?_,λy hy=>?_⟩
 .rw[nW];exact⟨h.nd,by simp,λa ha b hb=>by simp at hb;subst hb;rintro rfl;exact hx ha⟩
 .rcases bq.1 hj with hj|hj
  .exact h.reach j hj
  .simp at hj;subst hj;exact hr
 .have hjl:j<Ls.length:=by omega
  rw[dM hjl]at hy;exact bq.2 (.inl (h.done j hjl hjk side y hy))
 .rcases bq.1 hy with hy|hy
  .exact bq.2 (.inl (h.more y hy))
  .exact bq.2 (.inr hy)
theorem jU.next(h:jU D R Ls k (opt D true (Ls.getD k 0)++opt D false (Ls.getD k 0))):jU D R Ls (k+1) []:=by
 refine⟨h.nd,h.reach,λj hj hjk side x hx=>?_,by simp⟩;by_cases e:j=k
 .subst e
  refine h.more x (bq.2 ?_);have:Ls.getD j 0=Ls[j]:=by simp[List.getD,hj]
  rw[this];cases side
  .exact .inr hx
  .exact .inl hx
 .exact h.done j hj (by omega) side x hx
theorem jU.all(h:jU D R Ls Ls.length more)(hR:∀r,r∈R->r∈Ls):∀j,j∈Ls↔∃r,r∈R/\bE.Reach D r j:=by
 have xn:∀i side x,i∈Ls->x∈opt D side i->x∈Ls:=λi side x hi hx=>by
  obtain⟨j,hj,rfl⟩:=aQ.1 hi;exact h.done j hj hj side x hx
 have key:∀{r j:Nat},bE.Reach D r j->r∈R->j∈Ls:=λ{r j} hj hr=>by
  induction hj with
  |here=>exact hR r hr
  |left _ hd hk ih=>exact xn _ true _ ih (by simp[opt,hd];exact hk)
  |right _ hd hk ih=>exact xn _ false _ ih (by simp[opt,hd];exact hk)
 exact λj=>⟨h.reach j,λ⟨r,hr,hj⟩=>key hj hr⟩
theorem NR{pp h:Nat}{s:jF}{w:World}(hP:dA w pp h s):iP pp h s w ((w.alloc (.map #[] 0)).alloc (.cells #[] 3)) w.heap.size (.slice (some ⟨w.heap.size+1,0,none⟩) 0 0) (.slice none 0 0) [] [] []:=by
 have z1:(w.alloc (.map #[] 0)).heap.size=w.heap.size+1:=fU _ _;refine⟨?_,⟨by simp[dB],.inl ⟨rfl,rfl⟩⟩,⟨λ_=>none,?_,λx=>by simp⟩,aJ _,by simp[Value.ownBlock],by simp[Value.ownBlock],by simp[Value.ownBlock],?_⟩
 .have:=iB (w.alloc (.map #[] 0)) w.heap.size (by omega) 3
  rw[z1]at this;simpa [dB]using this
 .refine jb.made _ _ (c:=0) ?_
  rw[jo _ _ _ (by omega)];exact alloc_at rfl
 .intro b hb
  have:w.heap.size<=b/\b<=w.heap.size+1:=by
   rcases hb with rfl|hb|hb
   .omega
   .simp[Value.ownBlock]at hb;omega
   .simp[Value.ownBlock]at hb
  exact⟨by rw[fU,z1];omega,hP.new this.1⟩
def F8(R Ls:List Nat)(k x:Nat):Prop:=(∀r,r∈R->r∈Ls)/\k<Ls.length/\Ls.getD k 0=x
theorem F8.add(h:F8 R Ls k x)(y:Nat):F8 R (Ls++[y]) k x:=
 ⟨λr hr=>bq.2 (.inl (h.1 r hr)),by have:=h.2.1;simp;omega,by rw[<-h.2.2];simp[List.getD,dN h.2.1]⟩
theorem akG(W:World)(a b:Option Addr)(n m c d:Nat):(Instr.index 117 (.agg #[.slice a n c,.slice b m d]) (.int .i64 0)).run prog W=.ok (.slice a n c) W:=by kernel_rfl
theorem akF(W:World)(a b:Option Addr)(n m c d:Nat):(Instr.index 117 (.agg #[.slice a n c,.slice b m d]) (.int .i64 1)).run prog W=.ok (.slice b m d) W:=by kernel_rfl
theorem Ha{n:Nat}(h:n<=2):n=0\/n=1\/n=2:=by omega
def wP(D:dh)(x:Nat)(n:Nat):List Nat:=if n=0 then []else if n=1 then opt D true x else opt D true x++opt D false x
theorem Cm(pp h:Nat)(s:jF)(v:Value)(R:List Nat)(T:Nat->Prop)(w:World)(hP:dA w pp h s)(hR:∀x,x∈R->x<s.D.length)(hRl:R.length<=1000000)(hv:ji T w v R):
 Calls prog 123 #[.pointer (some ⟨pp,0,none⟩),v] w (Ub pp h s R w):=by
 have hds:=hP.small;have zP:=aW hP.good.wf;obtain⟨i0,hi0,hz0,hz1,hz2⟩:=info_parts iU;obtain⟨av,cv,rfl,-⟩:=id hv.out;rw[bG]at hv ⊢;have hmk:=λw:World=>run_makeMap_plain (P:=prog) (w:=w) 196
 have hm0:=NR hP;have hx0:Ext w ((w.alloc (.map #[] 0)).alloc (.cells #[] 3)):=by go_grown
 go_enter Tryz.func123,Tryz.ntmps123
 go_upto_region 3 with fail
 generalize (w.alloc (.map #[] 0)).alloc (.cells #[] 3)=W0 at *;go_wp2
 go_loopw [6,8,18] (λlv _ ii wr=>∃(k:Nat) (Ls:List Nat),k<=R.length/\ii=.int .i64 ((k:Nat):Int)/\iP pp h s w wr w.heap.size lv (.slice none 0 0) Ls [] Ls/\Ext w wr/\Hid (jU s.D R Ls 0 (R.take k))/\Hid (Ls.length<=s.D.length)) (λ_ _ ii _=>R.length-(intOf ii).toNat)
 case atStart=>exact⟨0,[],aU _,rfl,hm0,hx0,aW ⟨List.nodup_nil,by simp,by simp,by simp⟩,aU _⟩
 case round=>
  clear hm0;obtain⟨k,Ls,hk,rfl,hm,hx,HI,sU⟩:=hrel;have Ri:Ls.length<=900000:=by have:=sU.out;omega
  have hwr:=hx.size;by_cases hlt:k<R.length
  .have h1:((k:Nat):Int)<((R.length:Nat):Int):=by omega
   obtain⟨-,hln,hcl⟩:=ji.at (hv.ext hx);obtain⟨b,off,rfl,hcell⟩:=hcl (by omega);have hck:=hcell k hlt;have hxR:=hR _ (ai hlt);obtain⟨x,hxe⟩:=fu (R[k]);have htk:R.take (k+1)=R.take k++[x]:=(by rw[hxe];exact bJ hlt);have hxm:x∈R:=(by rw[hxe];exact ai hlt);rw[<-hxe]at hck hxR;have zA:=hm.look (x:=x) (by omega) wr rfl;obtain⟨aq,cq,rfl,hqc,_⟩:=bT hm.q;have UM:=aW htk;have HV:=aW hv;have HXM:=aW hxm;clear hcl hcell hxe htk hv hxm;by_cases hin:x∈Ls
   .simp only[hin,decide_true]at zA
    have BX:=aW hin;clear hin;go_wp2
    go_roundw
    case rel=>exact⟨k+1,Ls,by omega,by go_num,hm,hx,by rw[UM.out];exact aW (HI.out.have BX.out),sU⟩
    case measure=>simp[intOf];omega
   .simp only[hin,decide_false]at zA
    have BX:=aW hin;clear hin;obtain⟨fm,hM,hfm⟩:=hm.seen;have Y0:=aW hfm;have hki:=uO x (by omega);have HI5:=aW (HI.out.add (aU _) BX.out ⟨x,HXM.out,.here⟩);have YW:=aW (HI5.out.len zP.out hR);have UI:=hP.ext hx;clear hfm
    go_wp2_with (first
     |(at_builtin;refine eO rfl (.tmp 28) (.tmp 30) 41 rfl w.heap.size 3 i0 (.int .i64 0) 1 8 underlying41 hi0 hz0 hz1 hz2 rfl (by decide) (.slice aq Ls.length cq) Ls.length _ rfl (xJ.q.alloc _) _ 1 _ [.int .i64 (x:Int)] rfl rfl (.inr ⟨_,rfl,fD (dW _ _ _)⟩) one_cell (by unfold maxLen;omega) (by omega) (by rw[fU];have:=hx3.size;omega) ?_;intro v5 w5 lq hg5 hl5)
     |(at_mapUpdate;refine ku rfl _ _ _ 196 rfl 3 4 rH underlying196 w.heap.size Ls.length fm rfl hM (by unfold maxLen;omega) (.int .i64 (x:Int)) (.bool true) rfl rfl hki ?_;intro w3 JG hg3;have xJ:=hm.mark Y0.out JG hg3;have hx3:=eU hx hg3 (λb hb=>by injection hb with hb;rw[<-hb];exact aJ _)))
    have IB:=xJ.push (news:=[x]) (hP.ext hx3) (bY (gz _ _) _) hg5 lq (by simp) (by rw[lS,dw];rfl) hl5;have hx5:=eU (bY hx3 _) hg5 (λb hb=>(xJ.q.lt b hb).1);go_roundw
    case rel=>exact⟨k+1,Ls++[x],by omega,by go_num,IB,hx5,by rw[UM.out];exact HI5,YW⟩
    case measure=>simp[intOf];omega
  .have h1:¬(((k:Nat):Int)<((R.length:Nat):Int)):=by omega
   have hke:k=R.length:=(by omega);subst hke;rw[dZ]at HI;obtain⟨wo,rfl⟩:∃wo:World,wo=wr:=⟨_,rfl⟩;have HI0:=aW (show jU s.D R Ls 0 []/\∀r,r∈R->r∈Ls from⟨⟨HI.out.nd,HI.out.reach,HI.out.done,by simp⟩,HI.out.more⟩);clear HI hv;go_wp2
   go_loopw [6,9,11,13] (λlv kk _ _ wr=>∃(k:Nat) (Ls:List Nat),k<=Ls.length/\kk=.int .i64 ((k:Nat):Int)/\iP pp h s w wr w.heap.size lv (.slice none 0 0) Ls [] Ls/\Ext w wr/\Hid (jU s.D R Ls k []/\∀r,r∈R->r∈Ls)/\Hid (Ls.length<=s.D.length)) (λ_ kk _ _ _=>s.D.length+1-(intOf kk).toNat)
   case atStart=>exact⟨0,Ls,aU _,rfl,hm,hx,HI0,sU⟩
   case round=>
    clear hm hx HI0 sU;obtain⟨k,Ls,hk,rfl,hm,hx,HI,sU⟩:=hrel;have Ri:Ls.length<=900000:=(by have:=sU.out;omega);have hwr:=hx.size;by_cases hlt:k<Ls.length
    .have h1:((k:Nat):Int)<((Ls.length:Nat):Int):=by omega
     obtain⟨gq,cq,rfl,hqc,hqm,yj⟩:=iy hm.q (by omega);have hck:=yj k (by omega);obtain⟨x,hxe⟩:=fu (Ls[k]);have e0:((dB Ls).map (Value.int .i64))[k]?=some (.int .i64 (x:Int)):=(by rw[hxe];simp[dB,hlt]);rw[e0]at hck;have hxL:x∈Ls:=(by rw[hxe];exact ai hlt);have WM:x<s.D.length:=QB zP.out hR HI.out.1.reach x hxL;have DK:Hid (F8 R Ls k x):=aW ⟨HI.out.2,hlt,by rw[hxe];simp[List.getD,hlt]⟩;obtain⟨r0,hr0,hrx⟩:=HI.out.1.reach x hxL;have aiO:=aW (λy (hy:y∈opt s.D true x)=>(⟨r0,hr0,yO hrx hy⟩:∃r,r∈R/\bE.Reach s.D r y));have aiN:=aW (λy (hy:y∈opt s.D false x)=>(⟨r0,hr0,yO hrx hy⟩:∃r,r∈R/\bE.Reach s.D r y));have aiQ:=aW (λy (hy:y∈opt s.D true x)=>(by have:=lU zP.out hy;omega:y<s.D.length));have aiP:=aW (λy (hy:y∈opt s.D false x)=>(by have:=lU zP.out hy;omega:y<s.D.length));have hol:=qP hP.good (left:=true) (f:=x);have hor:=qP hP.good (left:=false) (f:=x);obtain⟨gr,PE,aR,cR,yx,OQ,qC,IJ,hSR⟩:=hP.qc WM;obtain⟨gl,PG,aL,cL,Al,OU,OT,IK,sO⟩:=hP.rG WM;replace yx:=fw hx yx;replace Al:=fw hx Al;replace IJ:=fw hx IJ;replace IK:=fw hx IK;rw[<-(rF WM).1]at IK sO;rw[<-(rF WM).2]at IJ hSR;have HIM:=aW (show jU s.D R Ls k (wP s.D x 0) by simpa [wP]using HI.out.1);obtain⟨OL,Kg⟩:=fu (opt s.D true x);obtain⟨OR,Mg⟩:=fu (opt s.D false x);have HMO:Hid (wP s.D x 1=OL/\wP s.D x 2=OL++OR):=aW ⟨by simp[wP,Kg],by simp[wP,Kg,Mg]⟩;rw[<-Kg]at IK sO aiO aiQ hol;rw[<-Mg]at IJ hSR aiN aiP hor;have sO:=aW sO;have hSR:=aW hSR;clear yj e0 hxe hxL hr0 hrx HI Kg Mg;have ix0:=λW:World=>akG W aL aR OL.length OR.length cL cR
     have ix1:=λW:World=>akF W aL aR OL.length OR.length cL cR
     go_upto_region 13 with fail
     go_quiet (fail)
     generalize hW1:wr.drewN nq=W1;have hd1:Ext wr W1:=(by rw[<-hW1];exact dQ ⟨_,rfl⟩);have hm1:=hm.ext hd1;have hx1:=ah hx hd1;clear hW1 hd1 hm hx hck IK IJ Al yx;go_wp2
     go_loopw [6,11,13,60] (λlv _ _ ii wr=>∃(si:Nat) (Ls:List Nat),si<=2/\ii=.int .i64 ((si:Nat):Int)/\iP pp h s w wr w.heap.size lv (.slice none 0 0) Ls [] Ls/\Ext w wr/\Hid (jU s.D R Ls k (wP s.D x si))/\Hid (Ls.length<=s.D.length)/\Hid (F8 R Ls k x)) (λ_ _ _ ii _=>2-(intOf ii).toNat)
     case atStart=>exact⟨0,Ls,aU _,rfl,hm1,hx1,HIM,sU,DK⟩
     case round=>
      clear hm1 hx1 HIM sU DK;obtain⟨si,Ls,hsi,rfl,hm,hx,HI,sU,DK⟩:=hrel;rcases Ha hsi with rfl|rfl|rfl
      .have HI:Hid (jU s.D R Ls k []):=aW (by simpa [wP]using HI.out)
       obtain⟨wq,rfl⟩:∃wq:World,wq=wr:=⟨_,rfl⟩;go_wp2
       go_loopw [6,13,65] (λlv _ ii wr=>∃(q:Nat) (Ls:List Nat),q<=OL.length/\ii=.int .i64 ((q:Nat):Int)/\iP pp h s w wr w.heap.size lv (.slice none 0 0) Ls [] Ls/\Ext w wr/\Hid (jU s.D R Ls k (OL.take q))/\Hid (Ls.length<=s.D.length)/\Hid (F8 R Ls k x)) (λ_ _ ii _=>OL.length-(intOf ii).toNat)
       case atStart=>exact⟨0,Ls,aU _,rfl,hm,hx,by simpa [Hid]using HI.out,sU,DK⟩
       case round=>
        clear hm hx HI sU DK;obtain⟨q,Ls,hq,rfl,hm,hx,HI,sU,DK⟩:=hrel;have Ri:Ls.length<=900000:=(by have:=sU.out;omega);have hwr:=hx.size;by_cases hqt:q<OL.length
        .have h2:((q:Nat):Int)<((OL.length:Nat):Int):=by omega
         obtain⟨-,hln,hcl⟩:=ji.at (sO.out.ext hx);obtain⟨b,off,rfl,hcell⟩:=hcl (by omega);have hck:=hcell q hqt;have hyD:=aiQ.out _ (ai hqt);obtain⟨y,hy⟩:=fu (OL[q]);have htk:OL.take (q+1)=OL.take q++[y]:=(by rw[hy];exact bJ hqt);have hyR:∃r,r∈R/\bE.Reach s.D r y:=(by rw[hy];exact aiO.out _ (ai hqt));rw[<-hy]at hck hyD;have zA:=hm.look (x:=y) (by omega) wr rfl;obtain⟨aq,cq,rfl,hqc,_⟩:=bT hm.q;have UM:=aW htk;have HYR:=aW hyR;clear hcl hcell hy htk hyR;by_cases hin:y∈Ls
         .simp only[hin,decide_true]at zA
          have BX:=aW hin;clear hin;go_wp2
          go_roundw
          case rel=>exact⟨q+1,Ls,by omega,by go_num,hm,hx,by have:=HI.out.have BX.out;rw[UM.out];simpa [Hid,dY]using this,sU,DK⟩
          case measure=>simp[intOf];omega
         .simp only[hin,decide_false]at zA
          have BX:=aW hin;have hkl:=DK.out.2.1;clear hin;obtain⟨fm,hM,hfm⟩:=hm.seen;have Y0:=aW hfm;have hki:=uO y (by omega);have HI5:=aW (HI.out.add (Nat.le_of_lt hkl) BX.out HYR.out);have YW:=aW (HI5.out.len zP.out hR);have UI:=hP.ext hx;clear hfm
          go_wp2_with (first
           |(at_builtin;refine eO rfl (.tmp 75) (.tmp 77) 41 rfl w.heap.size 3 i0 (.int .i64 0) 1 8 underlying41 hi0 hz0 hz1 hz2 rfl (by decide) (.slice aq Ls.length cq) Ls.length _ rfl (xJ.q.alloc _) _ 1 _ [.int .i64 (y:Int)] rfl rfl (.inr ⟨_,rfl,fD (dW _ _ _)⟩) one_cell (by unfold maxLen;omega) (by omega) (by rw[fU];have:=hx3.size;omega) ?_;intro v5 w5 lq hg5 hl5)
           |(at_mapUpdate;refine ku rfl _ _ _ 196 rfl 3 4 rH underlying196 w.heap.size Ls.length fm rfl hM (by unfold maxLen;omega) (.int .i64 (y:Int)) (.bool true) rfl rfl hki ?_;intro w3 JG hg3;have xJ:=hm.mark Y0.out JG hg3;have hx3:=eU hx hg3 (λb hb=>by injection hb with hb;rw[<-hb];exact aJ _)))
          have IB:=xJ.push (news:=[y]) (hP.ext hx3) (bY (gz _ _) _) hg5 lq (by simp) (by rw[lS,dw];rfl) hl5;have hx5:=eU (bY hx3 _) hg5 (λb hb=>(xJ.q.lt b hb).1);go_roundw
          case rel=>exact⟨v5,_,_,_,_,_,_,_,_,_,_,_,_,_,_,_,_,⟨q+1,Ls++[y],by omega,by go_num,IB,hx5,by have:=HI5.out;rw[UM.out];simpa [Hid,dY]using this,YW,DK.out.add y⟩,rfl⟩
          case measure=>simp[intOf];omega
        .have h2:¬(((q:Nat):Int)<((OL.length:Nat):Int)):=by omega
         have hqe:q=OL.length:=(by omega);subst hqe;rw[dZ]at HI;go_wp2
         go_roundw
         case rel=>exact⟨1,Ls,by omega,by go_num,hm,hx,by rw[HMO.out.1];exact HI,sU,DK⟩
         case measure=>simp[intOf]
      .have HI:Hid (jU s.D R Ls k OL):=by rw[<-HMO.out.1];exact HI
       obtain⟨wq,rfl⟩:∃wq:World,wq=wr:=⟨_,rfl⟩;go_wp2
       go_loopw [6,13,65] (λlv _ ii wr=>∃(q:Nat) (Ls:List Nat),q<=OR.length/\ii=.int .i64 ((q:Nat):Int)/\iP pp h s w wr w.heap.size lv (.slice none 0 0) Ls [] Ls/\Ext w wr/\Hid (jU s.D R Ls k (OL++OR.take q))/\Hid (Ls.length<=s.D.length)/\Hid (F8 R Ls k x)) (λ_ _ ii _=>OR.length-(intOf ii).toNat)
       case atStart=>exact⟨0,Ls,aU _,rfl,hm,hx,by simpa [Hid]using HI.out,sU,DK⟩
       case round=>
        clear hm hx HI sU DK;obtain⟨q,Ls,hq,rfl,hm,hx,HI,sU,DK⟩:=hrel;have Ri:Ls.length<=900000:=(by have:=sU.out;omega);have hwr:=hx.size;by_cases hqt:q<OR.length
        .have h2:((q:Nat):Int)<((OR.length:Nat):Int):=by omega
         obtain⟨-,hln,hcl⟩:=ji.at (hSR.out.ext hx);obtain⟨b,off,rfl,hcell⟩:=hcl (by omega);have hck:=hcell q hqt;have hyD:=aiP.out _ (ai hqt);obtain⟨y,hy⟩:=fu (OR[q]);have htk:OR.take (q+1)=OR.take q++[y]:=(by rw[hy];exact bJ hqt);have hyR:∃r,r∈R/\bE.Reach s.D r y:=(by rw[hy];exact aiN.out _ (ai hqt));rw[<-hy]at hck hyD;have zA:=hm.look (x:=y) (by omega) wr rfl;obtain⟨aq,cq,rfl,hqc,_⟩:=bT hm.q;have UM:=aW htk;have HYR:=aW hyR;clear hcl hcell hy htk hyR;by_cases hin:y∈Ls
         .simp only[hin,decide_true]at zA
          have BX:=aW hin;clear hin;go_wp2
          go_roundw
          case rel=>exact⟨q+1,Ls,by omega,by go_num,hm,hx,by have:=HI.out.have BX.out;rw[UM.out];simpa [Hid,dY]using this,sU,DK⟩
          case measure=>simp[intOf];omega
         .simp only[hin,decide_false]at zA
          have BX:=aW hin;have hkl:=DK.out.2.1;clear hin;obtain⟨fm,hM,hfm⟩:=hm.seen;have Y0:=aW hfm;have hki:=uO y (by omega);have HI5:=aW (HI.out.add (Nat.le_of_lt hkl) BX.out HYR.out);have YW:=aW (HI5.out.len zP.out hR);have UI:=hP.ext hx;clear hfm
          go_wp2_with (first
           |(at_builtin;refine eO rfl (.tmp 75) (.tmp 77) 41 rfl w.heap.size 3 i0 (.int .i64 0) 1 8 underlying41 hi0 hz0 hz1 hz2 rfl (by decide) (.slice aq Ls.length cq) Ls.length _ rfl (xJ.q.alloc _) _ 1 _ [.int .i64 (y:Int)] rfl rfl (.inr ⟨_,rfl,fD (dW _ _ _)⟩) one_cell (by unfold maxLen;omega) (by omega) (by rw[fU];have:=hx3.size;omega) ?_;intro v5 w5 lq hg5 hl5)
           |(at_mapUpdate;refine ku rfl _ _ _ 196 rfl 3 4 rH underlying196 w.heap.size Ls.length fm rfl hM (by unfold maxLen;omega) (.int .i64 (y:Int)) (.bool true) rfl rfl hki ?_;intro w3 JG hg3;have xJ:=hm.mark Y0.out JG hg3;have hx3:=eU hx hg3 (λb hb=>by injection hb with hb;rw[<-hb];exact aJ _)))
          have IB:=xJ.push (news:=[y]) (hP.ext hx3) (bY (gz _ _) _) hg5 lq (by simp) (by rw[lS,dw];rfl) hl5;have hx5:=eU (bY hx3 _) hg5 (λb hb=>(xJ.q.lt b hb).1);go_roundw
          case rel=>exact⟨v5,_,_,_,_,_,_,_,_,_,_,_,_,_,_,_,_,⟨q+1,Ls++[y],by omega,by go_num,IB,hx5,by have:=HI5.out;rw[UM.out];simpa [Hid,dY]using this,YW,DK.out.add y⟩,rfl⟩
          case measure=>simp[intOf];omega
        .have h2:¬(((q:Nat):Int)<((OR.length:Nat):Int)):=by omega
         have hqe:q=OR.length:=(by omega);subst hqe;rw[dZ]at HI;go_wp2
         go_roundw
         case rel=>exact⟨2,Ls,by omega,by go_num,hm,hx,by rw[HMO.out.2];exact HI,sU,DK⟩
         case measure=>simp[intOf]
      .have HI2:Hid (jU s.D R Ls (k+1) []):=aW (by
        have:=HI.out;simp only[wP]at this;rw[<-DK.out.2.2]at this;exact this.next)
       have hkl:=DK.out.2.1;have Ri:Ls.length<=900000:=(by have:=sU.out;omega);go_wp2
       go_roundw
       case rel=>exact⟨k+1,Ls,by omega,by go_num,hm,hx,aW ⟨HI2.out,DK.out.1⟩,sU⟩
       case measure=>have:=sU.out;simp[intOf];omega
    .have h1:¬(((k:Nat):Int)<((Ls.length:Nat):Int)):=by omega
     have hke:k=Ls.length:=(by omega);subst hke;obtain⟨aq,cq,rfl,hqc,_⟩:=bT hm.q;go_wp2
     go_ret
     exact⟨_,Ls,rfl,hm.q,HI.out.1.nd,HI.out.1.all HI.out.2,hx⟩
