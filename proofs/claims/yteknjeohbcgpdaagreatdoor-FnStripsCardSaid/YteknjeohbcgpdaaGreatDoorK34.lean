/-
  Contract of the program's parts: some games and all their subpositions.
-/
import Derived.Test.YteknjeohbcgpdaaGreatDoorK30
set_option maxRecDepth 100000
namespace Go.Proofs.YteknjeohbcgpdaaGreatDoor
open Tryz
open Go.RowKit
open bz (dC Nd vl Same Ge)
variable {D:dC} {R Ls more:List Nat} {k x:Nat}
def P7(_pp _h:Nat)(s:iQ)(R:List Nat)(w:World)(e:Ending)(w':World):Prop:=
 ∃v' Ls,e=.returned v'/\w'.ownsRow w.heap.size 3 1 v' Ls.length ((dx Ls).map (Value.int .i64))/\Ls.Nodup/\(∀j,j∈Ls↔∃r,r∈R/\bz.Reach s.D r j)/\Ext w w'
structure je(D:dC)(R Ls:List Nat)(k:Nat)(more:List Nat):Prop where
 nd:Ls.Nodup
 reach:∀j,j∈Ls->∃r,r∈R/\bz.Reach D r j
 done:∀j (h:j<Ls.length),j<k->∀side x,x∈opt D side Ls[j]->x∈Ls
 more:∀x,x∈more->x∈Ls
theorem M7(hD:bz.WF D)(hR:∀x,x∈R->x<D.length)(h:∀j,j∈Ls->∃r,r∈R/\bz.Reach D r j):∀j,j∈Ls->j<D.length:=λj hj=>by
 obtain⟨r,hr,hj⟩:=h j hj;have:=bz.mX hD hj;have:=hR r hr;omega
theorem je.len(hD:bz.WF D)(hR:∀x,x∈R->x<D.length)(h:je D R Ls k more):Ls.length<=D.length:=jY h.nd (M7 hD hR h.reach)
theorem je.have(h:je D R Ls k more)(hx:x∈Ls):je D R Ls k (more++[x]):=
 ⟨h.nd,h.reach,h.done,λy hy=>by rcases aK.1 hy with hy|hy;exact h.more y hy;simp at hy;subst hy;exact hx⟩
theorem je.add(h:je D R Ls k more)(hk:k<=Ls.length)(hx:x ∉ Ls)(hr:∃r,r∈R/\bz.Reach D r x):je D R (Ls++[x]) k (more++[x]):=by
 refine⟨?_,λj hj=>?_,λj hj hjk side y hy=>?_,λy hy=>?_⟩
 .rw[kT];exact⟨h.nd,by simp,λa ha b hb=>by simp at hb;subst hb;rintro rfl;exact hx ha⟩
 .rcases aK.1 hj with hj|hj
  .exact h.reach j hj
  .simp at hj;subst hj;exact hr
 .have hjl:j<Ls.length:=by omega
  rw[dM hjl]at hy;exact aK.2 (.inl (h.done j hjl hjk side y hy))
 .rcases aK.1 hy with hy|hy
  .exact aK.2 (.inl (h.more y hy))
  .exact aK.2 (.inr hy)
theorem je.next(h:je D R Ls k (opt D true (Ls.getD k 0)++opt D false (Ls.getD k 0))):je D R Ls (k+1) []:=by
 refine⟨h.nd,h.reach,λj hj hjk side x hx=>?_,by simp⟩;by_cases e:j=k
 .subst e
  refine h.more x (aK.2 ?_);have:Ls.getD j 0=Ls[j]:=by simp[List.getD,hj]
  rw[this];cases side
  .exact .inr hx
  .exact .inl hx
 .exact h.done j hj (by omega) side x hx
theorem je.all(h:je D R Ls Ls.length more)(hR:∀r,r∈R->r∈Ls):∀j,j∈Ls↔∃r,r∈R/\bz.Reach D r j:=by
 have tH:∀i side x,i∈Ls->x∈opt D side i->x∈Ls:=λi side x hi hx=>by
  obtain⟨j,hj,rfl⟩:=aO.1 hi;exact h.done j hj hj side x hx
 have key:∀{r j:Nat},bz.Reach D r j->r∈R->j∈Ls:=λ{r j} hj hr=>by
  induction hj with
  |here=>exact hR r hr
  |left _ hd hk ih=>exact tH _ true _ ih (by simp[opt,hd];exact hk)
  |right _ hd hk ih=>exact tH _ false _ ih (by simp[opt,hd];exact hk)
 exact λj=>⟨h.reach j,λ⟨r,hr,hj⟩=>key hj hr⟩
theorem KV{pp h:Nat}{s:iQ}{w:World}(hP:dm w pp h s):gD pp h s w ((w.alloc (.map #[] 0)).alloc (.cells #[] 3)) w.heap.size (.slice (some ⟨w.heap.size+1,0,none⟩) 0 0) (.slice none 0 0) [] [] []:=by
 have z1:(w.alloc (.map #[] 0)).heap.size=w.heap.size+1:=fw _ _;refine⟨?_,⟨by simp[dx],.inl ⟨rfl,rfl⟩⟩,⟨λ_=>none,?_,λx=>by simp⟩,ai _,by simp[Value.ownBlock],by simp[Value.ownBlock],by simp[Value.ownBlock],?_⟩
 .have:=fC (w.alloc (.map #[] 0)) w.heap.size (by omega) 3
  rw[z1]at this;simpa [dx]using this
 .refine gu.made _ _ (c:=0) ?_
  rw[Below.heap_alloc _ _ _ (by omega)];exact alloc_at rfl
 .intro b hb
  have:w.heap.size<=b/\b<=w.heap.size+1:=by
   rcases hb with rfl|hb|hb
   .omega
   .simp[Value.ownBlock]at hb;omega
   .simp[Value.ownBlock]at hb
  exact⟨by rw[fw,z1];omega,hP.new this.1⟩
def DC(R Ls:List Nat)(k x:Nat):Prop:=(∀r,r∈R->r∈Ls)/\k<Ls.length/\Ls.getD k 0=x
theorem DC.add(h:DC R Ls k x)(y:Nat):DC R (Ls++[y]) k x:=
 ⟨λr hr=>aK.2 (.inl (h.1 r hr)),by have:=h.2.1;simp;omega,by rw[<-h.2.2];simp[List.getD,dN h.2.1]⟩
theorem aeY(W:World)(a b:Option Addr)(n m c d:Nat):(Instr.index 177 (.agg #[.slice a n c,.slice b m d]) (.int .i64 0)).run prog W=.ok (.slice a n c) W:=by kernel_rfl
theorem aeX(W:World)(a b:Option Addr)(n m c d:Nat):(Instr.index 177 (.agg #[.slice a n c,.slice b m d]) (.int .i64 1)).run prog W=.ok (.slice b m d) W:=by kernel_rfl
theorem Es{n:Nat}(h:n<=2):n=0\/n=1\/n=2:=by omega
def sS(D:dC)(x:Nat)(n:Nat):List Nat:=if n=0 then []else if n=1 then opt D true x else opt D true x++opt D false x
set_option maxHeartbeats 4000000 in
theorem EM(pp h:Nat)(s:iQ)(v:Value)(R:List Nat)(T:Nat->Prop)(w:World)(hP:dm w pp h s)(hR:∀x,x∈R->x<s.D.length)(hRl:R.length<=1000000)(hv:kD T w v R):
 Calls prog 117 #[.pointer (some ⟨pp,0,none⟩),v] w (P7 pp h s R w):=by
 have hds:=hP.small;have Fq:=aH hP.good.wf;obtain⟨i0,hi0,hz0,hz1,hz2⟩:=info_parts iy;obtain⟨av,cv,rfl,-⟩:=id hv.out;rw[bu]at hv ⊢;have hmk:=λw:World=>run_makeMap_plain (P:=prog) (w:=w) 187
 have hm0:=KV hP;have hx0:Ext w ((w.alloc (.map #[] 0)).alloc (.cells #[] 3)):=by go_grown
 go_enter Tryz.func117,Tryz.ntmps117
 go_upto_region 3 with fail
 generalize (w.alloc (.map #[] 0)).alloc (.cells #[] 3)=W0 at *;go_wp2
 go_loopw [6,8,18] (λlv _ ii wr=>∃(k:Nat) (Ls:List Nat),k<=R.length/\ii=.int .i64 ((k:Nat):Int)/\gD pp h s w wr w.heap.size lv (.slice none 0 0) Ls [] Ls/\Ext w wr/\Hid (je s.D R Ls 0 (R.take k))/\Hid (Ls.length<=s.D.length)) (λ_ _ ii _=>R.length-(intOf ii).toNat)
 case atStart=>exact⟨0,[],az _,rfl,hm0,hx0,aH ⟨List.nodup_nil,by simp,by simp,by simp⟩,az _⟩
 case round=>
  clear hm0;obtain⟨k,Ls,hk,rfl,hm,hx,HI,pU⟩:=hrel;have TE:Ls.length<=900000:=by have:=pU.out;omega
  have hwr:=hx.size;by_cases hlt:k<R.length
  .have h1:((k:Nat):Int)<((R.length:Nat):Int):=by omega
   obtain⟨-,hln,hcl⟩:=kD.at (hv.ext hx);obtain⟨b,off,rfl,hcell⟩:=hcl (by omega);have hck:=hcell k hlt;have hxR:=hR _ (ah hlt);obtain⟨x,hxe⟩:∃x,x=R[k]:=⟨_,rfl⟩;have htk:R.take (k+1)=R.take k++[x]:=(by rw[hxe];exact bg hlt);have hxm:x∈R:=(by rw[hxe];exact ah hlt);rw[<-hxe]at hck hxR;have wN:=hm.look (x:=x) (by omega) wr rfl;obtain⟨aq,cq,rfl,hqc,_⟩:=bD hm.q;have Qr:=aH htk;have HV:=aH hv;have HXM:=aH hxm;clear hcl hcell hxe htk hv hxm;by_cases hin:x∈Ls
   .simp only[hin,decide_true]at wN
    have zt:=aH hin;clear hin;go_wp2
    go_roundw
    case rel=>exact⟨k+1,Ls,by omega,by go_num,hm,hx,by rw[Qr.out];exact aH (HI.out.have zt.out),pU⟩
    case measure=>simp[intOf];omega
   .simp only[hin,decide_false]at wN
    have zt:=aH hin;clear hin;obtain⟨fm,hM,hfm⟩:=hm.seen;have Xq:=aH hfm;have hki:=qj x (by omega);have Yj:=aH (HI.out.add (az _) zt.out ⟨x,HXM.out,.here⟩);have UX:=aH (Yj.out.len Fq.out hR);have Qm:=hP.ext hx;clear hfm
    go_wp2_with (first
     |(at_builtin;refine bQ rfl (.tmp 28) (.tmp 30) 80 rfl w.heap.size 3 i0 (.int .i64 0) 1 8 underlying80 hi0 hz0 hz1 hz2 rfl (by decide) (.slice aq Ls.length cq) Ls.length _ rfl (AV.q.alloc _) _ 1 _ [.int .i64 (x:Int)] rfl rfl (.inr ⟨_,rfl,cK (bP _ _ _)⟩) one_cell (by unfold maxLen;omega) (by omega) (by rw[fw];have:=hx3.size;omega) ?_;intro v5 w5 fI hg5 hl5)
     |(at_mapUpdate;refine iT rfl _ _ _ 187 rfl 3 4 oD underlying187 w.heap.size Ls.length fm rfl hM (by unfold maxLen;omega) (.int .i64 (x:Int)) (.bool true) rfl rfl hki ?_;intro w3 Gi hg3;have AV:=hm.mark Xq.out Gi hg3;have hx3:=dZ hx hg3 (λb hb=>by injection hb with hb;rw[<-hb];exact ai _)))
    have Jw:=AV.push (news:=[x]) (hP.ext hx3) (bK (Below.refl _ _) _) hg5 fI (by simp) (by rw[kZ,aU];rfl) hl5;have hx5:=dZ (bK hx3 _) hg5 (λb hb=>(AV.q.lt b hb).1);go_roundw
    case rel=>exact⟨k+1,Ls++[x],by omega,by go_num,Jw,hx5,by rw[Qr.out];exact Yj,UX⟩
    case measure=>simp[intOf];omega
  .have h1:¬(((k:Nat):Int)<((R.length:Nat):Int)):=by omega
   have hke:k=R.length:=(by omega);subst hke;rw[dz]at HI;obtain⟨wo,rfl⟩:∃wo:World,wo=wr:=⟨_,rfl⟩;have HI0:=aH (show je s.D R Ls 0 []/\∀r,r∈R->r∈Ls from⟨⟨HI.out.nd,HI.out.reach,HI.out.done,by simp⟩,HI.out.more⟩);clear HI hv;go_wp2
   go_loopw [6,9,11,13] (λlv kk _ _ wr=>∃(k:Nat) (Ls:List Nat),k<=Ls.length/\kk=.int .i64 ((k:Nat):Int)/\gD pp h s w wr w.heap.size lv (.slice none 0 0) Ls [] Ls/\Ext w wr/\Hid (je s.D R Ls k []/\∀r,r∈R->r∈Ls)/\Hid (Ls.length<=s.D.length)) (λ_ kk _ _ _=>s.D.length+1-(intOf kk).toNat)
   case atStart=>exact⟨0,Ls,az _,rfl,hm,hx,HI0,pU⟩
   case round=>
    clear hm hx HI0 pU;obtain⟨k,Ls,hk,rfl,hm,hx,HI,pU⟩:=hrel;have TE:Ls.length<=900000:=(by have:=pU.out;omega);have hwr:=hx.size;by_cases hlt:k<Ls.length
    .have h1:((k:Nat):Int)<((Ls.length:Nat):Int):=by omega
     obtain⟨gq,cq,rfl,hqc,hqm,uM⟩:=iB hm.q (by omega);have hck:=uM k (by omega);obtain⟨x,hxe⟩:∃x,x=Ls[k]:=⟨_,rfl⟩;have e0:((dx Ls).map (Value.int .i64))[k]?=some (.int .i64 (x:Int)):=(by rw[hxe];simp[dx,hlt]);rw[e0]at hck;have hxL:x∈Ls:=(by rw[hxe];exact ah hlt);have Va:x<s.D.length:=M7 Fq.out hR HI.out.1.reach x hxL;have Fv:Hid (DC R Ls k x):=aH ⟨HI.out.2,hlt,by rw[hxe];simp[List.getD,hlt]⟩;obtain⟨r0,hr0,hrx⟩:=HI.out.1.reach x hxL;have adC:=aH (λy (hy:y∈opt s.D true x)=>(⟨r0,hr0,vJ hrx hy⟩:∃r,r∈R/\bz.Reach s.D r y));have adB:=aH (λy (hy:y∈opt s.D false x)=>(⟨r0,hr0,vJ hrx hy⟩:∃r,r∈R/\bz.Reach s.D r y));have adE:=aH (λy (hy:y∈opt s.D true x)=>(by have:=kE Fq.out hy;omega:y<s.D.length));have adD:=aH (λy (hy:y∈opt s.D false x)=>(by have:=kE Fq.out hy;omega:y<s.D.length));have hol:=oK hP.good (left:=true) (f:=x);have hor:=oK hP.good (left:=false) (f:=x);obtain⟨gr,Uo,aR,cR,wQ,Zc,pQ,JS,hSR⟩:=hP.pM Va;obtain⟨gl,Ur,aL,cL,ze,Zf,Ze,JU,sw⟩:=hP.qR Va;replace wQ:=(hx.cell (lt_of_cell wQ)).trans wQ;replace ze:=(hx.cell (lt_of_cell ze)).trans ze;replace JS:=(hx.cell (lt_of_cell JS)).trans JS;replace JU:=(hx.cell (lt_of_cell JU)).trans JU;rw[<-(o8 Va).1]at JU sw;rw[<-(o8 Va).2]at JS hSR;have HIM:=aH (show je s.D R Ls k (sS s.D x 0) by simpa [sS]using HI.out.1);obtain⟨OL,hOL⟩:∃O,O=opt s.D true x:=⟨_,rfl⟩;obtain⟨OR,hOR⟩:∃O,O=opt s.D false x:=⟨_,rfl⟩;have HMO:Hid (sS s.D x 1=OL/\sS s.D x 2=OL++OR):=aH ⟨by simp[sS,hOL],by simp[sS,hOL,hOR]⟩;rw[<-hOL]at JU sw adC adE hol;rw[<-hOR]at JS hSR adB adD hor;have sw:=aH sw;have hSR:=aH hSR;clear uM e0 hxe hxL hr0 hrx HI hOL hOR;have ix0:=λW:World=>aeY W aL aR OL.length OR.length cL cR
     have ix1:=λW:World=>aeX W aL aR OL.length OR.length cL cR
     go_upto_region 13 with fail
     go_quiet (fail)
     generalize hW1:wr.drewN nq=W1;have hd1:Ext wr W1:=(by rw[<-hW1];exact bS ⟨_,rfl⟩);have hm1:=hm.ext hd1;have hx1:=ay hx hd1;clear hW1 hd1 hm hx hck JU JS ze wQ;go_wp2
     go_loopw [6,11,13,60] (λlv _ _ ii wr=>∃(si:Nat) (Ls:List Nat),si<=2/\ii=.int .i64 ((si:Nat):Int)/\gD pp h s w wr w.heap.size lv (.slice none 0 0) Ls [] Ls/\Ext w wr/\Hid (je s.D R Ls k (sS s.D x si))/\Hid (Ls.length<=s.D.length)/\Hid (DC R Ls k x)) (λ_ _ _ ii _=>2-(intOf ii).toNat)
     case atStart=>exact⟨0,Ls,az _,rfl,hm1,hx1,HIM,pU,Fv⟩
     case round=>
      clear hm1 hx1 HIM pU Fv;obtain⟨si,Ls,hsi,rfl,hm,hx,HI,pU,Fv⟩:=hrel;rcases Es hsi with rfl|rfl|rfl
      .have HI:Hid (je s.D R Ls k []):=aH (by simpa [sS]using HI.out)
       obtain⟨wq,rfl⟩:∃wq:World,wq=wr:=⟨_,rfl⟩;go_wp2
       go_loopw [6,13,65] (λlv _ ii wr=>∃(q:Nat) (Ls:List Nat),q<=OL.length/\ii=.int .i64 ((q:Nat):Int)/\gD pp h s w wr w.heap.size lv (.slice none 0 0) Ls [] Ls/\Ext w wr/\Hid (je s.D R Ls k (OL.take q))/\Hid (Ls.length<=s.D.length)/\Hid (DC R Ls k x)) (λ_ _ ii _=>OL.length-(intOf ii).toNat)
       case atStart=>exact⟨0,Ls,az _,rfl,hm,hx,by simpa [Hid]using HI.out,pU,Fv⟩
       case round=>
        clear hm hx HI pU Fv;obtain⟨q,Ls,hq,rfl,hm,hx,HI,pU,Fv⟩:=hrel;have TE:Ls.length<=900000:=(by have:=pU.out;omega);have hwr:=hx.size;by_cases VX:q<OL.length
        .have h2:((q:Nat):Int)<((OL.length:Nat):Int):=by omega
         obtain⟨-,hln,hcl⟩:=kD.at (sw.out.ext hx);obtain⟨b,off,rfl,hcell⟩:=hcl (by omega);have hck:=hcell q VX;have hyD:=adE.out _ (ah VX);obtain⟨y,hy⟩:∃y,y=OL[q]:=⟨_,rfl⟩;have htk:OL.take (q+1)=OL.take q++[y]:=(by rw[hy];exact bg VX);have hyR:∃r,r∈R/\bz.Reach s.D r y:=(by rw[hy];exact adC.out _ (ah VX));rw[<-hy]at hck hyD;have wN:=hm.look (x:=y) (by omega) wr rfl;obtain⟨aq,cq,rfl,hqc,_⟩:=bD hm.q;have Qr:=aH htk;have HYR:=aH hyR;clear hcl hcell hy htk hyR;by_cases hin:y∈Ls
         .simp only[hin,decide_true]at wN
          have zt:=aH hin;clear hin;go_wp2
          go_roundw
          case rel=>exact⟨q+1,Ls,by omega,by go_num,hm,hx,by have:=HI.out.have zt.out;rw[Qr.out];simpa [Hid,bY]using this,pU,Fv⟩
          case measure=>simp[intOf];omega
         .simp only[hin,decide_false]at wN
          have zt:=aH hin;have hkl:=Fv.out.2.1;clear hin;obtain⟨fm,hM,hfm⟩:=hm.seen;have Xq:=aH hfm;have hki:=qj y (by omega);have Yj:=aH (HI.out.add (Nat.le_of_lt hkl) zt.out HYR.out);have UX:=aH (Yj.out.len Fq.out hR);have Qm:=hP.ext hx;clear hfm
          go_wp2_with (first
           |(at_builtin;refine bQ rfl (.tmp 75) (.tmp 77) 80 rfl w.heap.size 3 i0 (.int .i64 0) 1 8 underlying80 hi0 hz0 hz1 hz2 rfl (by decide) (.slice aq Ls.length cq) Ls.length _ rfl (AV.q.alloc _) _ 1 _ [.int .i64 (y:Int)] rfl rfl (.inr ⟨_,rfl,cK (bP _ _ _)⟩) one_cell (by unfold maxLen;omega) (by omega) (by rw[fw];have:=hx3.size;omega) ?_;intro v5 w5 fI hg5 hl5)
           |(at_mapUpdate;refine iT rfl _ _ _ 187 rfl 3 4 oD underlying187 w.heap.size Ls.length fm rfl hM (by unfold maxLen;omega) (.int .i64 (y:Int)) (.bool true) rfl rfl hki ?_;intro w3 Gi hg3;have AV:=hm.mark Xq.out Gi hg3;have hx3:=dZ hx hg3 (λb hb=>by injection hb with hb;rw[<-hb];exact ai _)))
          have Jw:=AV.push (news:=[y]) (hP.ext hx3) (bK (Below.refl _ _) _) hg5 fI (by simp) (by rw[kZ,aU];rfl) hl5;have hx5:=dZ (bK hx3 _) hg5 (λb hb=>(AV.q.lt b hb).1);go_roundw
          case rel=>exact⟨v5,_,_,_,_,_,_,_,_,_,_,_,_,_,_,_,_,⟨q+1,Ls++[y],by omega,by go_num,Jw,hx5,by have:=Yj.out;rw[Qr.out];simpa [Hid,bY]using this,UX,Fv.out.add y⟩,rfl⟩
          case measure=>simp[intOf];omega
        .have h2:¬(((q:Nat):Int)<((OL.length:Nat):Int)):=by omega
         have hqe:q=OL.length:=(by omega);subst hqe;rw[dz]at HI;go_wp2
         go_roundw
         case rel=>exact⟨1,Ls,by omega,by go_num,hm,hx,by rw[HMO.out.1];exact HI,pU,Fv⟩
         case measure=>simp[intOf]
      .have HI:Hid (je s.D R Ls k OL):=by rw[<-HMO.out.1];exact HI
       obtain⟨wq,rfl⟩:∃wq:World,wq=wr:=⟨_,rfl⟩;go_wp2
       go_loopw [6,13,65] (λlv _ ii wr=>∃(q:Nat) (Ls:List Nat),q<=OR.length/\ii=.int .i64 ((q:Nat):Int)/\gD pp h s w wr w.heap.size lv (.slice none 0 0) Ls [] Ls/\Ext w wr/\Hid (je s.D R Ls k (OL++OR.take q))/\Hid (Ls.length<=s.D.length)/\Hid (DC R Ls k x)) (λ_ _ ii _=>OR.length-(intOf ii).toNat)
       case atStart=>exact⟨0,Ls,az _,rfl,hm,hx,by simpa [Hid]using HI.out,pU,Fv⟩
       case round=>
        clear hm hx HI pU Fv;obtain⟨q,Ls,hq,rfl,hm,hx,HI,pU,Fv⟩:=hrel;have TE:Ls.length<=900000:=(by have:=pU.out;omega);have hwr:=hx.size;by_cases VX:q<OR.length
        .have h2:((q:Nat):Int)<((OR.length:Nat):Int):=by omega
         obtain⟨-,hln,hcl⟩:=kD.at (hSR.out.ext hx);obtain⟨b,off,rfl,hcell⟩:=hcl (by omega);have hck:=hcell q VX;have hyD:=adD.out _ (ah VX);obtain⟨y,hy⟩:∃y,y=OR[q]:=⟨_,rfl⟩;have htk:OR.take (q+1)=OR.take q++[y]:=(by rw[hy];exact bg VX);have hyR:∃r,r∈R/\bz.Reach s.D r y:=(by rw[hy];exact adB.out _ (ah VX));rw[<-hy]at hck hyD;have wN:=hm.look (x:=y) (by omega) wr rfl;obtain⟨aq,cq,rfl,hqc,_⟩:=bD hm.q;have Qr:=aH htk;have HYR:=aH hyR;clear hcl hcell hy htk hyR;by_cases hin:y∈Ls
         .simp only[hin,decide_true]at wN
          have zt:=aH hin;clear hin;go_wp2
          go_roundw
          case rel=>exact⟨q+1,Ls,by omega,by go_num,hm,hx,by have:=HI.out.have zt.out;rw[Qr.out];simpa [Hid,bY]using this,pU,Fv⟩
          case measure=>simp[intOf];omega
         .simp only[hin,decide_false]at wN
          have zt:=aH hin;have hkl:=Fv.out.2.1;clear hin;obtain⟨fm,hM,hfm⟩:=hm.seen;have Xq:=aH hfm;have hki:=qj y (by omega);have Yj:=aH (HI.out.add (Nat.le_of_lt hkl) zt.out HYR.out);have UX:=aH (Yj.out.len Fq.out hR);have Qm:=hP.ext hx;clear hfm
          go_wp2_with (first
           |(at_builtin;refine bQ rfl (.tmp 75) (.tmp 77) 80 rfl w.heap.size 3 i0 (.int .i64 0) 1 8 underlying80 hi0 hz0 hz1 hz2 rfl (by decide) (.slice aq Ls.length cq) Ls.length _ rfl (AV.q.alloc _) _ 1 _ [.int .i64 (y:Int)] rfl rfl (.inr ⟨_,rfl,cK (bP _ _ _)⟩) one_cell (by unfold maxLen;omega) (by omega) (by rw[fw];have:=hx3.size;omega) ?_;intro v5 w5 fI hg5 hl5)
           |(at_mapUpdate;refine iT rfl _ _ _ 187 rfl 3 4 oD underlying187 w.heap.size Ls.length fm rfl hM (by unfold maxLen;omega) (.int .i64 (y:Int)) (.bool true) rfl rfl hki ?_;intro w3 Gi hg3;have AV:=hm.mark Xq.out Gi hg3;have hx3:=dZ hx hg3 (λb hb=>by injection hb with hb;rw[<-hb];exact ai _)))
          have Jw:=AV.push (news:=[y]) (hP.ext hx3) (bK (Below.refl _ _) _) hg5 fI (by simp) (by rw[kZ,aU];rfl) hl5;have hx5:=dZ (bK hx3 _) hg5 (λb hb=>(AV.q.lt b hb).1);go_roundw
          case rel=>exact⟨v5,_,_,_,_,_,_,_,_,_,_,_,_,_,_,_,_,⟨q+1,Ls++[y],by omega,by go_num,Jw,hx5,by have:=Yj.out;rw[Qr.out];simpa [Hid,bY]using this,UX,Fv.out.add y⟩,rfl⟩
          case measure=>simp[intOf];omega
        .have h2:¬(((q:Nat):Int)<((OR.length:Nat):Int)):=by omega
         have hqe:q=OR.length:=(by omega);subst hqe;rw[dz]at HI;go_wp2
         go_roundw
         case rel=>exact⟨2,Ls,by omega,by go_num,hm,hx,by rw[HMO.out.2];exact HI,pU,Fv⟩
         case measure=>simp[intOf]
      .have HI2:Hid (je s.D R Ls (k+1) []):=aH (by
        have:=HI.out;simp only[sS]at this;rw[<-Fv.out.2.2]at this;exact this.next)
       have hkl:=Fv.out.2.1;have TE:Ls.length<=900000:=(by have:=pU.out;omega);go_wp2
       go_roundw
       case rel=>exact⟨k+1,Ls,by omega,by go_num,hm,hx,aH ⟨HI2.out,Fv.out.1⟩,pU⟩
       case measure=>have:=pU.out;simp[intOf];omega
    .have h1:¬(((k:Nat):Int)<((Ls.length:Nat):Int)):=by omega
     have hke:k=Ls.length:=(by omega);subst hke;obtain⟨aq,cq,rfl,hqc,_⟩:=bD hm.q;go_wp2
     go_ret
     exact⟨_,Ls,rfl,hm.q,HI.out.1.nd,HI.out.1.all HI.out.2,hx⟩
end Go.Proofs.YteknjeohbcgpdaaGreatDoor