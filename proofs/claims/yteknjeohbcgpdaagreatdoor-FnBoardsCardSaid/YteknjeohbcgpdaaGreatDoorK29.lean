/-
  Contract of the program's parts: some games and all their subpositions.
-/
import Derived.Test.YteknjeohbcgpdaaGreatDoorK25
set_option maxRecDepth 100000
namespace Go.Proofs.YteknjeohbcgpdaaGreatDoor
open Tryz
open Go.RowKit
open bO (dH Nd vl Same Ge)
variable {D:dH} {R Ls more:List Nat} {k x:Nat}
def Rt(_pp _h:Nat)(s:iH)(R:List Nat)(w:World)(e:Ending)(w':World):Prop:=
 ∃v' Ls,e=.returned v'/\w'.ownsRow w.heap.size 3 1 v' Ls.length ((dD Ls).map (Value.int .i64))/\Ls.Nodup/\(∀j,j∈Ls↔∃r,r∈R/\bO.Reach s.D r j)/\Ext w w'
structure jb(D:dH)(R Ls:List Nat)(k:Nat)(more:List Nat):Prop where
 nd:Ls.Nodup
 reach:∀j,j∈Ls->∃r,r∈R/\bO.Reach D r j
 done:∀j (h:j<Ls.length),j<k->∀side x,x∈opt D side Ls[j]->x∈Ls
 more:∀x,x∈more->x∈Ls
theorem Oy(hD:bO.WF D)(hR:∀x,x∈R->x<D.length)(h:∀j,j∈Ls->∃r,r∈R/\bO.Reach D r j):∀j,j∈Ls->j<D.length:=λj hj=>by
 obtain⟨r,hr,hj⟩:=h j hj;have:=bO.mP hD hj;have:=hR r hr;omega
theorem jb.len(hD:bO.WF D)(hR:∀x,x∈R->x<D.length)(h:jb D R Ls k more):Ls.length<=D.length:=jI h.nd (Oy hD hR h.reach)
theorem jb.have(h:jb D R Ls k more)(hx:x∈Ls):jb D R Ls k (more++[x]):=
 ⟨h.nd,h.reach,h.done,λy hy=>by rcases bq.1 hy with hy|hy;exact h.more y hy;simp at hy;subst hy;exact hx⟩
theorem jb.add(h:jb D R Ls k more)(hk:k<=Ls.length)(hx:x ∉ Ls)(hr:∃r,r∈R/\bO.Reach D r x):jb D R (Ls++[x]) k (more++[x]):=by
 refine⟨?_,λj hj=>?_,λj hj hjk side y hy=>?_,λy hy=>?_⟩
 .rw[l5];exact⟨h.nd,by simp,λa ha b hb=>by simp at hb;subst hb;rintro rfl;exact hx ha⟩
 .rcases bq.1 hj with hj|hj
  .exact h.reach j hj
  .simp at hj;subst hj;exact hr
 .have hjl:j<Ls.length:=by omega
  rw[dw hjl]at hy;exact bq.2 (.inl (h.done j hjl hjk side y hy))
 .rcases bq.1 hy with hy|hy
  .exact bq.2 (.inl (h.more y hy))
  .exact bq.2 (.inr hy)
theorem jb.next(h:jb D R Ls k (opt D true (Ls.getD k 0)++opt D false (Ls.getD k 0))):jb D R Ls (k+1) []:=by
 refine⟨h.nd,h.reach,λj hj hjk side x hx=>?_,by simp⟩;by_cases e:j=k
 .subst e
  refine h.more x (bq.2 ?_);have:Ls.getD j 0=Ls[j]:=by simp[List.getD,hj]
  rw[this];cases side
  .exact .inr hx
  .exact .inl hx
 .exact h.done j hj (by omega) side x hx
theorem jb.all(h:jb D R Ls Ls.length more)(hR:∀r,r∈R->r∈Ls):∀j,j∈Ls↔∃r,r∈R/\bO.Reach D r j:=by
 have um:∀i side x,i∈Ls->x∈opt D side i->x∈Ls:=λi side x hi hx=>by
  obtain⟨j,hj,rfl⟩:=aW.1 hi;exact h.done j hj hj side x hx
 have key:∀{r j:Nat},bO.Reach D r j->r∈R->j∈Ls:=λ{r j} hj hr=>by
  induction hj with
  |here=>exact hR r hr
  |left _ hd hk ih=>exact um _ true _ ih (by simp[opt,hd];exact hk)
  |right _ hd hk ih=>exact um _ false _ ih (by simp[opt,hd];exact hk)
 exact λj=>⟨h.reach j,λ⟨r,hr,hj⟩=>key hj hr⟩
theorem Mq{pp h:Nat}{s:iH}{w:World}(hP:dz w pp h s):gH pp h s w ((w.alloc (.map #[] 0)).alloc (.cells #[] 3)) w.heap.size (.slice (some ⟨w.heap.size+1,0,none⟩) 0 0) (.slice none 0 0) [] [] []:=by
 have z1:(w.alloc (.map #[] 0)).heap.size=w.heap.size+1:=eQ _ _;refine⟨?_,⟨by simp[dD],.inl ⟨rfl,rfl⟩⟩,⟨λ_=>none,?_,λx=>by simp⟩,ay _,by simp[Value.ownBlock],by simp[Value.ownBlock],by simp[Value.ownBlock],?_⟩
 .have:=fZ (w.alloc (.map #[] 0)) w.heap.size (by omega) 3
  rw[z1]at this;simpa [dD]using this
 .refine gz.made _ _ (c:=0) ?_
  rw[Below.heap_alloc _ _ _ (by omega)];exact alloc_at rfl
 .intro b hb
  have:w.heap.size<=b/\b<=w.heap.size+1:=by
   rcases hb with rfl|hb|hb
   .omega
   .simp[Value.ownBlock]at hb;omega
   .simp[Value.ownBlock]at hb
  exact⟨by rw[eQ,z1];omega,hP.new this.1⟩
def Eo(R Ls:List Nat)(k x:Nat):Prop:=(∀r,r∈R->r∈Ls)/\k<Ls.length/\Ls.getD k 0=x
theorem Eo.add(h:Eo R Ls k x)(y:Nat):Eo R (Ls++[y]) k x:=
 ⟨λr hr=>bq.2 (.inl (h.1 r hr)),by have:=h.2.1;simp;omega,by rw[<-h.2.2];simp[List.getD,dN h.2.1]⟩
theorem aiR(W:World)(a b:Option Addr)(n m c d:Nat):(Instr.index 177 (.agg #[.slice a n c,.slice b m d]) (.int .i64 0)).run prog W=.ok (.slice a n c) W:=by kernel_rfl
theorem aiQ(W:World)(a b:Option Addr)(n m c d:Nat):(Instr.index 177 (.agg #[.slice a n c,.slice b m d]) (.int .i64 1)).run prog W=.ok (.slice b m d) W:=by kernel_rfl
theorem EZ{n:Nat}(h:n<=2):n=0\/n=1\/n=2:=by omega
def tQ(D:dH)(x:Nat)(n:Nat):List Nat:=if n=0 then []else if n=1 then opt D true x else opt D true x++opt D false x
set_option maxHeartbeats 4000000 in
theorem FH(pp h:Nat)(s:iH)(v:Value)(R:List Nat)(T:Nat->Prop)(w:World)(hP:dz w pp h s)(hR:∀x,x∈R->x<s.D.length)(hRl:R.length<=1000000)(hv:kg T w v R):
 Calls prog 117 #[.pointer (some ⟨pp,0,none⟩),v] w (Rt pp h s R w):=by
 have hds:=hP.small;have Gn:=aQ hP.good.wf;obtain⟨i0,hi0,hz0,hz1,hz2⟩:=info_parts iw;obtain⟨av,cv,rfl,-⟩:=id hv.out;rw[bJ]at hv ⊢;have hmk:=λw:World=>run_makeMap_plain (P:=prog) (w:=w) 187
 have hm0:=Mq hP;have hx0:Ext w ((w.alloc (.map #[] 0)).alloc (.cells #[] 3)):=by go_grown
 go_enter Tryz.func117,Tryz.ntmps117
 go_upto_region 3 with fail
 generalize (w.alloc (.map #[] 0)).alloc (.cells #[] 3)=W0 at *;go_wp2
 go_loopw [6,8,18] (λlv _ ii wr=>∃(k:Nat) (Ls:List Nat),k<=R.length/\ii=.int .i64 ((k:Nat):Int)/\gH pp h s w wr w.heap.size lv (.slice none 0 0) Ls [] Ls/\Ext w wr/\Hid (jb s.D R Ls 0 (R.take k))/\Hid (Ls.length<=s.D.length)) (λ_ _ ii _=>R.length-(intOf ii).toNat)
 case atStart=>exact⟨0,[],aJ _,rfl,hm0,hx0,aQ ⟨List.nodup_nil,by simp,by simp,by simp⟩,aJ _⟩
 case round=>
  clear hm0;obtain⟨k,Ls,hk,rfl,hm,hx,HI,qJ⟩:=hrel;have VA:Ls.length<=900000:=by have:=qJ.out;omega
  have hwr:=hx.size;by_cases hlt:k<R.length
  .have h1:((k:Nat):Int)<((R.length:Nat):Int):=by omega
   obtain⟨-,hln,hcl⟩:=kg.at (hv.ext hx);obtain⟨b,off,rfl,hcell⟩:=hcl (by omega);have hck:=hcell k hlt;have hxR:=hR _ (ai hlt);obtain⟨x,hxe⟩:∃x,x=R[k]:=⟨_,rfl⟩;have htk:R.take (k+1)=R.take k++[x]:=(by rw[hxe];exact bg hlt);have hxm:x∈R:=(by rw[hxe];exact ai hlt);rw[<-hxe]at hck hxR;have xH:=hm.look (x:=x) (by omega) wr rfl;obtain⟨aq,cq,rfl,hqc,_⟩:=bH hm.q;have wH:=aQ htk;have HV:=aQ hv;have HXM:=aQ hxm;clear hcl hcell hxe htk hv hxm;by_cases hin:x∈Ls
   .simp only[hin,decide_true]at xH
    have xO:=aQ hin;clear hin;go_wp2
    go_roundw
    case rel=>exact⟨k+1,Ls,by omega,by go_num,hm,hx,by rw[wH.out];exact aQ (HI.out.have xO.out),qJ⟩
    case measure=>simp[intOf];omega
   .simp only[hin,decide_false]at xH
    have xO:=aQ hin;clear hin;obtain⟨fm,hM,hfm⟩:=hm.seen;have Z9:=aQ hfm;have hki:=qz x (by omega);have HI5:=aQ (HI.out.add (aJ _) xO.out ⟨x,HXM.out,.here⟩);have Xk:=aQ (HI5.out.len Gn.out hR);have RY:=hP.ext hx;clear hfm
    go_wp2_with (first
     |(at_builtin;refine dC rfl (.tmp 28) (.tmp 30) 80 rfl w.heap.size 3 i0 (.int .i64 0) 1 8 underlying80 hi0 hz0 hz1 hz2 rfl (by decide) (.slice aq Ls.length cq) Ls.length _ rfl (IP.q.alloc _) _ 1 _ [.int .i64 (x:Int)] rfl rfl (.inr ⟨_,rfl,dJ (dh _ _ _)⟩) one_cell (by unfold maxLen;omega) (by omega) (by rw[eQ];have:=hx3.size;omega) ?_;intro v5 w5 iT hg5 hl5)
     |(at_mapUpdate;refine iK rfl _ _ _ 187 rfl 3 4 oG underlying187 w.heap.size Ls.length fm rfl hM (by unfold maxLen;omega) (.int .i64 (x:Int)) (.bool true) rfl rfl hki ?_;intro w3 yK hg3;have IP:=hm.mark Z9.out yK hg3;have hx3:=dS hx hg3 (λb hb=>by injection hb with hb;rw[<-hb];exact ay _)))
    have Kj:=IP.push (news:=[x]) (hP.ext hx3) (bS (Below.refl _ _) _) hg5 iT (by simp) (by rw[kT,bG];rfl) hl5;have hx5:=dS (bS hx3 _) hg5 (λb hb=>(IP.q.lt b hb).1);go_roundw
    case rel=>exact⟨k+1,Ls++[x],by omega,by go_num,Kj,hx5,by rw[wH.out];exact HI5,Xk⟩
    case measure=>simp[intOf];omega
  .have h1:¬(((k:Nat):Int)<((R.length:Nat):Int)):=by omega
   have hke:k=R.length:=(by omega);subst hke;rw[dB]at HI;obtain⟨wo,rfl⟩:∃wo:World,wo=wr:=⟨_,rfl⟩;have HI0:=aQ (show jb s.D R Ls 0 []/\∀r,r∈R->r∈Ls from⟨⟨HI.out.nd,HI.out.reach,HI.out.done,by simp⟩,HI.out.more⟩);clear HI hv;go_wp2
   go_loopw [6,9,11,13] (λlv kk _ _ wr=>∃(k:Nat) (Ls:List Nat),k<=Ls.length/\kk=.int .i64 ((k:Nat):Int)/\gH pp h s w wr w.heap.size lv (.slice none 0 0) Ls [] Ls/\Ext w wr/\Hid (jb s.D R Ls k []/\∀r,r∈R->r∈Ls)/\Hid (Ls.length<=s.D.length)) (λ_ kk _ _ _=>s.D.length+1-(intOf kk).toNat)
   case atStart=>exact⟨0,Ls,aJ _,rfl,hm,hx,HI0,qJ⟩
   case round=>
    clear hm hx HI0 qJ;obtain⟨k,Ls,hk,rfl,hm,hx,HI,qJ⟩:=hrel;have VA:Ls.length<=900000:=(by have:=qJ.out;omega);have hwr:=hx.size;by_cases hlt:k<Ls.length
    .have h1:((k:Nat):Int)<((Ls.length:Nat):Int):=by omega
     obtain⟨gq,cq,rfl,hqc,hqm,vL⟩:=gV hm.q (by omega);have hck:=vL k (by omega);obtain⟨x,hxe⟩:∃x,x=Ls[k]:=⟨_,rfl⟩;have e0:((dD Ls).map (Value.int .i64))[k]?=some (.int .i64 (x:Int)):=(by rw[hxe];simp[dD,hlt]);rw[e0]at hck;have hxL:x∈Ls:=(by rw[hxe];exact ai hlt);have XI:x<s.D.length:=Oy Gn.out hR HI.out.1.reach x hxL;have Gp:Hid (Eo R Ls k x):=aQ ⟨HI.out.2,hlt,by rw[hxe];simp[List.getD,hlt]⟩;obtain⟨r0,hr0,hrx⟩:=HI.out.1.reach x hxL;have ahe:=aQ (λy (hy:y∈opt s.D true x)=>(⟨r0,hr0,wP hrx hy⟩:∃r,r∈R/\bO.Reach s.D r y));have ahd:=aQ (λy (hy:y∈opt s.D false x)=>(⟨r0,hr0,wP hrx hy⟩:∃r,r∈R/\bO.Reach s.D r y));have ahg:=aQ (λy (hy:y∈opt s.D true x)=>(by have:=ku Gn.out hy;omega:y<s.D.length));have ahf:=aQ (λy (hy:y∈opt s.D false x)=>(by have:=ku Gn.out hy;omega:y<s.D.length));have hol:=oN hP.good (left:=true) (f:=x);have hor:=oN hP.good (left:=false) (f:=x);obtain⟨gr,Ws,aR,cR,xK,acn,qa,KP,hSR⟩:=hP.pV XI;obtain⟨gl,Wu,aL,cL,zU,acr,acp,KQ,tu⟩:=hP.rG XI;replace xK:=(hx.cell (lt_of_cell xK)).trans xK;replace zU:=(hx.cell (lt_of_cell zU)).trans zU;replace KP:=(hx.cell (lt_of_cell KP)).trans KP;replace KQ:=(hx.cell (lt_of_cell KQ)).trans KQ;rw[<-(o9 XI).1]at KQ tu;rw[<-(o9 XI).2]at KP hSR;have HIM:=aQ (show jb s.D R Ls k (tQ s.D x 0) by simpa [tQ]using HI.out.1);obtain⟨OL,hOL⟩:∃O,O=opt s.D true x:=⟨_,rfl⟩;obtain⟨OR,hOR⟩:∃O,O=opt s.D false x:=⟨_,rfl⟩;have HMO:Hid (tQ s.D x 1=OL/\tQ s.D x 2=OL++OR):=aQ ⟨by simp[tQ,hOL],by simp[tQ,hOL,hOR]⟩;rw[<-hOL]at KQ tu ahe ahg hol;rw[<-hOR]at KP hSR ahd ahf hor;have tu:=aQ tu;have hSR:=aQ hSR;clear vL e0 hxe hxL hr0 hrx HI hOL hOR;have ix0:=λW:World=>aiR W aL aR OL.length OR.length cL cR
     have ix1:=λW:World=>aiQ W aL aR OL.length OR.length cL cR
     go_upto_region 13 with fail
     go_quiet (fail)
     generalize hW1:wr.drewN nq=W1;have hd1:Ext wr W1:=(by rw[<-hW1];exact eU ⟨_,rfl⟩);have hm1:=hm.ext hd1;have hx1:=ax hx hd1;clear hW1 hd1 hm hx hck KQ KP zU xK;go_wp2
     go_loopw [6,11,13,60] (λlv _ _ ii wr=>∃(si:Nat) (Ls:List Nat),si<=2/\ii=.int .i64 ((si:Nat):Int)/\gH pp h s w wr w.heap.size lv (.slice none 0 0) Ls [] Ls/\Ext w wr/\Hid (jb s.D R Ls k (tQ s.D x si))/\Hid (Ls.length<=s.D.length)/\Hid (Eo R Ls k x)) (λ_ _ _ ii _=>2-(intOf ii).toNat)
     case atStart=>exact⟨0,Ls,aJ _,rfl,hm1,hx1,HIM,qJ,Gp⟩
     case round=>
      clear hm1 hx1 HIM qJ Gp;obtain⟨si,Ls,hsi,rfl,hm,hx,HI,qJ,Gp⟩:=hrel;rcases EZ hsi with rfl|rfl|rfl
      .have HI:Hid (jb s.D R Ls k []):=aQ (by simpa [tQ]using HI.out)
       obtain⟨wq,rfl⟩:∃wq:World,wq=wr:=⟨_,rfl⟩;go_wp2
       go_loopw [6,13,65] (λlv _ ii wr=>∃(q:Nat) (Ls:List Nat),q<=OL.length/\ii=.int .i64 ((q:Nat):Int)/\gH pp h s w wr w.heap.size lv (.slice none 0 0) Ls [] Ls/\Ext w wr/\Hid (jb s.D R Ls k (OL.take q))/\Hid (Ls.length<=s.D.length)/\Hid (Eo R Ls k x)) (λ_ _ ii _=>OL.length-(intOf ii).toNat)
       case atStart=>exact⟨0,Ls,aJ _,rfl,hm,hx,by simpa [Hid]using HI.out,qJ,Gp⟩
       case round=>
        clear hm hx HI qJ Gp;obtain⟨q,Ls,hq,rfl,hm,hx,HI,qJ,Gp⟩:=hrel;have VA:Ls.length<=900000:=(by have:=qJ.out;omega);have hwr:=hx.size;by_cases YQ:q<OL.length
        .have h2:((q:Nat):Int)<((OL.length:Nat):Int):=by omega
         obtain⟨-,hln,hcl⟩:=kg.at (tu.out.ext hx);obtain⟨b,off,rfl,hcell⟩:=hcl (by omega);have hck:=hcell q YQ;have hyD:=ahg.out _ (ai YQ);obtain⟨y,hy⟩:∃y,y=OL[q]:=⟨_,rfl⟩;have htk:OL.take (q+1)=OL.take q++[y]:=(by rw[hy];exact bg YQ);have hyR:∃r,r∈R/\bO.Reach s.D r y:=(by rw[hy];exact ahe.out _ (ai YQ));rw[<-hy]at hck hyD;have xH:=hm.look (x:=y) (by omega) wr rfl;obtain⟨aq,cq,rfl,hqc,_⟩:=bH hm.q;have wH:=aQ htk;have HYR:=aQ hyR;clear hcl hcell hy htk hyR;by_cases hin:y∈Ls
         .simp only[hin,decide_true]at xH
          have xO:=aQ hin;clear hin;go_wp2
          go_roundw
          case rel=>exact⟨q+1,Ls,by omega,by go_num,hm,hx,by have:=HI.out.have xO.out;rw[wH.out];simpa [Hid,dA]using this,qJ,Gp⟩
          case measure=>simp[intOf];omega
         .simp only[hin,decide_false]at xH
          have xO:=aQ hin;have hkl:=Gp.out.2.1;clear hin;obtain⟨fm,hM,hfm⟩:=hm.seen;have Z9:=aQ hfm;have hki:=qz y (by omega);have HI5:=aQ (HI.out.add (Nat.le_of_lt hkl) xO.out HYR.out);have Xk:=aQ (HI5.out.len Gn.out hR);have RY:=hP.ext hx;clear hfm
          go_wp2_with (first
           |(at_builtin;refine dC rfl (.tmp 75) (.tmp 77) 80 rfl w.heap.size 3 i0 (.int .i64 0) 1 8 underlying80 hi0 hz0 hz1 hz2 rfl (by decide) (.slice aq Ls.length cq) Ls.length _ rfl (IP.q.alloc _) _ 1 _ [.int .i64 (y:Int)] rfl rfl (.inr ⟨_,rfl,dJ (dh _ _ _)⟩) one_cell (by unfold maxLen;omega) (by omega) (by rw[eQ];have:=hx3.size;omega) ?_;intro v5 w5 iT hg5 hl5)
           |(at_mapUpdate;refine iK rfl _ _ _ 187 rfl 3 4 oG underlying187 w.heap.size Ls.length fm rfl hM (by unfold maxLen;omega) (.int .i64 (y:Int)) (.bool true) rfl rfl hki ?_;intro w3 yK hg3;have IP:=hm.mark Z9.out yK hg3;have hx3:=dS hx hg3 (λb hb=>by injection hb with hb;rw[<-hb];exact ay _)))
          have Kj:=IP.push (news:=[y]) (hP.ext hx3) (bS (Below.refl _ _) _) hg5 iT (by simp) (by rw[kT,bG];rfl) hl5;have hx5:=dS (bS hx3 _) hg5 (λb hb=>(IP.q.lt b hb).1);go_roundw
          case rel=>exact⟨v5,_,_,_,_,_,_,_,_,_,_,_,_,_,_,_,_,⟨q+1,Ls++[y],by omega,by go_num,Kj,hx5,by have:=HI5.out;rw[wH.out];simpa [Hid,dA]using this,Xk,Gp.out.add y⟩,rfl⟩
          case measure=>simp[intOf];omega
        .have h2:¬(((q:Nat):Int)<((OL.length:Nat):Int)):=by omega
         have hqe:q=OL.length:=(by omega);subst hqe;rw[dB]at HI;go_wp2
         go_roundw
         case rel=>exact⟨1,Ls,by omega,by go_num,hm,hx,by rw[HMO.out.1];exact HI,qJ,Gp⟩
         case measure=>simp[intOf]
      .have HI:Hid (jb s.D R Ls k OL):=by rw[<-HMO.out.1];exact HI
       obtain⟨wq,rfl⟩:∃wq:World,wq=wr:=⟨_,rfl⟩;go_wp2
       go_loopw [6,13,65] (λlv _ ii wr=>∃(q:Nat) (Ls:List Nat),q<=OR.length/\ii=.int .i64 ((q:Nat):Int)/\gH pp h s w wr w.heap.size lv (.slice none 0 0) Ls [] Ls/\Ext w wr/\Hid (jb s.D R Ls k (OL++OR.take q))/\Hid (Ls.length<=s.D.length)/\Hid (Eo R Ls k x)) (λ_ _ ii _=>OR.length-(intOf ii).toNat)
       case atStart=>exact⟨0,Ls,aJ _,rfl,hm,hx,by simpa [Hid]using HI.out,qJ,Gp⟩
       case round=>
        clear hm hx HI qJ Gp;obtain⟨q,Ls,hq,rfl,hm,hx,HI,qJ,Gp⟩:=hrel;have VA:Ls.length<=900000:=(by have:=qJ.out;omega);have hwr:=hx.size;by_cases YQ:q<OR.length
        .have h2:((q:Nat):Int)<((OR.length:Nat):Int):=by omega
         obtain⟨-,hln,hcl⟩:=kg.at (hSR.out.ext hx);obtain⟨b,off,rfl,hcell⟩:=hcl (by omega);have hck:=hcell q YQ;have hyD:=ahf.out _ (ai YQ);obtain⟨y,hy⟩:∃y,y=OR[q]:=⟨_,rfl⟩;have htk:OR.take (q+1)=OR.take q++[y]:=(by rw[hy];exact bg YQ);have hyR:∃r,r∈R/\bO.Reach s.D r y:=(by rw[hy];exact ahd.out _ (ai YQ));rw[<-hy]at hck hyD;have xH:=hm.look (x:=y) (by omega) wr rfl;obtain⟨aq,cq,rfl,hqc,_⟩:=bH hm.q;have wH:=aQ htk;have HYR:=aQ hyR;clear hcl hcell hy htk hyR;by_cases hin:y∈Ls
         .simp only[hin,decide_true]at xH
          have xO:=aQ hin;clear hin;go_wp2
          go_roundw
          case rel=>exact⟨q+1,Ls,by omega,by go_num,hm,hx,by have:=HI.out.have xO.out;rw[wH.out];simpa [Hid,dA]using this,qJ,Gp⟩
          case measure=>simp[intOf];omega
         .simp only[hin,decide_false]at xH
          have xO:=aQ hin;have hkl:=Gp.out.2.1;clear hin;obtain⟨fm,hM,hfm⟩:=hm.seen;have Z9:=aQ hfm;have hki:=qz y (by omega);have HI5:=aQ (HI.out.add (Nat.le_of_lt hkl) xO.out HYR.out);have Xk:=aQ (HI5.out.len Gn.out hR);have RY:=hP.ext hx;clear hfm
          go_wp2_with (first
           |(at_builtin;refine dC rfl (.tmp 75) (.tmp 77) 80 rfl w.heap.size 3 i0 (.int .i64 0) 1 8 underlying80 hi0 hz0 hz1 hz2 rfl (by decide) (.slice aq Ls.length cq) Ls.length _ rfl (IP.q.alloc _) _ 1 _ [.int .i64 (y:Int)] rfl rfl (.inr ⟨_,rfl,dJ (dh _ _ _)⟩) one_cell (by unfold maxLen;omega) (by omega) (by rw[eQ];have:=hx3.size;omega) ?_;intro v5 w5 iT hg5 hl5)
           |(at_mapUpdate;refine iK rfl _ _ _ 187 rfl 3 4 oG underlying187 w.heap.size Ls.length fm rfl hM (by unfold maxLen;omega) (.int .i64 (y:Int)) (.bool true) rfl rfl hki ?_;intro w3 yK hg3;have IP:=hm.mark Z9.out yK hg3;have hx3:=dS hx hg3 (λb hb=>by injection hb with hb;rw[<-hb];exact ay _)))
          have Kj:=IP.push (news:=[y]) (hP.ext hx3) (bS (Below.refl _ _) _) hg5 iT (by simp) (by rw[kT,bG];rfl) hl5;have hx5:=dS (bS hx3 _) hg5 (λb hb=>(IP.q.lt b hb).1);go_roundw
          case rel=>exact⟨v5,_,_,_,_,_,_,_,_,_,_,_,_,_,_,_,_,⟨q+1,Ls++[y],by omega,by go_num,Kj,hx5,by have:=HI5.out;rw[wH.out];simpa [Hid,dA]using this,Xk,Gp.out.add y⟩,rfl⟩
          case measure=>simp[intOf];omega
        .have h2:¬(((q:Nat):Int)<((OR.length:Nat):Int)):=by omega
         have hqe:q=OR.length:=(by omega);subst hqe;rw[dB]at HI;go_wp2
         go_roundw
         case rel=>exact⟨2,Ls,by omega,by go_num,hm,hx,by rw[HMO.out.2];exact HI,qJ,Gp⟩
         case measure=>simp[intOf]
      .have HI2:Hid (jb s.D R Ls (k+1) []):=aQ (by
        have:=HI.out;simp only[tQ]at this;rw[<-Gp.out.2.2]at this;exact this.next)
       have hkl:=Gp.out.2.1;have VA:Ls.length<=900000:=(by have:=qJ.out;omega);go_wp2
       go_roundw
       case rel=>exact⟨k+1,Ls,by omega,by go_num,hm,hx,aQ ⟨HI2.out,Gp.out.1⟩,qJ⟩
       case measure=>have:=qJ.out;simp[intOf];omega
    .have h1:¬(((k:Nat):Int)<((Ls.length:Nat):Int)):=by omega
     have hke:k=Ls.length:=(by omega);subst hke;obtain⟨aq,cq,rfl,hqc,_⟩:=bH hm.q;go_wp2
     go_ret
     exact⟨_,Ls,rfl,hm.q,HI.out.1.nd,HI.out.1.all HI.out.2,hx⟩
end Go.Proofs.YteknjeohbcgpdaaGreatDoor