/- 32 -/
import Derived.Test.YtplgooajigigkaaGreatDoorQ30
set_option maxRecDepth 100000
set_option maxHeartbeats 4000000
namespace Go.Proofs.YtplgooajigigkaaGreatDoor
open Tryz
open Go.RowKit
open aZ (cZ Nd vl Same Ge)
variable {D:cZ} {R Ls more:List Nat} {k x:Nat}
def PT(_pp _h:Nat)(s:iK)(R:List Nat)(w:World)(e:Ending)(w':World):Prop:=
 ∃v' Ls,e=.returned v'/\w'.ownsRow w.heap.size 3 1 v' Ls.length ((bV Ls).map (Value.int .i64))/\Ls.Nodup/\(∀j,j∈Ls↔∃r,r∈R/\aZ.Reach s.D r j)/\Ext w w'
structure iC(D:cZ)(R Ls:List Nat)(k:Nat)(more:List Nat):Prop where
 nd:Ls.Nodup
 reach:∀j,j∈Ls->∃r,r∈R/\aZ.Reach D r j
 done:∀j (h:j<Ls.length),j<k->∀side x,x∈opt D side Ls[j]->x∈Ls
 more:∀x,x∈more->x∈Ls
theorem MW(hD:aZ.WF D)(hR:∀x,x∈R->x<D.length)(h:∀j,j∈Ls->∃r,r∈R/\aZ.Reach D r j):∀j,j∈Ls->j<D.length:=λj hj=>by
 obtain⟨r,hr,hj⟩:=h j hj;have:=aZ.mf hD hj;have:=hR r hr;omega
theorem iC.len(hD:aZ.WF D)(hR:∀x,x∈R->x<D.length)(h:iC D R Ls k more):Ls.length<=D.length:=iU h.nd (MW hD hR h.reach)
theorem iC.have(h:iC D R Ls k more)(hx:x∈Ls):iC D R Ls k (more++[x]):=
 ⟨h.nd,h.reach,h.done,λy hy=>by rcases aM.1 hy with hy|hy;exact h.more y hy;simp at hy;subst hy;exact hx⟩
theorem iC.add(h:iC D R Ls k more)(hk:k<=Ls.length)(hx:x ∉ Ls)(hr:∃r,r∈R/\aZ.Reach D r x):iC D R (Ls++[x]) k (more++[x]):=by
 refine⟨?_,λj hj=>?_,λj hj hjk side y hy=>?_,λy hy=>?_⟩
 .rw[jq];exact⟨h.nd,by simp,λa ha b hb=>by simp at hb;subst hb;rintro rfl;exact hx ha⟩
 .rcases aM.1 hj with hj|hj
  .exact h.reach j hj
  .simp at hj;subst hj;exact hr
 .have hjl:j<Ls.length:=by omega
  rw[dN hjl]at hy;exact aM.2 (.inl (h.done j hjl hjk side y hy))
 .rcases aM.1 hy with hy|hy
  .exact aM.2 (.inl (h.more y hy))
  .exact aM.2 (.inr hy)
theorem iC.next(h:iC D R Ls k (opt D true (Ls.getD k 0)++opt D false (Ls.getD k 0))):iC D R Ls (k+1) []:=by
 refine⟨h.nd,h.reach,λj hj hjk side x hx=>?_,by simp⟩;by_cases e:j=k
 .subst e
  refine h.more x (aM.2 ?_);have:Ls.getD j 0=Ls[j]:=by simp[List.getD,hj]
  rw[this];cases side
  .exact .inr hx
  .exact .inl hx
 .exact h.done j hj (by omega) side x hx
theorem iC.all(h:iC D R Ls Ls.length more)(hR:∀r,r∈R->r∈Ls):∀j,j∈Ls↔∃r,r∈R/\aZ.Reach D r j:=by
 have sV:∀i side x,i∈Ls->x∈opt D side i->x∈Ls:=λi side x hi hx=>by
  obtain⟨j,hj,rfl⟩:=aH.1 hi;exact h.done j hj hj side x hx
 have key:∀{r j:Nat},aZ.Reach D r j->r∈R->j∈Ls:=λ{r j} hj hr=>by
  induction hj with
  |here=>exact hR r hr
  |left _ hd hk ih=>exact sV _ true _ ih (by simp[opt,hd];exact hk)
  |right _ hd hk ih=>exact sV _ false _ ih (by simp[opt,hd];exact hk)
 exact λj=>⟨h.reach j,λ⟨r,hr,hj⟩=>key hj hr⟩
theorem Kr{pp h:Nat}{s:iK}{w:World}(hP:bX w pp h s):fA pp h s w ((w.alloc (.map #[] 0)).alloc (.cells #[] 3)) w.heap.size (.slice (some ⟨w.heap.size+1,0,none⟩) 0 0) (.slice none 0 0) [] [] []:=by
 have z1:(w.alloc (.map #[] 0)).heap.size=w.heap.size+1:=eX _ _;refine⟨?_,⟨by simp[bV],.inl ⟨rfl,rfl⟩⟩,⟨λ_=>none,?_,λx=>by simp⟩,ax _,by simp[Value.ownBlock],by simp[Value.ownBlock],by simp[Value.ownBlock],?_⟩
 .have:=gG (w.alloc (.map #[] 0)) w.heap.size (by omega) 3
  rw[z1]at this;simpa [bV]using this
 .refine fM.made _ _ (c:=0) ?_
  rw[gI _ _ _ (by omega)];exact alloc_at rfl
 .intro b hb
  have:w.heap.size<=b/\b<=w.heap.size+1:=by
   rcases hb with rfl|hb|hb
   .omega
   .simp[Value.ownBlock]at hb;omega
   .simp[Value.ownBlock]at hb
  exact⟨by rw[eX,z1];omega,hP.new this.1⟩
def CB(R Ls:List Nat)(k x:Nat):Prop:=(∀r,r∈R->r∈Ls)/\k<Ls.length/\Ls.getD k 0=x
theorem CB.add(h:CB R Ls k x)(y:Nat):CB R (Ls++[y]) k x:=
 ⟨λr hr=>aM.2 (.inl (h.1 r hr)),by have:=h.2.1;simp;omega,by rw[<-h.2.2];simp[List.getD,bQ h.2.1]⟩
theorem afL(W:World)(a b:Option Addr)(n m c d:Nat):(Instr.index 117 (.agg #[.slice a n c,.slice b m d]) (.int .i64 0)).run prog W=.ok (.slice a n c) W:=by kernel_rfl
theorem afK(W:World)(a b:Option Addr)(n m c d:Nat):(Instr.index 117 (.agg #[.slice a n c,.slice b m d]) (.int .i64 1)).run prog W=.ok (.slice b m d) W:=by kernel_rfl
theorem Dn{n:Nat}(h:n<=2):n=0\/n=1\/n=2:=by omega
def sw(D:cZ)(x:Nat)(n:Nat):List Nat:=if n=0 then []else if n=1 then opt D true x else opt D true x++opt D false x
theorem DN(pp h:Nat)(s:iK)(v:Value)(R:List Nat)(T:Nat->Prop)(w:World)(hP:bX w pp h s)(hR:∀x,x∈R->x<s.D.length)(hRl:R.length<=1000000)(hv:jB T w v R):
 Calls prog 123 #[.pointer (some ⟨pp,0,none⟩),v] w (PT pp h s R w):=by
 have hds:=hP.small;have VH:=aI hP.good.wf;obtain⟨i0,hi0,hz0,hz1,hz2⟩:=info_parts fB;obtain⟨av,cv,rfl,-⟩:=id hv.out;rw[aP]at hv ⊢;have hmk:=λw:World=>run_makeMap_plain (P:=prog) (w:=w) 196
 have hm0:=Kr hP;have hx0:Ext w ((w.alloc (.map #[] 0)).alloc (.cells #[] 3)):=by go_grown
 go_enter Tryz.func123,Tryz.ntmps123
 go_upto_region 3 with fail
 generalize (w.alloc (.map #[] 0)).alloc (.cells #[] 3)=W0 at *;go_wp2
 go_loopw [6,8,18] (λlv _ ii wr=>∃(k:Nat) (Ls:List Nat),k<=R.length/\ii=.int .i64 ((k:Nat):Int)/\fA pp h s w wr w.heap.size lv (.slice none 0 0) Ls [] Ls/\Ext w wr/\Hid (iC s.D R Ls 0 (R.take k))/\Hid (Ls.length<=s.D.length)) (λ_ _ ii _=>R.length-(intOf ii).toNat)
 case atStart=>exact⟨0,[],az _,rfl,hm0,hx0,aI ⟨List.nodup_nil,by simp,by simp,by simp⟩,az _⟩
 case round=>
  clear hm0;obtain⟨k,Ls,hk,rfl,hm,hx,HI,wK⟩:=hrel;have Vz:Ls.length<=900000:=by have:=wK.out;omega
  have hwr:=hx.size;by_cases hlt:k<R.length
  .have h1:((k:Nat):Int)<((R.length:Nat):Int):=by omega
   obtain⟨-,hln,hcl⟩:=jB.at (hv.ext hx);obtain⟨b,off,rfl,hcell⟩:=hcl (by omega);have hck:=hcell k hlt;have hxR:=hR _ (aj hlt);obtain⟨x,hxe⟩:=eu (R[k]);have htk:R.take (k+1)=R.take k++[x]:=(by rw[hxe];exact aW hlt);have hxm:x∈R:=(by rw[hxe];exact aj hlt);rw[<-hxe]at hck hxR;have vV:=hm.look (x:=x) (by omega) wr rfl;obtain⟨aq,cq,rfl,hqc,_⟩:=bu hm.q;have NQ:=aI htk;have HV:=aI hv;have HXM:=aI hxm;clear hcl hcell hxe htk hv hxm;by_cases hin:x∈Ls
   .simp only[hin,decide_true]at vV
    have yE:=aI hin;clear hin;go_wp2
    go_roundw
    case rel=>exact⟨k+1,Ls,by omega,by go_num,hm,hx,by rw[NQ.out];exact aI (HI.out.have yE.out),wK⟩
    case measure=>simp[intOf];omega
   .simp only[hin,decide_false]at vV
    have yE:=aI hin;clear hin;obtain⟨fm,hM,hfm⟩:=hm.seen;have Yj:=aI hfm;have hki:=qN x (by omega);have Zk:=aI (HI.out.add (az _) yE.out ⟨x,HXM.out,.here⟩);have U4:=aI (Zk.out.len VH.out hR);have Qh:=hP.ext hx;clear hfm
    go_wp2_with (first
     |(at_builtin;refine dm rfl (.tmp 28) (.tmp 30) 41 rfl w.heap.size 3 i0 (.int .i64 0) 1 8 underlying41 hi0 hz0 hz1 hz2 rfl (by decide) (.slice aq Ls.length cq) Ls.length _ rfl (Ga.q.alloc _) _ 1 _ [.int .i64 (x:Int)] rfl rfl (.inr ⟨_,rfl,dA (bY _ _ _)⟩) one_cell (by unfold maxLen;omega) (by omega) (by rw[eX];have:=hx3.size;omega) ?_;intro v5 w5 ji hg5 hl5)
     |(at_mapUpdate;refine iO rfl _ _ _ 196 rfl 3 4 oz underlying196 w.heap.size Ls.length fm rfl hM (by unfold maxLen;omega) (.int .i64 (x:Int)) (.bool true) rfl rfl hki ?_;intro w3 oD hg3;have Ga:=hm.mark Yj.out oD hg3;have hx3:=dw hx hg3 (λb hb=>by injection hb with hb;rw[<-hb];exact ax _)))
    have Xd:=Ga.push (news:=[x]) (hP.ext hx3) (bJ (fJ _ _) _) hg5 ji (by simp) (by rw[mq,bz];rfl) hl5;have hx5:=dw (bJ hx3 _) hg5 (λb hb=>(Ga.q.lt b hb).1);go_roundw
    case rel=>exact⟨k+1,Ls++[x],by omega,by go_num,Xd,hx5,by rw[NQ.out];exact Zk,U4⟩
    case measure=>simp[intOf];omega
  .have h1:¬(((k:Nat):Int)<((R.length:Nat):Int)):=by omega
   have hke:k=R.length:=(by omega);subst hke;rw[cO]at HI;obtain⟨wo,rfl⟩:∃wo:World,wo=wr:=⟨_,rfl⟩;have HI0:=aI (show iC s.D R Ls 0 []/\∀r,r∈R->r∈Ls from⟨⟨HI.out.nd,HI.out.reach,HI.out.done,by simp⟩,HI.out.more⟩);clear HI hv;go_wp2
   go_loopw [6,9,11,13] (λlv kk _ _ wr=>∃(k:Nat) (Ls:List Nat),k<=Ls.length/\kk=.int .i64 ((k:Nat):Int)/\fA pp h s w wr w.heap.size lv (.slice none 0 0) Ls [] Ls/\Ext w wr/\Hid (iC s.D R Ls k []/\∀r,r∈R->r∈Ls)/\Hid (Ls.length<=s.D.length)) (λ_ kk _ _ _=>s.D.length+1-(intOf kk).toNat)
   case atStart=>exact⟨0,Ls,az _,rfl,hm,hx,HI0,wK⟩
   case round=>
    clear hm hx HI0 wK;obtain⟨k,Ls,hk,rfl,hm,hx,HI,wK⟩:=hrel;have Vz:Ls.length<=900000:=(by have:=wK.out;omega);have hwr:=hx.size;by_cases hlt:k<Ls.length
    .have h1:((k:Nat):Int)<((Ls.length:Nat):Int):=by omega
     obtain⟨gq,cq,rfl,hqc,hqm,uM⟩:=gY hm.q (by omega);have hck:=uM k (by omega);obtain⟨x,hxe⟩:=eu (Ls[k]);have e0:((bV Ls).map (Value.int .i64))[k]?=some (.int .i64 (x:Int)):=(by rw[hxe];simp[bV,hlt]);rw[e0]at hck;have hxL:x∈Ls:=(by rw[hxe];exact aj hlt);have Sj:x<s.D.length:=MW VH.out hR HI.out.1.reach x hxL;have EB:Hid (CB R Ls k x):=aI ⟨HI.out.2,hlt,by rw[hxe];simp[List.getD,hlt]⟩;obtain⟨r0,hr0,hrx⟩:=HI.out.1.reach x hxL;have aeh:=aI (λy (hy:y∈opt s.D true x)=>(⟨r0,hr0,vk hrx hy⟩:∃r,r∈R/\aZ.Reach s.D r y));have aeg:=aI (λy (hy:y∈opt s.D false x)=>(⟨r0,hr0,vk hrx hy⟩:∃r,r∈R/\aZ.Reach s.D r y));have aej:=aI (λy (hy:y∈opt s.D true x)=>(by have:=jU VH.out hy;omega:y<s.D.length));have aei:=aI (λy (hy:y∈opt s.D false x)=>(by have:=jU VH.out hy;omega:y<s.D.length));have hol:=qA hP.good (left:=true) (f:=x);have hor:=qA hP.good (left:=false) (f:=x);obtain⟨gr,L8,aR,cR,xe,Lp,nK,Er,hSR⟩:=hP.oO Sj;obtain⟨gl,L9,aL,cL,xg,Lu,Lr,Es,yI⟩:=hP.qM Sj;replace xe:=dP hx xe;replace xg:=dP hx xg;replace Er:=dP hx Er;replace Es:=dP hx Es;rw[<-(ow Sj).1]at Es yI;rw[<-(ow Sj).2]at Er hSR;have HIM:=aI (show iC s.D R Ls k (sw s.D x 0) by simpa [sw]using HI.out.1);obtain⟨OL,Pq⟩:=eu (opt s.D true x);obtain⟨OR,Qi⟩:=eu (opt s.D false x);have HMO:Hid (sw s.D x 1=OL/\sw s.D x 2=OL++OR):=aI ⟨by simp[sw,Pq],by simp[sw,Pq,Qi]⟩;rw[<-Pq]at Es yI aeh aej hol;rw[<-Qi]at Er hSR aeg aei hor;have yI:=aI yI;have hSR:=aI hSR;clear uM e0 hxe hxL hr0 hrx HI Pq Qi;have ix0:=λW:World=>afL W aL aR OL.length OR.length cL cR
     have ix1:=λW:World=>afK W aL aR OL.length OR.length cL cR
     go_upto_region 13 with fail
     go_quiet (fail)
     generalize hW1:wr.drewN nq=W1;have hd1:Ext wr W1:=(by rw[<-hW1];exact dz ⟨_,rfl⟩);have hm1:=hm.ext hd1;have hx1:=ah hx hd1;clear hW1 hd1 hm hx hck Es Er xg xe;go_wp2
     go_loopw [6,11,13,60] (λlv _ _ ii wr=>∃(si:Nat) (Ls:List Nat),si<=2/\ii=.int .i64 ((si:Nat):Int)/\fA pp h s w wr w.heap.size lv (.slice none 0 0) Ls [] Ls/\Ext w wr/\Hid (iC s.D R Ls k (sw s.D x si))/\Hid (Ls.length<=s.D.length)/\Hid (CB R Ls k x)) (λ_ _ _ ii _=>2-(intOf ii).toNat)
     case atStart=>exact⟨0,Ls,az _,rfl,hm1,hx1,HIM,wK,EB⟩
     case round=>
      clear hm1 hx1 HIM wK EB;obtain⟨si,Ls,hsi,rfl,hm,hx,HI,wK,EB⟩:=hrel;rcases Dn hsi with rfl|rfl|rfl
      .have HI:Hid (iC s.D R Ls k []):=aI (by simpa [sw]using HI.out)
       obtain⟨wq,rfl⟩:∃wq:World,wq=wr:=⟨_,rfl⟩;go_wp2
       go_loopw [6,13,65] (λlv _ ii wr=>∃(q:Nat) (Ls:List Nat),q<=OL.length/\ii=.int .i64 ((q:Nat):Int)/\fA pp h s w wr w.heap.size lv (.slice none 0 0) Ls [] Ls/\Ext w wr/\Hid (iC s.D R Ls k (OL.take q))/\Hid (Ls.length<=s.D.length)/\Hid (CB R Ls k x)) (λ_ _ ii _=>OL.length-(intOf ii).toNat)
       case atStart=>exact⟨0,Ls,az _,rfl,hm,hx,by simpa [Hid]using HI.out,wK,EB⟩
       case round=>
        clear hm hx HI wK EB;obtain⟨q,Ls,hq,rfl,hm,hx,HI,wK,EB⟩:=hrel;have Vz:Ls.length<=900000:=(by have:=wK.out;omega);have hwr:=hx.size;by_cases WZ:q<OL.length
        .have h2:((q:Nat):Int)<((OL.length:Nat):Int):=by omega
         obtain⟨-,hln,hcl⟩:=jB.at (yI.out.ext hx);obtain⟨b,off,rfl,hcell⟩:=hcl (by omega);have hck:=hcell q WZ;have hyD:=aej.out _ (aj WZ);obtain⟨y,hy⟩:=eu (OL[q]);have htk:OL.take (q+1)=OL.take q++[y]:=(by rw[hy];exact aW WZ);have hyR:∃r,r∈R/\aZ.Reach s.D r y:=(by rw[hy];exact aeh.out _ (aj WZ));rw[<-hy]at hck hyD;have vV:=hm.look (x:=y) (by omega) wr rfl;obtain⟨aq,cq,rfl,hqc,_⟩:=bu hm.q;have NQ:=aI htk;have HYR:=aI hyR;clear hcl hcell hy htk hyR;by_cases hin:y∈Ls
         .simp only[hin,decide_true]at vV
          have yE:=aI hin;clear hin;go_wp2
          go_roundw
          case rel=>exact⟨q+1,Ls,by omega,by go_num,hm,hx,by have:=HI.out.have yE.out;rw[NQ.out];simpa [Hid,dh]using this,wK,EB⟩
          case measure=>simp[intOf];omega
         .simp only[hin,decide_false]at vV
          have yE:=aI hin;have hkl:=EB.out.2.1;clear hin;obtain⟨fm,hM,hfm⟩:=hm.seen;have Yj:=aI hfm;have hki:=qN y (by omega);have Zk:=aI (HI.out.add (Nat.le_of_lt hkl) yE.out HYR.out);have U4:=aI (Zk.out.len VH.out hR);have Qh:=hP.ext hx;clear hfm
          go_wp2_with (first
           |(at_builtin;refine dm rfl (.tmp 75) (.tmp 77) 41 rfl w.heap.size 3 i0 (.int .i64 0) 1 8 underlying41 hi0 hz0 hz1 hz2 rfl (by decide) (.slice aq Ls.length cq) Ls.length _ rfl (Ga.q.alloc _) _ 1 _ [.int .i64 (y:Int)] rfl rfl (.inr ⟨_,rfl,dA (bY _ _ _)⟩) one_cell (by unfold maxLen;omega) (by omega) (by rw[eX];have:=hx3.size;omega) ?_;intro v5 w5 ji hg5 hl5)
           |(at_mapUpdate;refine iO rfl _ _ _ 196 rfl 3 4 oz underlying196 w.heap.size Ls.length fm rfl hM (by unfold maxLen;omega) (.int .i64 (y:Int)) (.bool true) rfl rfl hki ?_;intro w3 oD hg3;have Ga:=hm.mark Yj.out oD hg3;have hx3:=dw hx hg3 (λb hb=>by injection hb with hb;rw[<-hb];exact ax _)))
          have Xd:=Ga.push (news:=[y]) (hP.ext hx3) (bJ (fJ _ _) _) hg5 ji (by simp) (by rw[mq,bz];rfl) hl5;have hx5:=dw (bJ hx3 _) hg5 (λb hb=>(Ga.q.lt b hb).1);go_roundw
          case rel=>exact⟨v5,_,_,_,_,_,_,_,_,_,_,_,_,_,_,_,_,⟨q+1,Ls++[y],by omega,by go_num,Xd,hx5,by have:=Zk.out;rw[NQ.out];simpa [Hid,dh]using this,U4,EB.out.add y⟩,rfl⟩
          case measure=>simp[intOf];omega
        .have h2:¬(((q:Nat):Int)<((OL.length:Nat):Int)):=by omega
         have hqe:q=OL.length:=(by omega);subst hqe;rw[cO]at HI;go_wp2
         go_roundw
         case rel=>exact⟨1,Ls,by omega,by go_num,hm,hx,by rw[HMO.out.1];exact HI,wK,EB⟩
         case measure=>simp[intOf]
      .have HI:Hid (iC s.D R Ls k OL):=by rw[<-HMO.out.1];exact HI
       obtain⟨wq,rfl⟩:∃wq:World,wq=wr:=⟨_,rfl⟩;go_wp2
       go_loopw [6,13,65] (λlv _ ii wr=>∃(q:Nat) (Ls:List Nat),q<=OR.length/\ii=.int .i64 ((q:Nat):Int)/\fA pp h s w wr w.heap.size lv (.slice none 0 0) Ls [] Ls/\Ext w wr/\Hid (iC s.D R Ls k (OL++OR.take q))/\Hid (Ls.length<=s.D.length)/\Hid (CB R Ls k x)) (λ_ _ ii _=>OR.length-(intOf ii).toNat)
       case atStart=>exact⟨0,Ls,az _,rfl,hm,hx,by simpa [Hid]using HI.out,wK,EB⟩
       case round=>
        clear hm hx HI wK EB;obtain⟨q,Ls,hq,rfl,hm,hx,HI,wK,EB⟩:=hrel;have Vz:Ls.length<=900000:=(by have:=wK.out;omega);have hwr:=hx.size;by_cases WZ:q<OR.length
        .have h2:((q:Nat):Int)<((OR.length:Nat):Int):=by omega
         obtain⟨-,hln,hcl⟩:=jB.at (hSR.out.ext hx);obtain⟨b,off,rfl,hcell⟩:=hcl (by omega);have hck:=hcell q WZ;have hyD:=aei.out _ (aj WZ);obtain⟨y,hy⟩:=eu (OR[q]);have htk:OR.take (q+1)=OR.take q++[y]:=(by rw[hy];exact aW WZ);have hyR:∃r,r∈R/\aZ.Reach s.D r y:=(by rw[hy];exact aeg.out _ (aj WZ));rw[<-hy]at hck hyD;have vV:=hm.look (x:=y) (by omega) wr rfl;obtain⟨aq,cq,rfl,hqc,_⟩:=bu hm.q;have NQ:=aI htk;have HYR:=aI hyR;clear hcl hcell hy htk hyR;by_cases hin:y∈Ls
         .simp only[hin,decide_true]at vV
          have yE:=aI hin;clear hin;go_wp2
          go_roundw
          case rel=>exact⟨q+1,Ls,by omega,by go_num,hm,hx,by have:=HI.out.have yE.out;rw[NQ.out];simpa [Hid,dh]using this,wK,EB⟩
          case measure=>simp[intOf];omega
         .simp only[hin,decide_false]at vV
          have yE:=aI hin;have hkl:=EB.out.2.1;clear hin;obtain⟨fm,hM,hfm⟩:=hm.seen;have Yj:=aI hfm;have hki:=qN y (by omega);have Zk:=aI (HI.out.add (Nat.le_of_lt hkl) yE.out HYR.out);have U4:=aI (Zk.out.len VH.out hR);have Qh:=hP.ext hx;clear hfm
          go_wp2_with (first
           |(at_builtin;refine dm rfl (.tmp 75) (.tmp 77) 41 rfl w.heap.size 3 i0 (.int .i64 0) 1 8 underlying41 hi0 hz0 hz1 hz2 rfl (by decide) (.slice aq Ls.length cq) Ls.length _ rfl (Ga.q.alloc _) _ 1 _ [.int .i64 (y:Int)] rfl rfl (.inr ⟨_,rfl,dA (bY _ _ _)⟩) one_cell (by unfold maxLen;omega) (by omega) (by rw[eX];have:=hx3.size;omega) ?_;intro v5 w5 ji hg5 hl5)
           |(at_mapUpdate;refine iO rfl _ _ _ 196 rfl 3 4 oz underlying196 w.heap.size Ls.length fm rfl hM (by unfold maxLen;omega) (.int .i64 (y:Int)) (.bool true) rfl rfl hki ?_;intro w3 oD hg3;have Ga:=hm.mark Yj.out oD hg3;have hx3:=dw hx hg3 (λb hb=>by injection hb with hb;rw[<-hb];exact ax _)))
          have Xd:=Ga.push (news:=[y]) (hP.ext hx3) (bJ (fJ _ _) _) hg5 ji (by simp) (by rw[mq,bz];rfl) hl5;have hx5:=dw (bJ hx3 _) hg5 (λb hb=>(Ga.q.lt b hb).1);go_roundw
          case rel=>exact⟨v5,_,_,_,_,_,_,_,_,_,_,_,_,_,_,_,_,⟨q+1,Ls++[y],by omega,by go_num,Xd,hx5,by have:=Zk.out;rw[NQ.out];simpa [Hid,dh]using this,U4,EB.out.add y⟩,rfl⟩
          case measure=>simp[intOf];omega
        .have h2:¬(((q:Nat):Int)<((OR.length:Nat):Int)):=by omega
         have hqe:q=OR.length:=(by omega);subst hqe;rw[cO]at HI;go_wp2
         go_roundw
         case rel=>exact⟨2,Ls,by omega,by go_num,hm,hx,by rw[HMO.out.2];exact HI,wK,EB⟩
         case measure=>simp[intOf]
      .have HI2:Hid (iC s.D R Ls (k+1) []):=aI (by
        have:=HI.out;simp only[sw]at this;rw[<-EB.out.2.2]at this;exact this.next)
       have hkl:=EB.out.2.1;have Vz:Ls.length<=900000:=(by have:=wK.out;omega);go_wp2
       go_roundw
       case rel=>exact⟨k+1,Ls,by omega,by go_num,hm,hx,aI ⟨HI2.out,EB.out.1⟩,wK⟩
       case measure=>have:=wK.out;simp[intOf];omega
    .have h1:¬(((k:Nat):Int)<((Ls.length:Nat):Int)):=by omega
     have hke:k=Ls.length:=(by omega);subst hke;obtain⟨aq,cq,rfl,hqc,_⟩:=bu hm.q;go_wp2
     go_ret
     exact⟨_,Ls,rfl,hm.q,HI.out.1.nd,HI.out.1.all HI.out.2,hx⟩
