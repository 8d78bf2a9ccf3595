/-
  Contract of the reference's l5Sum: a form of the sum of both games.
-/
import Derived.Test.YteknjeohbcgpdaaGreatDoorK23
set_option maxRecDepth 100000
namespace Go.Proofs.YteknjeohbcgpdaaGreatDoor
open Tryz
open Go.RowKit
open bz (dC Nd vl Same plus eu)
variable {W:World} {a:Option Addr} {n c m:Nat}
def Xe(F G:dC)(w:World)(e:Ending)(w':World):Prop:=
 ∃vN H,e=.returned (.agg #[vN])/\eX w' w.heap.size vN H/\bz.fq H/\Same (eu H) (plus (eu F) (eu G))/\H.length<=F.length*G.length/\Ext w w'
theorem wH{w:World}{X:Obj}{k:Nat}(h:k=w.heap.size):(w.alloc X).heap[k]?=some X:=by subst h;exact heap_alloc_new w X
theorem wB{F:dC}{i:Nat}(hi:i<F.length):F.getD i ([],[])=F[i]:=by rw[aV,aa hi];rfl
theorem zq{B:Nat}{at_:List Nat}(h:W.ownsRow B 3 1 (.slice a n c) at_.length ((dx at_).map (Value.int .i64))){q:Nat}(hq:q<at_.length):
 ∃g,a=some ⟨g,0,none⟩/\W.cell? ⟨g,q,none⟩=some (.int .i64 ((at_.getD q 0:Nat):Int)):=by
 obtain⟨g,cap,e,_,_,hc⟩:=iB h (by omega);simp only[Value.slice.injEq]at e;obtain⟨rfl,-,-⟩:=e;refine⟨g,rfl,?_⟩;rw[hc q (by omega),aV,aa hq];simp[dx,hq]
theorem wh{l:List Nat}(h:Ints W (.slice a n c) (dx l))(hm:m<l.length):∃b off,a=some ⟨b,off,none⟩/\W.cell? ⟨b,off+m,none⟩=some (.int .i64 ((l[m]:Nat):Int)):=by
 obtain⟨a',c',e,_,_,hc⟩:=h;simp only[Value.slice.injEq]at e;obtain⟨rfl,-,rfl⟩:=e;obtain⟨b,off,rfl,hb⟩:=hc (by rw[bu];omega);exact⟨b,off,rfl,by rw[hb m (by rw[bu];exact hm),fT hm]⟩
theorem oO{α β:Type}{l:List α}(f:α->β)(hm:m<l.length):(l.take (m+1)).map f=(l.take m).map f++[f l[m]]:=by
 rw[bg hm,aU];rfl
set_option maxHeartbeats 8000000 in
theorem Pb(vf vg:Value)(F G:dC)(w:World)(hf:eX w 0 vf F)(hg:eX w 0 vg G)(gF:bz.Good F)(gG:bz.Good G)(f0:0<F.length)(g0:0<G.length)(hroom:F.length*G.length<=300000):
 Calls prog 79 #[.agg #[vf],.agg #[vg]] w (Xe F G w):=by
 obtain⟨i0,hi0,hz0,hz1,hz2⟩:=info_parts iy;obtain⟨aF,cF,rfl,NI,hmF⟩:∃a c,vf=.slice a F.length c/\F.length<=c/\F.length<=maxLen:=by obtain⟨a,c,e,h1,h2,_⟩:=id hf;exact⟨a,c,e,h1,h2⟩
 obtain⟨aG,cG,rfl,hcG,hmG⟩:∃a c,vg=.slice a G.length c/\G.length<=c/\G.length<=maxLen:=by obtain⟨a,c,e,h1,h2,_⟩:=id hg;exact⟨a,c,e,h1,h2⟩
 have Kg:F.length<=300000:=bU (Nat.le_mul_of_pos_right _ g0) hroom;have X4:G.length<=300000:=bU (Nat.le_mul_of_pos_left _ f0) hroom;have HF:=aH hf;have HG:=aH hg;have HGF:=aH gF;have HGG:=aH gG;have Yg:=aH hroom;clear hf hg gF gG hroom NI hcG hmF hmG;go_enter Tryz.func79,Tryz.ntmps79
 go_upto_region 5 with fail
 rw[show w.heap.size+1+1+1+1=w.heap.size+4 from rfl,show w.heap.size+1+1+1=w.heap.size+3 from rfl];obtain⟨we,xu⟩:∃we,we=(((w.alloc (.cells #[.slice aF F.length cF] 28)).alloc (.cells #[.slice aG G.length cG] 28)).alloc (.cells #[.slice none 0 0] 28)).alloc (.cells #[.slice none 0 0,.slice none 0 0] 157):=⟨_,rfl⟩;have YK:we.heap.size=w.heap.size+4:=by rw[xu];simp only[fw]
 have hb0:we.heap[w.heap.size]?=some (.cells #[.slice aF F.length cF] 28 (0,0)):=by
  rw[xu,Below.heap_alloc _ _ _ (by simp only[fw];omega),Below.heap_alloc _ _ _ (by simp only[fw];omega),Below.heap_alloc _ _ _ (by simp only[fw];omega)];exact wH rfl
 have hb1:we.heap[w.heap.size+1]?=some (.cells #[.slice aG G.length cG] 28 (0,0)):=by
  rw[xu,Below.heap_alloc _ _ _ (by simp only[fw];omega),Below.heap_alloc _ _ _ (by simp only[fw];omega)];exact wH (by simp only[fw])
 have hb2:we.heap[w.heap.size+2]?=some (.cells #[.slice none 0 0] 28 (0,0)):=by
  rw[xu,Below.heap_alloc _ _ _ (by simp only[fw];omega)];exact wH (by simp only[fw])
 have hb3:we.heap[w.heap.size+3]?=some (.cells #[.slice none 0 0,.slice none 0 0] 157 (0,0)):=by
  rw[xu];exact wH (by simp only[fw])
 have hxe:Ext w we:=by rw[xu];go_grown
 rw[<-xu];have Bn:=tN hb3;have hxa:Ext we (we.alloc (.cells #[] 3)):=bK (Below.refl _ _) _;have hsd:∀b,b<w.heap.size+3->Beside we (w.heap.size+3) (.slice none 0 0) (.slice none 0 0) [] b:=λb hb=>⟨λk=>by
  rcases k with h|h|h
  .omega
  .simp[Value.ownBlock]at h
  .simp[Value.ownBlock]at h,λ⟨i,g,cap,v,hi,_⟩=>by simp at hi⟩
 have hM0:SM w we (we.alloc (.cells #[] 3)) (.slice aF F.length cF) (.slice aG G.length cG) (.slice (some ⟨we.heap.size,0,none⟩) 0 0) (.slice none 0 0) (.slice none 0 0) [] []:=
  ⟨Bn.ext hxa,gZ.ext Bn hxa,(hxa.block _ (bG hb0)).trans hb0,(hxa.block _ (bG hb1)).trans hb1,(hxa.block _ (bG hb2)).trans hb2,fC we _ (ai _) _,λb hb=>by
   simp[Value.ownBlock]at hb;subst hb;exact⟨ai _,(Beside.new Bn (ai _)).Hl Bn hxa⟩,λb hb=>(hsd b hb).Hl Bn hxa,ay hxe hxa,ai _⟩
 have HZE:=aH YK;rw[<-YK];clear xu YK hb0 hb1 hb2 hb3 hxe Bn hxa hsd;generalize we.alloc (.cells #[] 3)=W0 at *;obtain⟨n,hn⟩:∃n,n=G.length:=⟨_,rfl⟩;obtain⟨f,hfn⟩:∃f,f=F.length:=⟨_,rfl⟩;go_loopw [7,8,9,10,11,12,13,14,15] (λav ii _ _ _ _ _ _ _ wr=>∃(i:Nat) (vn vb:Value) (D:dC) (at_:List Nat),ii=.int .i64 ((i:Nat):Int)/\i<=F.length/\SM w we wr (.slice aF F.length cF) (.slice aG G.length cG) av vn vb D at_/\Hid (at_.length=i*G.length/\qp D F G at_)) (λ_ ii _ _ _ _ _ _ _ _=>F.length-(intOf ii).toNat)
 case atStart=>exact⟨0,_,_,[],[],rfl,az _,hM0,aH ⟨by simp,qp.nil _ _ _⟩⟩
 case round=>
  clear hM0;obtain⟨i,vn,vb,D,at_,rfl,hi,hM,HS⟩:=hrel;have c0:=cell_of_row wr w.heap.size 0 _ _ _ hM.b0;simp only[gE]at c0;by_cases hlt:i<F.length
  .have hil:((i:Nat):Int)<((F.length:Nat):Int):=by omega
   have dK:=aH hlt;clear hlt;go_wp2
   go_loopg [7,9,10,11,12,13,14,15] (G.length) (λgk av kk _ _ _ _ _ _ wr=>∃(k:Nat) (vn vb:Value) (D:dC) (at_:List Nat),kk=.int .i64 ((k:Nat):Int)/\k<=G.length/\SM w we wr (.slice aF F.length cF) (.slice aG G.length cG) av vn vb D at_/\Hid (at_.length=i*G.length+k/\qp D F G at_)/\Hid (gk=G.length-k))
   case atStart=>exact⟨0,vn,vb,D,at_,rfl,az _,hM,aH ⟨by rw[HS.out.1];rfl,HS.out.2⟩,aH rfl⟩
   case round=>
    clear hM HS c0;obtain⟨k,vn,vb,D,at_,rfl,hk,hM,HS,Vm⟩:=hrel;by_cases hkl:k<G.length
    .have hkl':((k:Nat):Int)<((G.length:Nat):Int):=by omega
     have pz:=aH hkl;clear hkl;go_upto_region 11 with fail
     have xB:Hid (at_.length<=300000):=aH (by rw[HS.out.1];have:=vO dK.out pz.out;have:=Yg.out;omega);have pU:Hid ((F[i]'dK.out).1.length<=300000/\(F[i]'dK.out).2.length<=300000/\(G[k]'pz.out).1.length<=300000/\(G[k]'pz.out).2.length<=300000):=aH (by
      have h1:=rO HGF.out dK.out;have h2:=rO HGG.out pz.out;omega)
     obtain⟨wa,LF⟩:∃wa,wa=wr:=⟨_,rfl⟩;rw[<-LF]at hM ⊢;clear LF
     have ahK:Hid (LR wa ((wa.alloc (.cells #[] 3)).alloc (.cells #[] 3)) (.slice (some ⟨wa.heap.size,0,none⟩) 0 0) (.slice (some ⟨wa.heap.size+1,0,none⟩) 0 0) [] []):=aH
      ⟨(fC wa _ (ai _) _).alloc _,lM wa _ _ (ai _) _,λb hb e=>by simp[Value.ownBlock]at hb e;omega,by go_grown⟩
     obtain⟨aA,cA,rfl,-,-⟩:=bD hM.own;have HM:=aH hM;clear hM;go_wp2
     go_loopw [10,12] (λrv mm wr=>∃m:Nat,mm=.int .i64 ((m:Nat):Int)/\m<=(F[i]'dK.out).1.length/\Hid (LR wa wr rv (.slice (some ⟨wa.heap.size+1,0,none⟩) 0 0) (((F[i]'dK.out).1.take m).map (λx=>at_.getD (x*G.length+k) 0)) [])) (λ_ mm _=>(F[i]'dK.out).1.length-(intOf mm).toNat)
     case atStart=>exact⟨0,rfl,az _,aH (by simp only[sD,lU,bq];exact ahK.out)⟩
     case round=>
      obtain⟨m,rfl,hm,Ak⟩:=hrel;have xQ:=HM.out.ext' Ak.out.ext;have cb:=cell_of_row wr (w.heap.size) 0 _ _ _ xQ.b0;simp only[gE]at cb;obtain⟨bX,cX,aL,cL,aR,cR,he,-,nl,nr,uo,um⟩:=(HF.out.ext xQ.ext).at dK.out;simp only[Value.slice.injEq,true_and,bJ,Addr.mk.injEq,and_true]at he;obtain⟨rfl,rfl⟩:=he;have hxl:((i:Nat):Int)<((F.length:Nat):Int):=(by have:=dK.out;omega);by_cases hlm:m<(F[i]'dK.out).1.length
      .have xP:((m:Nat):Int)<((((F[i]'dK.out).1.length:Nat):Nat):Int):=by omega
       have xW:=aH hlm;have hlb:(F[i]'dK.out).1.length<=300000:=(by have:=pU.out;omega);obtain⟨bc,oc,ZQ,hcell⟩:=wh uo hlm;subst ZQ;obtain⟨x,ex⟩:∃x,x=((F[i]'dK.out).1)[m]'hlm:=⟨_,rfl⟩;have hxi:x<i:=(by rw[ex];exact(HGF.out.wf i _ (aa dK.out)).1 _ (ah _));rw[<-ex]at hcell;obtain⟨p,ep⟩:∃p,p=x*G.length:=⟨_,rfl⟩;obtain⟨q,eq⟩:∃q,q=p+k:=⟨_,rfl⟩;have hmul:((x:Nat):Int)*((G.length:Nat):Int)=((p:Nat):Int):=(by rw[ep];exact(Int.natCast_mul _ _).symm);have hadd:((p:Nat):Int)+((k:Nat):Int)=((q:Nat):Int):=(by rw[eq];exact(Int.natCast_add _ _).symm);have qU:q<at_.length:=(by rw[eq,ep,HS.out.1];have:=vO hxi pz.out;omega);have hq3:at_.length<=300000:=xB.out;obtain⟨gA,eA,Vg⟩:=zq xQ.own qU;subst eA;have YX:((q:Nat):Int)<((at_.length:Nat):Int):=(by omega);have Aj:Hid (((F[i]'dK.out).1.take (m+1)).map (λx=>at_.getD (x*G.length+k) 0)=(((F[i]'dK.out).1.take m).map (λx=>at_.getD (x*G.length+k) 0))++[at_.getD q 0]):=aH (by
        rw[oO _ hlm,<-ex,eq,ep])
       have hEQ:=aH (And.intro ex (And.intro ep eq));generalize hlr:(((F[i]'dK.out).1.take m).map (λx=>at_.getD (x*G.length+k) 0))=lr at Ak Aj;have hN:lr.length<=700000:=(by rw[<-hlr];simp only[aj,aJ,ek];have:=pU.out;omega);have AY:=Ak.out;obtain⟨al,cl,rfl,-,-⟩:=bD AY.el;have hor:=AY.el;have Sb:=AY.ext.size;generalize hat:at_.getD q 0=aq at *;clear ex ep eq xQ uo um AY hlr hxi qU hat;go_wp2_with (at_builtin;refine bQ rfl (.tmp 47) (.tmp 64) 80 rfl wa.heap.size 3 i0 (.int .i64 0) 1 8 underlying80 hi0 hz0 hz1 hz2 rfl (by decide) (.slice al lr.length cl) lr.length _ rfl (hor.alloc _) _ 1 _ [.int .i64 ((aq:Nat):Int)] rfl rfl (.inr ⟨_,rfl,cK (bP _ _ _)⟩) one_cell (by unfold maxLen;omega) (by omega) (by rw[fw];omega) ?_;intro v5 w5 fI hg5 hl5)
       go_roundw
       case rel=>exact⟨m+1,by go_num,xW.out,aH (by rw[Aj.out];exact Ak.out.aa9 fI hg5 hl5)⟩
       case measure=>have:=xW.out;simp[intOf];omega
      .have xP:¬(((m:Nat):Int)<((((F[i]'dK.out).1.length:Nat):Nat):Int)):=by omega
       have hme:m=(F[i]'dK.out).1.length:=(by omega);have ahJ:Hid (LR wa wr u10 (.slice (some ⟨wa.heap.size+1,0,none⟩) 0 0) (((F[i]'dK.out).1).map (λx=>at_.getD (x*G.length+k) 0)) []):=aH (by have:=Ak.out;rw[hme,dz]at this;exact this);clear hme hlm xQ uo um Ak;go_wp2
       go_loopw [10,13] (λrv mm wr=>∃m:Nat,mm=.int .i64 ((m:Nat):Int)/\m<=(G[k]'pz.out).1.length/\Hid (LR wa wr rv (.slice (some ⟨wa.heap.size+1,0,none⟩) 0 0) (((F[i]'dK.out).1.map (λx=>at_.getD (x*G.length+k) 0))++((G[k]'pz.out).1.take m).map (λy=>at_.getD (i*G.length+y) 0)) [])) (λ_ mm _=>(G[k]'pz.out).1.length-(intOf mm).toNat)
       case atStart=>exact⟨0,rfl,az _,aH (by simp only[sD,lU,bq];exact ahJ.out)⟩
       case round=>
        obtain⟨m,rfl,hm,Ak⟩:=hrel;have xQ:=HM.out.ext' Ak.out.ext;have cb:=cell_of_row wr (w.heap.size+1) 0 _ _ _ xQ.b1;simp only[gE]at cb;obtain⟨bX,cX,aL,cL,aR,cR,he,-,nl,nr,uo,um⟩:=(HG.out.ext xQ.ext).at pz.out;simp only[Value.slice.injEq,true_and,bJ,Addr.mk.injEq,and_true]at he;obtain⟨rfl,rfl⟩:=he;have hxl:((k:Nat):Int)<((G.length:Nat):Int):=(by have:=pz.out;omega);by_cases hlm:m<(G[k]'pz.out).1.length
        .have xP:((m:Nat):Int)<((((G[k]'pz.out).1.length:Nat):Nat):Int):=by omega
         have xW:=aH hlm;have hlb:(G[k]'pz.out).1.length<=300000:=(by have:=pU.out;omega);obtain⟨bc,oc,ZQ,hcell⟩:=wh uo hlm;subst ZQ;obtain⟨x,ex⟩:∃x,x=((G[k]'pz.out).1)[m]'hlm:=⟨_,rfl⟩;have hxi:x<k:=(by rw[ex];exact(HGG.out.wf k _ (aa pz.out)).1 _ (ah _));rw[<-ex]at hcell;obtain⟨p,ep⟩:∃p,p=i*G.length:=⟨_,rfl⟩;obtain⟨q,eq⟩:∃q,q=p+x:=⟨_,rfl⟩;have hmul:((i:Nat):Int)*((G.length:Nat):Int)=((p:Nat):Int):=(by rw[ep];exact(Int.natCast_mul _ _).symm);have hadd:((p:Nat):Int)+((x:Nat):Int)=((q:Nat):Int):=(by rw[eq];exact(Int.natCast_add _ _).symm);have qU:q<at_.length:=(by rw[eq,ep,HS.out.1];omega);have hq3:at_.length<=300000:=xB.out;obtain⟨gA,eA,Vg⟩:=zq xQ.own qU;subst eA;have YX:((q:Nat):Int)<((at_.length:Nat):Int):=(by omega);have Aj:Hid (((F[i]'dK.out).1.map (λx=>at_.getD (x*G.length+k) 0))++((G[k]'pz.out).1.take (m+1)).map (λy=>at_.getD (i*G.length+y) 0)=(((F[i]'dK.out).1.map (λx=>at_.getD (x*G.length+k) 0))++((G[k]'pz.out).1.take m).map (λy=>at_.getD (i*G.length+y) 0))++[at_.getD q 0]):=aH (by
          rw[oO _ hlm,<-bY,<-ex,eq,ep])
         have hEQ:=aH (And.intro ex (And.intro ep eq));generalize hlr:(((F[i]'dK.out).1.map (λx=>at_.getD (x*G.length+k) 0))++((G[k]'pz.out).1.take m).map (λy=>at_.getD (i*G.length+y) 0))=lr at Ak Aj;have hN:lr.length<=700000:=(by rw[<-hlr];simp only[aj,aJ,ek];have:=pU.out;omega);have AY:=Ak.out;obtain⟨al,cl,rfl,-,-⟩:=bD AY.el;have hor:=AY.el;have Sb:=AY.ext.size;generalize hat:at_.getD q 0=aq at *;clear ex ep eq xQ uo um AY hlr hxi qU hat;go_wp2_with (at_builtin;refine bQ rfl (.tmp 77) (.tmp 94) 80 rfl wa.heap.size 3 i0 (.int .i64 0) 1 8 underlying80 hi0 hz0 hz1 hz2 rfl (by decide) (.slice al lr.length cl) lr.length _ rfl (hor.alloc _) _ 1 _ [.int .i64 ((aq:Nat):Int)] rfl rfl (.inr ⟨_,rfl,cK (bP _ _ _)⟩) one_cell (by unfold maxLen;omega) (by omega) (by rw[fw];omega) ?_;intro v5 w5 fI hg5 hl5)
         go_roundw
         case rel=>exact⟨m+1,by go_num,xW.out,aH (by rw[Aj.out];exact Ak.out.aa9 fI hg5 hl5)⟩
         case measure=>have:=xW.out;simp[intOf];omega
        .have xP:¬(((m:Nat):Int)<((((G[k]'pz.out).1.length:Nat):Nat):Int)):=by omega
         have hme:m=(G[k]'pz.out).1.length:=(by omega);have adH:Hid (LR wa wr u10 (.slice (some ⟨wa.heap.size+1,0,none⟩) 0 0) (((F[i]'dK.out).1.map (λx=>at_.getD (x*G.length+k) 0))++((G[k]'pz.out).1).map (λy=>at_.getD (i*G.length+y) 0)) []):=aH (by have:=Ak.out;rw[hme,dz]at this;exact this);clear hme hlm xQ uo um Ak;obtain⟨BF,elv⟩:∃BF,BF=u10:=⟨_,rfl⟩;rw[<-elv]at adH ⊢;clear elv;go_wp2
         go_loopw [11,14] (λrv mm wr=>∃m:Nat,mm=.int .i64 ((m:Nat):Int)/\m<=(F[i]'dK.out).2.length/\Hid (LR wa wr BF rv (((F[i]'dK.out).1.map (λx=>at_.getD (x*G.length+k) 0))++(G[k]'pz.out).1.map (λy=>at_.getD (i*G.length+y) 0)) (((F[i]'dK.out).2.take m).map (λx=>at_.getD (x*G.length+k) 0)))) (λ_ mm _=>(F[i]'dK.out).2.length-(intOf mm).toNat)
         case atStart=>exact⟨0,rfl,az _,aH (by simp only[sD,lU,bq];exact adH.out)⟩
         case round=>
          obtain⟨m,rfl,hm,Ak⟩:=hrel;have xQ:=HM.out.ext' Ak.out.ext;have cb:=cell_of_row wr (w.heap.size) 0 _ _ _ xQ.b0;simp only[gE]at cb;obtain⟨bX,cX,aL,cL,aR,cR,he,-,nl,nr,uo,um⟩:=(HF.out.ext xQ.ext).at dK.out;simp only[Value.slice.injEq,true_and,bJ,Addr.mk.injEq,and_true]at he;obtain⟨rfl,rfl⟩:=he;have hxl:((i:Nat):Int)<((F.length:Nat):Int):=(by have:=dK.out;omega);by_cases hlm:m<(F[i]'dK.out).2.length
          .have xP:((m:Nat):Int)<((((F[i]'dK.out).2.length:Nat):Nat):Int):=by omega
           have xW:=aH hlm;have hlb:(F[i]'dK.out).2.length<=300000:=(by have:=pU.out;omega);obtain⟨bc,oc,ZQ,hcell⟩:=wh um hlm;subst ZQ;obtain⟨x,ex⟩:∃x,x=((F[i]'dK.out).2)[m]'hlm:=⟨_,rfl⟩;have hxi:x<i:=(by rw[ex];exact(HGF.out.wf i _ (aa dK.out)).2 _ (ah _));rw[<-ex]at hcell;obtain⟨p,ep⟩:∃p,p=x*G.length:=⟨_,rfl⟩;obtain⟨q,eq⟩:∃q,q=p+k:=⟨_,rfl⟩;have hmul:((x:Nat):Int)*((G.length:Nat):Int)=((p:Nat):Int):=(by rw[ep];exact(Int.natCast_mul _ _).symm);have hadd:((p:Nat):Int)+((k:Nat):Int)=((q:Nat):Int):=(by rw[eq];exact(Int.natCast_add _ _).symm);have qU:q<at_.length:=(by rw[eq,ep,HS.out.1];have:=vO hxi pz.out;omega);have hq3:at_.length<=300000:=xB.out;obtain⟨gA,eA,Vg⟩:=zq xQ.own qU;subst eA;have YX:((q:Nat):Int)<((at_.length:Nat):Int):=(by omega);have Aj:Hid (((F[i]'dK.out).2.take (m+1)).map (λx=>at_.getD (x*G.length+k) 0)=(((F[i]'dK.out).2.take m).map (λx=>at_.getD (x*G.length+k) 0))++[at_.getD q 0]):=aH (by
            rw[oO _ hlm,<-ex,eq,ep])
           have hEQ:=aH (And.intro ex (And.intro ep eq));generalize hlr:(((F[i]'dK.out).2.take m).map (λx=>at_.getD (x*G.length+k) 0))=lr at Ak Aj;have hN:lr.length<=700000:=(by rw[<-hlr];simp only[aj,aJ,ek];have:=pU.out;omega);have AY:=Ak.out;obtain⟨al,cl,rfl,-,-⟩:=bD AY.er;have hor:=AY.er;have Sb:=AY.ext.size;generalize hat:at_.getD q 0=aq at *;clear ex ep eq xQ uo um AY hlr hxi qU hat;go_wp2_with (at_builtin;refine bQ rfl (.tmp 107) (.tmp 124) 80 rfl wa.heap.size 3 i0 (.int .i64 0) 1 8 underlying80 hi0 hz0 hz1 hz2 rfl (by decide) (.slice al lr.length cl) lr.length _ rfl (hor.alloc _) _ 1 _ [.int .i64 ((aq:Nat):Int)] rfl rfl (.inr ⟨_,rfl,cK (bP _ _ _)⟩) one_cell (by unfold maxLen;omega) (by omega) (by rw[fw];omega) ?_;intro v5 w5 fI hg5 hl5)
           go_roundw
           case rel=>exact⟨m+1,by go_num,xW.out,aH (by rw[Aj.out];exact Ak.out.aa8 fI hg5 hl5)⟩
           case measure=>have:=xW.out;simp[intOf];omega
          .have xP:¬(((m:Nat):Int)<((((F[i]'dK.out).2.length:Nat):Nat):Int)):=by omega
           have hme:m=(F[i]'dK.out).2.length:=(by omega);have ahI:Hid (LR wa wr BF u11 (((F[i]'dK.out).1.map (λx=>at_.getD (x*G.length+k) 0))++(G[k]'pz.out).1.map (λy=>at_.getD (i*G.length+y) 0)) (((F[i]'dK.out).2).map (λx=>at_.getD (x*G.length+k) 0))):=aH (by have:=Ak.out;rw[hme,dz]at this;exact this);clear hme hlm xQ uo um Ak;go_wp2
           go_loopw [11,15] (λrv mm wr=>∃m:Nat,mm=.int .i64 ((m:Nat):Int)/\m<=(G[k]'pz.out).2.length/\Hid (LR wa wr BF rv (((F[i]'dK.out).1.map (λx=>at_.getD (x*G.length+k) 0))++(G[k]'pz.out).1.map (λy=>at_.getD (i*G.length+y) 0)) (((F[i]'dK.out).2.map (λx=>at_.getD (x*G.length+k) 0))++((G[k]'pz.out).2.take m).map (λy=>at_.getD (i*G.length+y) 0)))) (λ_ mm _=>(G[k]'pz.out).2.length-(intOf mm).toNat)
           case atStart=>exact⟨0,rfl,az _,aH (by simp only[sD,lU,bq];exact ahI.out)⟩
           case round=>
            obtain⟨m,rfl,hm,Ak⟩:=hrel;have xQ:=HM.out.ext' Ak.out.ext;have cb:=cell_of_row wr (w.heap.size+1) 0 _ _ _ xQ.b1;simp only[gE]at cb;obtain⟨bX,cX,aL,cL,aR,cR,he,-,nl,nr,uo,um⟩:=(HG.out.ext xQ.ext).at pz.out;simp only[Value.slice.injEq,true_and,bJ,Addr.mk.injEq,and_true]at he;obtain⟨rfl,rfl⟩:=he;have hxl:((k:Nat):Int)<((G.length:Nat):Int):=(by have:=pz.out;omega);by_cases hlm:m<(G[k]'pz.out).2.length
            .have xP:((m:Nat):Int)<((((G[k]'pz.out).2.length:Nat):Nat):Int):=by omega
             have xW:=aH hlm;have hlb:(G[k]'pz.out).2.length<=300000:=(by have:=pU.out;omega);obtain⟨bc,oc,ZQ,hcell⟩:=wh um hlm;subst ZQ;obtain⟨x,ex⟩:∃x,x=((G[k]'pz.out).2)[m]'hlm:=⟨_,rfl⟩;have hxi:x<k:=(by rw[ex];exact(HGG.out.wf k _ (aa pz.out)).2 _ (ah _));rw[<-ex]at hcell;obtain⟨p,ep⟩:∃p,p=i*G.length:=⟨_,rfl⟩;obtain⟨q,eq⟩:∃q,q=p+x:=⟨_,rfl⟩;have hmul:((i:Nat):Int)*((G.length:Nat):Int)=((p:Nat):Int):=(by rw[ep];exact(Int.natCast_mul _ _).symm);have hadd:((p:Nat):Int)+((x:Nat):Int)=((q:Nat):Int):=(by rw[eq];exact(Int.natCast_add _ _).symm);have qU:q<at_.length:=(by rw[eq,ep,HS.out.1];omega);have hq3:at_.length<=300000:=xB.out;obtain⟨gA,eA,Vg⟩:=zq xQ.own qU;subst eA;have YX:((q:Nat):Int)<((at_.length:Nat):Int):=(by omega);have Aj:Hid (((F[i]'dK.out).2.map (λx=>at_.getD (x*G.length+k) 0))++((G[k]'pz.out).2.take (m+1)).map (λy=>at_.getD (i*G.length+y) 0)=(((F[i]'dK.out).2.map (λx=>at_.getD (x*G.length+k) 0))++((G[k]'pz.out).2.take m).map (λy=>at_.getD (i*G.length+y) 0))++[at_.getD q 0]):=aH (by
              rw[oO _ hlm,<-bY,<-ex,eq,ep])
             have hEQ:=aH (And.intro ex (And.intro ep eq));generalize hlr:(((F[i]'dK.out).2.map (λx=>at_.getD (x*G.length+k) 0))++((G[k]'pz.out).2.take m).map (λy=>at_.getD (i*G.length+y) 0))=lr at Ak Aj;have hN:lr.length<=700000:=(by rw[<-hlr];simp only[aj,aJ,ek];have:=pU.out;omega);have AY:=Ak.out;obtain⟨al,cl,rfl,-,-⟩:=bD AY.er;have hor:=AY.er;have Sb:=AY.ext.size;generalize hat:at_.getD q 0=aq at *;clear ex ep eq xQ uo um AY hlr hxi qU hat;go_wp2_with (at_builtin;refine bQ rfl (.tmp 137) (.tmp 154) 80 rfl wa.heap.size 3 i0 (.int .i64 0) 1 8 underlying80 hi0 hz0 hz1 hz2 rfl (by decide) (.slice al lr.length cl) lr.length _ rfl (hor.alloc _) _ 1 _ [.int .i64 ((aq:Nat):Int)] rfl rfl (.inr ⟨_,rfl,cK (bP _ _ _)⟩) one_cell (by unfold maxLen;omega) (by omega) (by rw[fw];omega) ?_;intro v5 w5 fI hg5 hl5)
             go_roundw
             case rel=>exact⟨m+1,by go_num,xW.out,aH (by rw[Aj.out];exact Ak.out.aa8 fI hg5 hl5)⟩
             case measure=>have:=xW.out;simp[intOf];omega
            .have xP:¬(((m:Nat):Int)<((((G[k]'pz.out).2.length:Nat):Nat):Int)):=by omega
             have hme:m=(G[k]'pz.out).2.length:=(by omega);have aam:Hid (LR wa wr BF u11 (((F[i]'dK.out).1.map (λx=>at_.getD (x*G.length+k) 0))++(G[k]'pz.out).1.map (λy=>at_.getD (i*G.length+y) 0)) (((F[i]'dK.out).2.map (λx=>at_.getD (x*G.length+k) 0))++((G[k]'pz.out).2).map (λy=>at_.getD (i*G.length+y) 0))):=aH (by have:=Ak.out;rw[hme,dz]at this;exact this);clear hme hlm xQ uo um Ak;have xQ:=HM.out.ext' aam.out.ext;have eL:DV F G at_ i k=(((F[i]'dK.out).1.map (λx=>at_.getD (x*G.length+k) 0))++(G[k]'pz.out).1.map (λy=>at_.getD (i*G.length+y) 0)):=(by unfold DV;rw[wB dK.out,wB pz.out]);have eR:DU F G at_ i k=(((F[i]'dK.out).2.map (λx=>at_.getD (x*G.length+k) 0))++(G[k]'pz.out).2.map (λy=>at_.getD (i*G.length+y) 0)):=(by unfold DU;rw[wB dK.out,wB pz.out]);have AY:=aam.out;rw[<-eL,<-eR]at AY;have hll:(DV F G at_ i k).length<=700000:=(by rw[eL];simp only[aj,aJ];have:=pU.out;omega);have hlr:(DU F G at_ i k).length<=700000:=(by rw[eR];simp only[aj,aJ];have:=pU.out;omega);obtain⟨hb1,hb2⟩:=Vr HS.out.2 HGF.out.wf HGG.out.wf dK.out pz.out HS.out.1;have hDl:=xQ.len;have hAl:=xB.out
             have hput:Calls prog 134 #[.pointer (some ⟨w.heap.size+3,0,none⟩),BF,u11] wr (GN (w.heap.size+3) vn vb D (DV F G at_ i k) (DU F G at_ i k) wr):=
              vK (w.heap.size+3) vn vb D _ _ _ _ wr xQ.bk (Ints.eO AY.el (by rw[bu];omega)) (Ints.eO AY.er (by rw[bu];omega)) hb1 hb2 (by omega) (by omega) (by omega)
             obtain⟨al,cl,rfl,-,-⟩:=bD AY.el;obtain⟨ar,cr,rfl,-,-⟩:=bD AY.er;have HMX:=aH xQ;have ak1:=xQ.go.keep.size;have ak2:w.heap.size+4<=we.heap.size:=(by have:=HZE.out;omega);have hrw:=λ(w3:World) (hK:fe (kR (w.heap.size+3) vn vb) wr w3)=>bO xQ.own hK (λb hb=>(xQ.sep b hb).2.ins)
             clear AY aam eL eR xQ
             go_wp2_with (first
              |(go_at_call 134;refine hput.mono ?_;rintro e w3 ⟨Bf,pF,D2,i2,rfl,hB3,hK3,yX,Tz,hP3⟩;have hor:=hrw w3 hK3;have hz3:=hK3.size)
              |(at_builtin;refine bQ rfl (.tmp 156) (.tmp 161) 80 rfl we.heap.size 3 i0 (.int .i64 0) 1 8 underlying80 hi0 hz0 hz1 hz2 rfl (by decide) (.slice aA at_.length cA) at_.length _ rfl (hor.alloc _) _ 1 _ [.int .i64 ((i2:Nat):Int)] rfl rfl (.inr ⟨_,rfl,cK (bP _ _ _)⟩) one_cell (by unfold maxLen;omega) (by omega) (by rw[fw];omega) ?_;intro v5 w5 fI hg5 hl5))
             go_roundg (G.length-(k+1))
             case measure=>have:=pz.out;have:=Vm.out;omega
             case rel=>
              have hgo:=gZ.K7 hK3 yX Tz hP3;have h1:=HMX.out.bk.good.wf;have h2:=hB3.good.wf;exact⟨k+1,Bf,pF,D2,at_++[i2],by go_num,pz.out,HMX.out.push hB3 hgo hP3 (by omega) fI hg5 hl5,aH ⟨by rw[aj,HS.out.1];simp;omega,(HS.out.2.more h1 h2 hgo.more).snoc HS.out.1 pz.out hP3.lt (QR h1 h2 HGF.out.wf HGG.out.wf dK.out pz.out HS.out.2 HS.out.1 hP3)⟩,aH rfl⟩
    .have hke:¬(((k:Nat):Int)<((G.length:Nat):Int)):=by omega
     have HKK:Hid (k=G.length):=aH (by omega);clear hkl;go_wp2
     go_roundw
     case rel=>exact⟨i+1,vn,vb,D,at_,by go_num,dK.out,hM,aH ⟨by rw[HS.out.1,HKK.out,Nat.succ_mul],HS.out.2⟩⟩
     case measure=>have:=dK.out;simp[intOf];omega
  .have hil:¬(((i:Nat):Int)<((F.length:Nat):Int)):=by omega
   have hie:i=F.length:=(by omega);have hlen:at_.length=F.length*G.length:=(by rw[HS.out.1,hie]);have hpos:0<at_.length:=(by rw[hlen];exact Nat.mul_pos f0 g0);have hroot:(F.length-1)*G.length+(G.length-1)<at_.length:=(by rw[hlen];exact vO (by omega) (by omega));have ab1:at_.length-1=(F.length-1)*G.length+(G.length-1):=by
    have e:F.length*G.length=(F.length-1)*G.length+G.length:=by
     conv=>lhs;rw[show F.length=(F.length-1)+1 by omega,nZ,Nat.one_mul]
    omega
   obtain⟨hrl,hrs⟩:=HS.out.2.at (i:=F.length-1) (k:=G.length-1) (by omega) hroot;rw[<-ab1]at hrl hrs;obtain⟨gA,eA,hcell⟩:∃gA,∃cA,u7=.slice (some ⟨gA,0,none⟩) at_.length cA/\wr.cell? ⟨gA,at_.length-1,none⟩=some (.int .i64 ((at_.getD (at_.length-1) 0:Nat):Int)):=by
    obtain⟨a,c,rfl,-,-⟩:=bD hM.own;obtain⟨g,rfl,hc⟩:=zq hM.own (q:=at_.length-1) (by omega);exact⟨g,c,rfl,hc⟩
   obtain⟨rfl,hcell⟩:=hcell;have hB:=hM.bk;have hres:=hM.b2;have Sb:=hM.ext.size;have hsm:∀H:dC,bz.fq H->Same (eu H) (vl D (at_.getD (at_.length-1) 0))->H.length<=F.length*G.length:=λH hI hS=>by
    have:=xR (at_:=List.range D.length) hB.good hrl hI hS (dA.2 hrl) (λj side x hj hx=>dA.2 (by have:=kE hB.good.wf hx;have:=dA.1 hj;omega));rw[og]at this;have:=hM.len;omega
   have abF:Same (vl D (at_.getD (at_.length-1) 0)) (plus (eu F) (eu G)):=hrs;have Vk:=aH (And.intro hsm abF);have HE:=aH hM.ext;have hal:at_.length<=300000:=(by rw[hlen];exact Yg.out);obtain⟨nA,hnA⟩:∃nA,nA=at_.length:=⟨_,rfl⟩;rw[<-hnA]at hpos hal hcell hrl ⊢;rw[<-hnA]at Vk;generalize at_.getD (nA-1) 0=root at *;have hwk:wrap64 ((nA:Int)-1)=((nA-1:Nat):Int):=(by unfold wrap64;omega);have Wm:((nA-1:Nat):Int)<(nA:Int):=(by omega);clear hM HS hsm hrs abF hlen hroot ab1 hie hnA
   go_wp2_with (first
    |(go_at_call 133;refine(y7 _ vn vb D root _ hB hrl).mono ?_;rintro e w7 ⟨vN,F',rfl,XZ,hIF,XW,hx7⟩
      obtain⟨aN,cN,rfl,-⟩:=id XZ;have uL:w7.heap[w.heap.size+2]?=some (.cells #[.slice none 0 0] 28 (0,0)):=(by rw[hx7.block _ (bG hres)];exact hres);have cr7:=cell_of_row w7 (w.heap.size+2) 0 _ _ _ uL;have fr7:=frozen_of_row w7 (w.heap.size+2) 0 _ _ uL;have hh:=heap_setCell_same w7 (w.heap.size+2) 0 _ _ (.slice aN F'.length cN) uL;have HH:Hid ((w7.setCell ⟨w.heap.size+2,0,none⟩ (.slice aN F'.length cN)).heap[w.heap.size+2]?=some (.cells #[.slice aN F'.length cN] 28 (0,0))):=hh;clear hh))
   (try simp only[Exit.inBlock,Exit.then]);refine bodyPost_ret (results_cell_row rfl _ _ (w.heap.size+2) 28 #[.slice aN F'.length cN] (0,0) _ rfl HH.out underlying28 rfl (by kernel_rfl)) rfl ?_;have hE7:Ext w w7:=ay HE.out hx7;have hN8:=(XZ.set (p:=⟨w.heap.size+2,0,none⟩) (by show w.heap.size+2<wr.heap.size;exact bG hres) (.slice aN F'.length cN)).weaken (base':=w.heap.size) HE.out.size;exact⟨_,F',rfl,hN8,hIF,bz.ik XW Vk.out.2,Vk.out.1 F' hIF XW,hE7.setCell (p:=⟨w.heap.size+2,0,none⟩) (by show w.heap.size<=w.heap.size+2;omega) _⟩
end Go.Proofs.YteknjeohbcgpdaaGreatDoor