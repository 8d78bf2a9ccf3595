/- 45 -/
import Derived.Test.YtplgooajigigkaaGreatDoorK25
set_option maxRecDepth 100000
set_option maxHeartbeats 4000000
namespace Go.Proofs.YtplgooajigigkaaGreatDoor
open Tryz
open Go.RowKit
open bE (dh Nd vl Same plus bz)
variable {W:World} {a:Option Addr} {n c m:Nat}
def abx(F G:dh)(w:World)(e:Ending)(w':World):Prop:=
 ∃vN H,e=.returned (.agg #[vN])/\dI w' w.heap.size vN H/\bE.bI H/\Same (bz H) (plus (bz F) (bz G))/\H.length<=F.length*G.length/\Ext w w'
theorem zt{w:World}{X:Obj}{k:Nat}(h:k=w.heap.size):(w.alloc X).heap[k]?=some X:=by subst h;exact eu w X
theorem zh{F:dh}{i:Nat}(hi:i<F.length):F.getD i ([],[])=F[i]:=by rw[bD,af hi];rfl
theorem BS{B:Nat}{at_:List Nat}(h:W.ownsRow B 3 1 (.slice a n c) at_.length ((dB at_).map (Value.int .i64))){q:Nat}(hq:q<at_.length):
 ∃g,a=some ⟨g,0,none⟩/\W.cell? ⟨g,q,none⟩=some (.int .i64 ((at_.getD q 0:Nat):Int)):=by
 obtain⟨g,cap,e,_,_,hc⟩:=iy h (by omega);simp only[il]at e;obtain⟨rfl,-,-⟩:=e;refine⟨g,rfl,?_⟩;rw[hc q (by omega),bD,af hq];simp[dB,hq]
theorem qL{l:List Nat}(h:Ints W (.slice a n c) (dB l))(hm:m<l.length):∃b off,a=some ⟨b,off,none⟩/\W.cell? ⟨b,off+m,none⟩=some (.int .i64 ((l[m]:Nat):Int)):=by
 obtain⟨a',c',e,_,_,hc⟩:=h;simp only[il]at e;obtain⟨rfl,-,rfl⟩:=e;obtain⟨b,off,rfl,hb⟩:=hc (by rw[bG];omega);exact⟨b,off,rfl,by rw[hb m (by rw[bG];exact hm),iA hm]⟩
theorem qQ{α β:Type}{l:List α}(f:α->β)(hm:m<l.length):(l.take (m+1)).map f=(l.take m).map f++[f l[m]]:=by
 rw[bJ hm,dw];rfl
theorem SQ(vf vg:Value)(F G:dh)(w:World)(hf:dI w 0 vf F)(hg:dI w 0 vg G)(gF:bE.Good F)(gG:bE.Good G)(f0:0<F.length)(g0:0<G.length)(hroom:F.length*G.length<=300000):
 Calls prog 300 #[.agg #[vf],.agg #[vg]] w (abx F G w):=by
 obtain⟨i0,hi0,hz0,hz1,hz2⟩:=info_parts iU;obtain⟨aF,cF,rfl,Nh,hmF⟩:∃a c,vf=.slice a F.length c/\F.length<=c/\F.length<=maxLen:=by obtain⟨a,c,e,h1,h2,_⟩:=id hf;exact⟨a,c,e,h1,h2⟩
 obtain⟨aG,cG,rfl,hcG,hmG⟩:∃a c,vg=.slice a G.length c/\G.length<=c/\G.length<=maxLen:=by obtain⟨a,c,e,h1,h2,_⟩:=id hg;exact⟨a,c,e,h1,h2⟩
 have Pm:F.length<=300000:=bZ (Nat.le_mul_of_pos_right _ g0) hroom;have hGl:G.length<=300000:=bZ (Nat.le_mul_of_pos_left _ f0) hroom;have HF:=aW hf;have HG:=aW hg;have YY:=aW gF;have HGG:=aW gG;have acK:=aW hroom;clear hf hg gF gG hroom Nh hcG hmF hmG;go_enter Tryz.func300,Tryz.ntmps300
 go_upto_region 5 with fail
 rw[show w.heap.size+1+1+1+1=w.heap.size+4 from rfl,show w.heap.size+1+1+1=w.heap.size+3 from rfl];obtain⟨we,Dh⟩:=fu ((((w.alloc (.cells #[.slice aF F.length cF] 30)).alloc (.cells #[.slice aG G.length cG] 30)).alloc (.cells #[.slice none 0 0] 30)).alloc (.cells #[.slice none 0 0,.slice none 0 0] 109));have WG:we.heap.size=w.heap.size+4:=by rw[Dh];simp only[fU]
 have hb0:we.heap[w.heap.size]?=some (.cells #[.slice aF F.length cF] 30 (0,0)):=by
  rw[Dh,jo _ _ _ (by simp only[fU];omega),jo _ _ _ (by simp only[fU];omega),jo _ _ _ (by simp only[fU];omega)];exact zt rfl
 have hb1:we.heap[w.heap.size+1]?=some (.cells #[.slice aG G.length cG] 30 (0,0)):=by
  rw[Dh,jo _ _ _ (by simp only[fU];omega),jo _ _ _ (by simp only[fU];omega)];exact zt (by simp only[fU])
 have hb2:we.heap[w.heap.size+2]?=some (.cells #[.slice none 0 0] 30 (0,0)):=by
  rw[Dh,jo _ _ _ (by simp only[fU];omega)];exact zt (by simp only[fU])
 have hb3:we.heap[w.heap.size+3]?=some (.cells #[.slice none 0 0,.slice none 0 0] 109 (0,0)):=by
  rw[Dh];exact zt (by simp only[fU])
 have hxe:Ext w we:=by rw[Dh];go_grown
 rw[<-Dh];have Cb:=qM hb3;have hxa:Ext we (we.alloc (.cells #[] 3)):=bY (gz _ _) _;have hsd:∀b,b<w.heap.size+3->Beside we (w.heap.size+3) (.slice none 0 0) (.slice none 0 0) [] b:=λb hb=>⟨λk=>by
  rcases k with h|h|h
  .omega
  .simp[Value.ownBlock]at h
  .simp[Value.ownBlock]at h,λ⟨i,g,cap,v,hi,_⟩=>by simp at hi⟩
 have hM0:SM w we (we.alloc (.cells #[] 3)) (.slice aF F.length cF) (.slice aG G.length cG) (.slice (some ⟨we.heap.size,0,none⟩) 0 0) (.slice none 0 0) (.slice none 0 0) [] []:=
  ⟨Cb.ext hxa,fO.ext Cb hxa,ik hxa hb0,ik hxa hb1,ik hxa hb2,iB we _ (aJ _) _,λb hb=>by
   simp[Value.ownBlock]at hb;subst hb;exact⟨aJ _,(Beside.new Cb (aJ _)).Ki Cb hxa⟩,λb hb=>(hsd b hb).Ki Cb hxa,ah hxe hxa,aJ _⟩
 have HZE:=aW WG;rw[<-WG];clear Dh WG hb0 hb1 hb2 hb3 hxe Cb hxa hsd;generalize we.alloc (.cells #[] 3)=W0 at *;obtain⟨n,hn⟩:=fu G.length;obtain⟨f,hfn⟩:=fu F.length;go_loopw [7,8,9,10,11,12,13,14,15] (λav ii _ _ _ _ _ _ _ wr=>∃(i:Nat) (vn vb:Value) (D:dh) (at_:List Nat),ii=.int .i64 ((i:Nat):Int)/\i<=F.length/\SM w we wr (.slice aF F.length cF) (.slice aG G.length cG) av vn vb D at_/\Hid (at_.length=i*G.length/\ug D F G at_)) (λ_ ii _ _ _ _ _ _ _ _=>F.length-(intOf ii).toNat)
 case atStart=>exact⟨0,_,_,[],[],rfl,aU _,hM0,aW ⟨by simp,ug.nil _ _ _⟩⟩
 case round=>
  clear hM0;obtain⟨i,vn,vb,D,at_,rfl,hi,hM,HS⟩:=hrel;have c0:=bQ wr w.heap.size 0 _ _ _ hM.b0;simp only[gE]at c0;by_cases hlt:i<F.length
  .have hil:((i:Nat):Int)<((F.length:Nat):Int):=by omega
   have kg:=aW hlt;clear hlt;go_wp2
   go_loopg [7,9,10,11,12,13,14,15] (G.length) (λgk av kk _ _ _ _ _ _ wr=>∃(k:Nat) (vn vb:Value) (D:dh) (at_:List Nat),kk=.int .i64 ((k:Nat):Int)/\k<=G.length/\SM w we wr (.slice aF F.length cF) (.slice aG G.length cG) av vn vb D at_/\Hid (at_.length=i*G.length+k/\ug D F G at_)/\Hid (gk=G.length-k))
   case atStart=>exact⟨0,vn,vb,D,at_,rfl,aU _,hM,aW ⟨by rw[HS.out.1];rfl,HS.out.2⟩,aW rfl⟩
   case round=>
    clear hM HS c0;obtain⟨k,vn,vb,D,at_,rfl,hk,hM,HS,HGK⟩:=hrel;by_cases hkl:k<G.length
    .have hkl':((k:Nat):Int)<((G.length:Nat):Int):=by omega
     have rJ:=aW hkl;clear hkl;go_upto_region 11 with fail
     have zw:Hid (at_.length<=300000):=aW (by rw[HS.out.1];have:=yR kg.out rJ.out;have:=acK.out;omega);have sU:Hid ((F[i]'kg.out).1.length<=300000/\(F[i]'kg.out).2.length<=300000/\(G[k]'rJ.out).1.length<=300000/\(G[k]'rJ.out).2.length<=300000):=aW (by
      have h1:=vQ YY.out kg.out;have h2:=vQ HGG.out rJ.out;omega)
     obtain⟨wa,hwa⟩:=fu wr;rw[<-hwa]at hM ⊢;clear hwa
     have an2:Hid (LR wa ((wa.alloc (.cells #[] 3)).alloc (.cells #[] 3)) (.slice (some ⟨wa.heap.size,0,none⟩) 0 0) (.slice (some ⟨wa.heap.size+1,0,none⟩) 0 0) [] []):=aW
      ⟨(iB wa _ (aJ _) _).alloc _,og wa _ _ (aJ _) _,λb hb e=>by simp[Value.ownBlock]at hb e;omega,by go_grown⟩
     obtain⟨aA,cA,rfl,-,-⟩:=bT hM.own;have HM:=aW hM;clear hM;go_wp2
     go_loopw [10,12] (λrv mm wr=>∃m:Nat,mm=.int .i64 ((m:Nat):Int)/\m<=(F[i]'kg.out).1.length/\Hid (LR wa wr rv (.slice (some ⟨wa.heap.size+1,0,none⟩) 0 0) (((F[i]'kg.out).1.take m).map (λx=>at_.getD (x*G.length+k) 0)) [])) (λ_ mm _=>(F[i]'kg.out).1.length-(intOf mm).toNat)
     case atStart=>exact⟨0,rfl,aU _,aW (by simp only[List.take_zero,List.map_nil,gN];exact an2.out)⟩
     case round=>
      obtain⟨m,rfl,hm,Ar⟩:=hrel;have Ai:=HM.out.ext' Ar.out.ext;have cb:=bQ wr (w.heap.size) 0 _ _ _ Ai.b0;simp only[gE]at cb;obtain⟨bX,cX,aL,cL,aR,cR,he,-,nl,nr,xg,xe⟩:=(HF.out.ext Ai.ext).at kg.out;simp only[il,true_and,bU,Addr.mk.injEq,and_true]at he;obtain⟨rfl,rfl⟩:=he;have hxl:((i:Nat):Int)<((F.length:Nat):Int):=(by have:=kg.out;omega);by_cases hlm:m<(F[i]'kg.out).1.length
      .have zz:((m:Nat):Int)<((((F[i]'kg.out).1.length:Nat):Nat):Int):=by omega
       have J7:=aW hlm;have hlb:(F[i]'kg.out).1.length<=300000:=(by have:=sU.out;omega);obtain⟨bc,oc,eac,hcell⟩:=qL xg hlm;subst eac;obtain⟨x,ex⟩:=fu (((F[i]'kg.out).1)[m]'hlm);have hxi:x<i:=(by rw[ex];exact(YY.out.wf i _ (af kg.out)).1 _ (ai _));rw[<-ex]at hcell;obtain⟨p,ep⟩:=fu (x*G.length);obtain⟨q,eq⟩:=fu (p+k);have hmul:((x:Nat):Int)*((G.length:Nat):Int)=((p:Nat):Int):=(by rw[ep];exact(Int.natCast_mul _ _).symm);have hadd:((p:Nat):Int)+((k:Nat):Int)=((q:Nat):Int):=(by rw[eq];exact(Int.natCast_add _ _).symm);have uP:q<at_.length:=(by rw[eq,ep,HS.out.1];have:=yR hxi rJ.out;omega);have hq3:at_.length<=300000:=zw.out;obtain⟨gA,eA,Xy⟩:=BS Ai.own uP;subst eA;have adr:((q:Nat):Int)<((at_.length:Nat):Int):=(by omega);have Dm:Hid (((F[i]'kg.out).1.take (m+1)).map (λx=>at_.getD (x*G.length+k) 0)=(((F[i]'kg.out).1.take m).map (λx=>at_.getD (x*G.length+k) 0))++[at_.getD q 0]):=aW (by
        rw[qQ _ hlm,<-ex,eq,ep])
       have hEQ:=nY ex ep eq;generalize hlr:(((F[i]'kg.out).1.take m).map (λx=>at_.getD (x*G.length+k) 0))=lr at Ar Dm;have hN:lr.length<=700000:=(by rw[<-hlr];simp only[bu,bK,gV];have:=sU.out;omega);have Dk:=Ar.out;obtain⟨al,cl,rfl,-,-⟩:=bT Dk.el;have hor:=Dk.el;have hzr:=Dk.ext.size;generalize hat:at_.getD q 0=aq at *;clear ex ep eq Ai xg xe Dk hlr hxi uP hat;go_wp2_with (at_builtin;refine eO rfl (.tmp 47) (.tmp 64) 41 rfl wa.heap.size 3 i0 (.int .i64 0) 1 8 underlying41 hi0 hz0 hz1 hz2 rfl (by decide) (.slice al lr.length cl) lr.length _ rfl (hor.alloc _) _ 1 _ [.int .i64 ((aq:Nat):Int)] rfl rfl (.inr ⟨_,rfl,fD (dW _ _ _)⟩) one_cell (by unfold maxLen;omega) (by omega) (by rw[fU];omega) ?_;intro v5 w5 lq hg5 hl5)
       go_roundw
       case rel=>exact⟨m+1,by go_num,J7.out,aW (by rw[Dm.out];exact Ar.out.afR lq hg5 hl5)⟩
       case measure=>have:=J7.out;simp[intOf];omega
      .have zz:¬(((m:Nat):Int)<((((F[i]'kg.out).1.length:Nat):Nat):Int)):=by omega
       have hme:m=(F[i]'kg.out).1.length:=(by omega);have an1:Hid (LR wa wr u10 (.slice (some ⟨wa.heap.size+1,0,none⟩) 0 0) (((F[i]'kg.out).1).map (λx=>at_.getD (x*G.length+k) 0)) []):=aW (by have:=Ar.out;rw[hme,dZ]at this;exact this);clear hme hlm Ai xg xe Ar;go_wp2
       go_loopw [10,13] (λrv mm wr=>∃m:Nat,mm=.int .i64 ((m:Nat):Int)/\m<=(G[k]'rJ.out).1.length/\Hid (LR wa wr rv (.slice (some ⟨wa.heap.size+1,0,none⟩) 0 0) (((F[i]'kg.out).1.map (λx=>at_.getD (x*G.length+k) 0))++((G[k]'rJ.out).1.take m).map (λy=>at_.getD (i*G.length+y) 0)) [])) (λ_ mm _=>(G[k]'rJ.out).1.length-(intOf mm).toNat)
       case atStart=>exact⟨0,rfl,aU _,aW (by simp only[List.take_zero,List.map_nil,gN];exact an1.out)⟩
       case round=>
        obtain⟨m,rfl,hm,Ar⟩:=hrel;have Ai:=HM.out.ext' Ar.out.ext;have cb:=bQ wr (w.heap.size+1) 0 _ _ _ Ai.b1;simp only[gE]at cb;obtain⟨bX,cX,aL,cL,aR,cR,he,-,nl,nr,xg,xe⟩:=(HG.out.ext Ai.ext).at rJ.out;simp only[il,true_and,bU,Addr.mk.injEq,and_true]at he;obtain⟨rfl,rfl⟩:=he;have hxl:((k:Nat):Int)<((G.length:Nat):Int):=(by have:=rJ.out;omega);by_cases hlm:m<(G[k]'rJ.out).1.length
        .have zz:((m:Nat):Int)<((((G[k]'rJ.out).1.length:Nat):Nat):Int):=by omega
         have J7:=aW hlm;have hlb:(G[k]'rJ.out).1.length<=300000:=(by have:=sU.out;omega);obtain⟨bc,oc,eac,hcell⟩:=qL xg hlm;subst eac;obtain⟨x,ex⟩:=fu (((G[k]'rJ.out).1)[m]'hlm);have hxi:x<k:=(by rw[ex];exact(HGG.out.wf k _ (af rJ.out)).1 _ (ai _));rw[<-ex]at hcell;obtain⟨p,ep⟩:=fu (i*G.length);obtain⟨q,eq⟩:=fu (p+x);have hmul:((i:Nat):Int)*((G.length:Nat):Int)=((p:Nat):Int):=(by rw[ep];exact(Int.natCast_mul _ _).symm);have hadd:((p:Nat):Int)+((x:Nat):Int)=((q:Nat):Int):=(by rw[eq];exact(Int.natCast_add _ _).symm);have uP:q<at_.length:=(by rw[eq,ep,HS.out.1];omega);have hq3:at_.length<=300000:=zw.out;obtain⟨gA,eA,Xy⟩:=BS Ai.own uP;subst eA;have adr:((q:Nat):Int)<((at_.length:Nat):Int):=(by omega);have Dm:Hid (((F[i]'kg.out).1.map (λx=>at_.getD (x*G.length+k) 0))++((G[k]'rJ.out).1.take (m+1)).map (λy=>at_.getD (i*G.length+y) 0)=(((F[i]'kg.out).1.map (λx=>at_.getD (x*G.length+k) 0))++((G[k]'rJ.out).1.take m).map (λy=>at_.getD (i*G.length+y) 0))++[at_.getD q 0]):=aW (by
          rw[qQ _ hlm,<-dY,<-ex,eq,ep])
         have hEQ:=nY ex ep eq;generalize hlr:(((F[i]'kg.out).1.map (λx=>at_.getD (x*G.length+k) 0))++((G[k]'rJ.out).1.take m).map (λy=>at_.getD (i*G.length+y) 0))=lr at Ar Dm;have hN:lr.length<=700000:=(by rw[<-hlr];simp only[bu,bK,gV];have:=sU.out;omega);have Dk:=Ar.out;obtain⟨al,cl,rfl,-,-⟩:=bT Dk.el;have hor:=Dk.el;have hzr:=Dk.ext.size;generalize hat:at_.getD q 0=aq at *;clear ex ep eq Ai xg xe Dk hlr hxi uP hat;go_wp2_with (at_builtin;refine eO rfl (.tmp 77) (.tmp 94) 41 rfl wa.heap.size 3 i0 (.int .i64 0) 1 8 underlying41 hi0 hz0 hz1 hz2 rfl (by decide) (.slice al lr.length cl) lr.length _ rfl (hor.alloc _) _ 1 _ [.int .i64 ((aq:Nat):Int)] rfl rfl (.inr ⟨_,rfl,fD (dW _ _ _)⟩) one_cell (by unfold maxLen;omega) (by omega) (by rw[fU];omega) ?_;intro v5 w5 lq hg5 hl5)
         go_roundw
         case rel=>exact⟨m+1,by go_num,J7.out,aW (by rw[Dm.out];exact Ar.out.afR lq hg5 hl5)⟩
         case measure=>have:=J7.out;simp[intOf];omega
        .have zz:¬(((m:Nat):Int)<((((G[k]'rJ.out).1.length:Nat):Nat):Int)):=by omega
         have hme:m=(G[k]'rJ.out).1.length:=(by omega);have aiW:Hid (LR wa wr u10 (.slice (some ⟨wa.heap.size+1,0,none⟩) 0 0) (((F[i]'kg.out).1.map (λx=>at_.getD (x*G.length+k) 0))++((G[k]'rJ.out).1).map (λy=>at_.getD (i*G.length+y) 0)) []):=aW (by have:=Ar.out;rw[hme,dZ]at this;exact this);clear hme hlm Ai xg xe Ar;obtain⟨Gg,elv⟩:=fu u10;rw[<-elv]at aiW ⊢;clear elv;go_wp2
         go_loopw [11,14] (λrv mm wr=>∃m:Nat,mm=.int .i64 ((m:Nat):Int)/\m<=(F[i]'kg.out).2.length/\Hid (LR wa wr Gg rv (((F[i]'kg.out).1.map (λx=>at_.getD (x*G.length+k) 0))++(G[k]'rJ.out).1.map (λy=>at_.getD (i*G.length+y) 0)) (((F[i]'kg.out).2.take m).map (λx=>at_.getD (x*G.length+k) 0)))) (λ_ mm _=>(F[i]'kg.out).2.length-(intOf mm).toNat)
         case atStart=>exact⟨0,rfl,aU _,aW (by simp only[List.take_zero,List.map_nil,gN];exact aiW.out)⟩
         case round=>
          obtain⟨m,rfl,hm,Ar⟩:=hrel;have Ai:=HM.out.ext' Ar.out.ext;have cb:=bQ wr (w.heap.size) 0 _ _ _ Ai.b0;simp only[gE]at cb;obtain⟨bX,cX,aL,cL,aR,cR,he,-,nl,nr,xg,xe⟩:=(HF.out.ext Ai.ext).at kg.out;simp only[il,true_and,bU,Addr.mk.injEq,and_true]at he;obtain⟨rfl,rfl⟩:=he;have hxl:((i:Nat):Int)<((F.length:Nat):Int):=(by have:=kg.out;omega);by_cases hlm:m<(F[i]'kg.out).2.length
          .have zz:((m:Nat):Int)<((((F[i]'kg.out).2.length:Nat):Nat):Int):=by omega
           have J7:=aW hlm;have hlb:(F[i]'kg.out).2.length<=300000:=(by have:=sU.out;omega);obtain⟨bc,oc,eac,hcell⟩:=qL xe hlm;subst eac;obtain⟨x,ex⟩:=fu (((F[i]'kg.out).2)[m]'hlm);have hxi:x<i:=(by rw[ex];exact(YY.out.wf i _ (af kg.out)).2 _ (ai _));rw[<-ex]at hcell;obtain⟨p,ep⟩:=fu (x*G.length);obtain⟨q,eq⟩:=fu (p+k);have hmul:((x:Nat):Int)*((G.length:Nat):Int)=((p:Nat):Int):=(by rw[ep];exact(Int.natCast_mul _ _).symm);have hadd:((p:Nat):Int)+((k:Nat):Int)=((q:Nat):Int):=(by rw[eq];exact(Int.natCast_add _ _).symm);have uP:q<at_.length:=(by rw[eq,ep,HS.out.1];have:=yR hxi rJ.out;omega);have hq3:at_.length<=300000:=zw.out;obtain⟨gA,eA,Xy⟩:=BS Ai.own uP;subst eA;have adr:((q:Nat):Int)<((at_.length:Nat):Int):=(by omega);have Dm:Hid (((F[i]'kg.out).2.take (m+1)).map (λx=>at_.getD (x*G.length+k) 0)=(((F[i]'kg.out).2.take m).map (λx=>at_.getD (x*G.length+k) 0))++[at_.getD q 0]):=aW (by
            rw[qQ _ hlm,<-ex,eq,ep])
           have hEQ:=nY ex ep eq;generalize hlr:(((F[i]'kg.out).2.take m).map (λx=>at_.getD (x*G.length+k) 0))=lr at Ar Dm;have hN:lr.length<=700000:=(by rw[<-hlr];simp only[bu,bK,gV];have:=sU.out;omega);have Dk:=Ar.out;obtain⟨al,cl,rfl,-,-⟩:=bT Dk.er;have hor:=Dk.er;have hzr:=Dk.ext.size;generalize hat:at_.getD q 0=aq at *;clear ex ep eq Ai xg xe Dk hlr hxi uP hat;go_wp2_with (at_builtin;refine eO rfl (.tmp 107) (.tmp 124) 41 rfl wa.heap.size 3 i0 (.int .i64 0) 1 8 underlying41 hi0 hz0 hz1 hz2 rfl (by decide) (.slice al lr.length cl) lr.length _ rfl (hor.alloc _) _ 1 _ [.int .i64 ((aq:Nat):Int)] rfl rfl (.inr ⟨_,rfl,fD (dW _ _ _)⟩) one_cell (by unfold maxLen;omega) (by omega) (by rw[fU];omega) ?_;intro v5 w5 lq hg5 hl5)
           go_roundw
           case rel=>exact⟨m+1,by go_num,J7.out,aW (by rw[Dm.out];exact Ar.out.afQ lq hg5 hl5)⟩
           case measure=>have:=J7.out;simp[intOf];omega
          .have zz:¬(((m:Nat):Int)<((((F[i]'kg.out).2.length:Nat):Nat):Int)):=by omega
           have hme:m=(F[i]'kg.out).2.length:=(by omega);have an0:Hid (LR wa wr Gg u11 (((F[i]'kg.out).1.map (λx=>at_.getD (x*G.length+k) 0))++(G[k]'rJ.out).1.map (λy=>at_.getD (i*G.length+y) 0)) (((F[i]'kg.out).2).map (λx=>at_.getD (x*G.length+k) 0))):=aW (by have:=Ar.out;rw[hme,dZ]at this;exact this);clear hme hlm Ai xg xe Ar;go_wp2
           go_loopw [11,15] (λrv mm wr=>∃m:Nat,mm=.int .i64 ((m:Nat):Int)/\m<=(G[k]'rJ.out).2.length/\Hid (LR wa wr Gg rv (((F[i]'kg.out).1.map (λx=>at_.getD (x*G.length+k) 0))++(G[k]'rJ.out).1.map (λy=>at_.getD (i*G.length+y) 0)) (((F[i]'kg.out).2.map (λx=>at_.getD (x*G.length+k) 0))++((G[k]'rJ.out).2.take m).map (λy=>at_.getD (i*G.length+y) 0)))) (λ_ mm _=>(G[k]'rJ.out).2.length-(intOf mm).toNat)
           case atStart=>exact⟨0,rfl,aU _,aW (by simp only[List.take_zero,List.map_nil,gN];exact an0.out)⟩
           case round=>
            obtain⟨m,rfl,hm,Ar⟩:=hrel;have Ai:=HM.out.ext' Ar.out.ext;have cb:=bQ wr (w.heap.size+1) 0 _ _ _ Ai.b1;simp only[gE]at cb;obtain⟨bX,cX,aL,cL,aR,cR,he,-,nl,nr,xg,xe⟩:=(HG.out.ext Ai.ext).at rJ.out;simp only[il,true_and,bU,Addr.mk.injEq,and_true]at he;obtain⟨rfl,rfl⟩:=he;have hxl:((k:Nat):Int)<((G.length:Nat):Int):=(by have:=rJ.out;omega);by_cases hlm:m<(G[k]'rJ.out).2.length
            .have zz:((m:Nat):Int)<((((G[k]'rJ.out).2.length:Nat):Nat):Int):=by omega
             have J7:=aW hlm;have hlb:(G[k]'rJ.out).2.length<=300000:=(by have:=sU.out;omega);obtain⟨bc,oc,eac,hcell⟩:=qL xe hlm;subst eac;obtain⟨x,ex⟩:=fu (((G[k]'rJ.out).2)[m]'hlm);have hxi:x<k:=(by rw[ex];exact(HGG.out.wf k _ (af rJ.out)).2 _ (ai _));rw[<-ex]at hcell;obtain⟨p,ep⟩:=fu (i*G.length);obtain⟨q,eq⟩:=fu (p+x);have hmul:((i:Nat):Int)*((G.length:Nat):Int)=((p:Nat):Int):=(by rw[ep];exact(Int.natCast_mul _ _).symm);have hadd:((p:Nat):Int)+((x:Nat):Int)=((q:Nat):Int):=(by rw[eq];exact(Int.natCast_add _ _).symm);have uP:q<at_.length:=(by rw[eq,ep,HS.out.1];omega);have hq3:at_.length<=300000:=zw.out;obtain⟨gA,eA,Xy⟩:=BS Ai.own uP;subst eA;have adr:((q:Nat):Int)<((at_.length:Nat):Int):=(by omega);have Dm:Hid (((F[i]'kg.out).2.map (λx=>at_.getD (x*G.length+k) 0))++((G[k]'rJ.out).2.take (m+1)).map (λy=>at_.getD (i*G.length+y) 0)=(((F[i]'kg.out).2.map (λx=>at_.getD (x*G.length+k) 0))++((G[k]'rJ.out).2.take m).map (λy=>at_.getD (i*G.length+y) 0))++[at_.getD q 0]):=aW (by
              rw[qQ _ hlm,<-dY,<-ex,eq,ep])
             have hEQ:=nY ex ep eq;generalize hlr:(((F[i]'kg.out).2.map (λx=>at_.getD (x*G.length+k) 0))++((G[k]'rJ.out).2.take m).map (λy=>at_.getD (i*G.length+y) 0))=lr at Ar Dm;have hN:lr.length<=700000:=(by rw[<-hlr];simp only[bu,bK,gV];have:=sU.out;omega);have Dk:=Ar.out;obtain⟨al,cl,rfl,-,-⟩:=bT Dk.er;have hor:=Dk.er;have hzr:=Dk.ext.size;generalize hat:at_.getD q 0=aq at *;clear ex ep eq Ai xg xe Dk hlr hxi uP hat;go_wp2_with (at_builtin;refine eO rfl (.tmp 137) (.tmp 154) 41 rfl wa.heap.size 3 i0 (.int .i64 0) 1 8 underlying41 hi0 hz0 hz1 hz2 rfl (by decide) (.slice al lr.length cl) lr.length _ rfl (hor.alloc _) _ 1 _ [.int .i64 ((aq:Nat):Int)] rfl rfl (.inr ⟨_,rfl,fD (dW _ _ _)⟩) one_cell (by unfold maxLen;omega) (by omega) (by rw[fU];omega) ?_;intro v5 w5 lq hg5 hl5)
             go_roundw
             case rel=>exact⟨m+1,by go_num,J7.out,aW (by rw[Dm.out];exact Ar.out.afQ lq hg5 hl5)⟩
             case measure=>have:=J7.out;simp[intOf];omega
            .have zz:¬(((m:Nat):Int)<((((G[k]'rJ.out).2.length:Nat):Nat):Int)):=by omega
             have hme:m=(G[k]'rJ.out).2.length:=(by omega);have aeE:Hid (LR wa wr Gg u11 (((F[i]'kg.out).1.map (λx=>at_.getD (x*G.length+k) 0))++(G[k]'rJ.out).1.map (λy=>at_.getD (i*G.length+y) 0)) (((F[i]'kg.out).2.map (λx=>at_.getD (x*G.length+k) 0))++((G[k]'rJ.out).2).map (λy=>at_.getD (i*G.length+y) 0))):=aW (by have:=Ar.out;rw[hme,dZ]at this;exact this);clear hme hlm Ai xg xe Ar;have Ai:=HM.out.ext' aeE.out.ext;have eL:Gr F G at_ i k=(((F[i]'kg.out).1.map (λx=>at_.getD (x*G.length+k) 0))++(G[k]'rJ.out).1.map (λy=>at_.getD (i*G.length+y) 0)):=(by unfold Gr;rw[zh kg.out,zh rJ.out]);have eR:Gq F G at_ i k=(((F[i]'kg.out).2.map (λx=>at_.getD (x*G.length+k) 0))++(G[k]'rJ.out).2.map (λy=>at_.getD (i*G.length+y) 0)):=(by unfold Gq;rw[zh kg.out,zh rJ.out]);have Dk:=aeE.out;rw[<-eL,<-eR]at Dk;have hll:(Gr F G at_ i k).length<=700000:=(by rw[eL];simp only[bu,bK];have:=sU.out;omega);have hlr:(Gq F G at_ i k).length<=700000:=(by rw[eR];simp only[bu,bK];have:=sU.out;omega);obtain⟨hb1,hb2⟩:=ZH HS.out.2 YY.out.wf HGG.out.wf kg.out rJ.out HS.out.1;have hDl:=Ai.len;have hAl:=zw.out
             have hput:Calls prog 114 #[.pointer (some ⟨w.heap.size+3,0,none⟩),Gg,u11] wr (J4 (w.heap.size+3) vn vb D (Gr F G at_ i k) (Gq F G at_ i k) wr):=
              qN (w.heap.size+3) vn vb D _ _ _ _ wr Ai.bk (Ints.gm Dk.el (by rw[bG];omega)) (Ints.gm Dk.er (by rw[bG];omega)) hb1 hb2 (by omega) (by omega) (by omega)
             obtain⟨al,cl,rfl,-,-⟩:=bT Dk.el;obtain⟨ar,cr,rfl,-,-⟩:=bT Dk.er;have IY:=aW Ai;have asx:=Ai.go.keep.size;have asy:w.heap.size+4<=we.heap.size:=(by have:=HZE.out;omega);have hrw:=λ(w3:World) (hK:fJ (xE (w.heap.size+3) vn vb) wr w3)=>bS Ai.own hK (λb hb=>(Ai.sep b hb).2.ins)
             clear Dk aeE eL eR Ai
             go_wp2_with (first
              |(go_at_call 114;refine hput.mono ?_;rintro e w3 ⟨zS,qE,D2,i2,rfl,hB3,hK3,CB,TD,hP3⟩;have hor:=hrw w3 hK3;have hz3:=hK3.size)
              |(at_builtin;refine eO rfl (.tmp 156) (.tmp 161) 41 rfl we.heap.size 3 i0 (.int .i64 0) 1 8 underlying41 hi0 hz0 hz1 hz2 rfl (by decide) (.slice aA at_.length cA) at_.length _ rfl (hor.alloc _) _ 1 _ [.int .i64 ((i2:Nat):Int)] rfl rfl (.inr ⟨_,rfl,fD (dW _ _ _)⟩) one_cell (by unfold maxLen;omega) (by omega) (by rw[fU];omega) ?_;intro v5 w5 lq hg5 hl5))
             go_roundg (G.length-(k+1))
             case measure=>have:=rJ.out;have:=HGK.out;omega
             case rel=>
              have hgo:=fO.zY hK3 CB TD hP3;have h1:=IY.out.bk.good.wf;have h2:=hB3.good.wf;exact⟨k+1,zS,qE,D2,at_++[i2],by go_num,rJ.out,IY.out.push hB3 hgo hP3 (by omega) lq hg5 hl5,aW ⟨by rw[bu,HS.out.1];simp;omega,(HS.out.2.more h1 h2 hgo.more).snoc HS.out.1 rJ.out hP3.lt (U9 h1 h2 YY.out.wf HGG.out.wf kg.out rJ.out HS.out.2 HS.out.1 hP3)⟩,aW rfl⟩
    .have hke:¬(((k:Nat):Int)<((G.length:Nat):Int)):=by omega
     have HKK:Hid (k=G.length):=aW (by omega);clear hkl;go_wp2
     go_roundw
     case rel=>exact⟨i+1,vn,vb,D,at_,by go_num,kg.out,hM,aW ⟨by rw[HS.out.1,HKK.out,Nat.succ_mul],HS.out.2⟩⟩
     case measure=>have:=kg.out;simp[intOf];omega
  .have hil:¬(((i:Nat):Int)<((F.length:Nat):Int)):=by omega
   have hie:i=F.length:=(by omega);have hlen:at_.length=F.length*G.length:=(by rw[HS.out.1,hie]);have hpos:0<at_.length:=(by rw[hlen];exact Nat.mul_pos f0 g0);have hroot:(F.length-1)*G.length+(G.length-1)<at_.length:=(by rw[hlen];exact yR (by omega) (by omega));have agS:at_.length-1=(F.length-1)*G.length+(G.length-1):=by
    have e:F.length*G.length=(F.length-1)*G.length+G.length:=by
     conv=>lhs;rw[show F.length=(F.length-1)+1 by omega,rW,Nat.one_mul]
    omega
   obtain⟨hrl,hrs⟩:=HS.out.2.at (i:=F.length-1) (k:=G.length-1) (by omega) hroot;rw[<-agS]at hrl hrs;obtain⟨gA,eA,hcell⟩:∃gA,∃cA,u7=.slice (some ⟨gA,0,none⟩) at_.length cA/\wr.cell? ⟨gA,at_.length-1,none⟩=some (.int .i64 ((at_.getD (at_.length-1) 0:Nat):Int)):=by
    obtain⟨a,c,rfl,-,-⟩:=bT hM.own;obtain⟨g,rfl,hc⟩:=BS hM.own (q:=at_.length-1) (by omega);exact⟨g,c,rfl,hc⟩
   obtain⟨rfl,hcell⟩:=hcell;have hB:=hM.bk;have hres:=hM.b2;have hzr:=hM.ext.size;have hsm:∀H:dh,bE.bI H->Same (bz H) (vl D (at_.getD (at_.length-1) 0))->H.length<=F.length*G.length:=λH hI hS=>by
    have:=Aj (at_:=List.range D.length) hB.good hrl hI hS (dz.2 hrl) (λj side x hj hx=>dz.2 (by have:=lU hB.good.wf hx;have:=dz.1 hj;omega));rw[uV]at this;have:=hM.len;omega
   have agq:Same (vl D (at_.getD (at_.length-1) 0)) (plus (bz F) (bz G)):=hrs;have M8:=jm hsm agq;have HE:=aW hM.ext;have hal:at_.length<=300000:=(by rw[hlen];exact acK.out);obtain⟨nA,hnA⟩:=fu at_.length;rw[<-hnA]at hpos hal hcell hrl ⊢;rw[<-hnA]at M8;generalize at_.getD (nA-1) 0=root at *;have hwk:wrap64 ((nA:Int)-1)=((nA-1:Nat):Int):=(by unfold wrap64;omega);have UE:((nA-1:Nat):Int)<(nA:Int):=(by omega);clear hM HS hsm hrs agq hlen hroot agS hie hnA
   go_wp2_with (first
    |(go_at_call 70;refine(vU _ vn vb D root _ hB hrl).mono ?_;rintro e w7 ⟨vN,F',rfl,Rh,hIF,TC,hx7⟩
      obtain⟨aN,cN,rfl,-⟩:=id Rh;have yh:w7.heap[w.heap.size+2]?=some (.cells #[.slice none 0 0] 30 (0,0)):=(by rw[hx7.block _ (bW hres)];exact hres);have cr7:=bQ w7 (w.heap.size+2) 0 _ _ _ yh;have fr7:=gQ w7 (w.heap.size+2) 0 _ _ yh;have hh:=gK w7 (w.heap.size+2) 0 _ _ (.slice aN F'.length cN) yh;have HH:Hid ((w7.setCell ⟨w.heap.size+2,0,none⟩ (.slice aN F'.length cN)).heap[w.heap.size+2]?=some (.cells #[.slice aN F'.length cN] 30 (0,0))):=hh;clear hh))
   (try simp only[Exit.inBlock,Exit.then]);refine bodyPost_ret (results_cell_row rfl _ _ (w.heap.size+2) 30 #[.slice aN F'.length cN] (0,0) _ rfl HH.out underlying30 rfl (by kernel_rfl)) rfl ?_;have Ef:Ext w w7:=ah HE.out hx7;have hN8:=(Rh.set (p:=⟨w.heap.size+2,0,none⟩) (by show w.heap.size+2<wr.heap.size;exact bW hres) (.slice aN F'.length cN)).weaken (base':=w.heap.size) HE.out.size;exact⟨_,F',rfl,hN8,hIF,bE.dn TC M8.out.2,M8.out.1 F' hIF TC,ll Ef (w.heap.size+2) 0 _⟩
