/-
  Contract of the reference's l5Sum: a form of the sum of both games.
-/
import Derived.Test.YteknjeohbcgpdaaGreatDoorK13
import Derived.Test.YteknjeohbcgpdaaGreatDoorK17
set_option maxRecDepth 100000
namespace Go.Proofs.YteknjeohbcgpdaaGreatDoor
open Tryz
open Go.RowKit
open bO (dH Nd vl Same plus dZ)
variable {W:World} {a:Option Addr} {n c m:Nat}
def ZU(F G:dH)(w:World)(e:Ending)(w':World):Prop:=
 ∃vN H,e=.returned (.agg #[vN])/\fu w' w.heap.size vN H/\bO.fC H/\Same (dZ H) (plus (dZ F) (dZ G))/\H.length<=F.length*G.length/\Ext w w'
theorem xA{w:World}{X:Obj}{k:Nat}(h:k=w.heap.size):(w.alloc X).heap[k]?=some X:=by subst h;exact heap_alloc_new w X
theorem xu{F:dH}{i:Nat}(hi:i<F.length):F.getD i ([],[])=F[i]:=by rw[aj,aa hi];rfl
theorem Aa{B:Nat}{at_:List Nat}(h:W.ownsRow B 3 1 (.slice a n c) at_.length ((dD at_).map (Value.int .i64))){q:Nat}(hq:q<at_.length):
 ∃g,a=some ⟨g,0,none⟩/\W.cell? ⟨g,q,none⟩=some (.int .i64 ((at_.getD q 0:Nat):Int)):=by
 obtain⟨g,cap,e,_,_,hc⟩:=gV h (by omega);simp only[Value.slice.injEq]at e;obtain⟨rfl,-,-⟩:=e;refine⟨g,rfl,?_⟩;rw[hc q (by omega),aj,aa hq];simp[dD,hq]
theorem xn{l:List Nat}(h:Ints W (.slice a n c) (dD l))(hm:m<l.length):∃b off,a=some ⟨b,off,none⟩/\W.cell? ⟨b,off+m,none⟩=some (.int .i64 ((l[m]:Nat):Int)):=by
 obtain⟨a',c',e,_,_,hc⟩:=h;simp only[Value.slice.injEq]at e;obtain⟨rfl,-,rfl⟩:=e;obtain⟨b,off,rfl,hb⟩:=hc (by rw[bJ];omega);exact⟨b,off,rfl,by rw[hb m (by rw[bJ];exact hm),gy hm]⟩
theorem oP{α β:Type}{l:List α}(f:α->β)(hm:m<l.length):(l.take (m+1)).map f=(l.take m).map f++[f l[m]]:=by
 rw[bg hm,bG];rfl
set_option maxHeartbeats 8000000 in
theorem QG(vf vg:Value)(F G:dH)(w:World)(hf:fu w 0 vf F)(hg:fu w 0 vg G)(gF:bO.Good F)(gG:bO.Good G)(f0:0<F.length)(g0:0<G.length)(hroom:F.length*G.length<=300000):
 Calls prog 79 #[.agg #[vf],.agg #[vg]] w (ZU F G w):=by
 obtain⟨i0,hi0,hz0,hz1,hz2⟩:=info_parts iw;obtain⟨aF,cF,rfl,O8,hmF⟩:∃a c,vf=.slice a F.length c/\F.length<=c/\F.length<=maxLen:=by obtain⟨a,c,e,h1,h2,_⟩:=id hf;exact⟨a,c,e,h1,h2⟩
 obtain⟨aG,cG,rfl,hcG,hmG⟩:∃a c,vg=.slice a G.length c/\G.length<=c/\G.length<=maxLen:=by obtain⟨a,c,e,h1,h2,_⟩:=id hg;exact⟨a,c,e,h1,h2⟩
 have IU:F.length<=300000:=dn (Nat.le_mul_of_pos_right _ g0) hroom;have hGl:G.length<=300000:=dn (Nat.le_mul_of_pos_left _ f0) hroom;have HF:=aQ hf;have HG:=aQ hg;have HGF:=aQ gF;have HGG:=aQ gG;have abf:=aQ hroom;clear hf hg gF gG hroom O8 hcG hmF hmG;go_enter Tryz.func79,Tryz.ntmps79
 go_upto_region 5 with fail
 rw[show w.heap.size+1+1+1+1=w.heap.size+4 from rfl,show w.heap.size+1+1+1=w.heap.size+3 from rfl];obtain⟨we,DJ⟩:∃we,we=(((w.alloc (.cells #[.slice aF F.length cF] 28)).alloc (.cells #[.slice aG G.length cG] 28)).alloc (.cells #[.slice none 0 0] 28)).alloc (.cells #[.slice none 0 0,.slice none 0 0] 157):=⟨_,rfl⟩;have MP:we.heap.size=w.heap.size+4:=by rw[DJ];simp only[eQ]
 have hb0:we.heap[w.heap.size]?=some (.cells #[.slice aF F.length cF] 28 (0,0)):=by
  rw[DJ,Below.heap_alloc _ _ _ (by simp only[eQ];omega),Below.heap_alloc _ _ _ (by simp only[eQ];omega),Below.heap_alloc _ _ _ (by simp only[eQ];omega)];exact xA rfl
 have hb1:we.heap[w.heap.size+1]?=some (.cells #[.slice aG G.length cG] 28 (0,0)):=by
  rw[DJ,Below.heap_alloc _ _ _ (by simp only[eQ];omega),Below.heap_alloc _ _ _ (by simp only[eQ];omega)];exact xA (by simp only[eQ])
 have hb2:we.heap[w.heap.size+2]?=some (.cells #[.slice none 0 0] 28 (0,0)):=by
  rw[DJ,Below.heap_alloc _ _ _ (by simp only[eQ];omega)];exact xA (by simp only[eQ])
 have hb3:we.heap[w.heap.size+3]?=some (.cells #[.slice none 0 0,.slice none 0 0] 157 (0,0)):=by
  rw[DJ];exact xA (by simp only[eQ])
 have hxe:Ext w we:=by rw[DJ];go_grown
 rw[<-DJ];have Ce:=uq hb3;have hxa:Ext we (we.alloc (.cells #[] 3)):=bS (Below.refl _ _) _;have hsd:∀b,b<w.heap.size+3->Beside we (w.heap.size+3) (.slice none 0 0) (.slice none 0 0) [] b:=λb hb=>⟨λk=>by
  rcases k with h|h|h
  .omega
  .simp[Value.ownBlock]at h
  .simp[Value.ownBlock]at h,λ⟨i,g,cap,v,hi,_⟩=>by simp at hi⟩
 have hM0:SM w we (we.alloc (.cells #[] 3)) (.slice aF F.length cF) (.slice aG G.length cG) (.slice (some ⟨we.heap.size,0,none⟩) 0 0) (.slice none 0 0) (.slice none 0 0) [] []:=
  ⟨Ce.ext hxa,ig.ext Ce hxa,(hxa.block _ (bu hb0)).trans hb0,(hxa.block _ (bu hb1)).trans hb1,(hxa.block _ (bu hb2)).trans hb2,fZ we _ (ay _) _,λb hb=>by
   simp[Value.ownBlock]at hb;subst hb;exact⟨ay _,(Beside.new Ce (ay _)).IX Ce hxa⟩,λb hb=>(hsd b hb).IX Ce hxa,ax hxe hxa,ay _⟩
 have HZE:=aQ MP;rw[<-MP];clear DJ MP hb0 hb1 hb2 hb3 hxe Ce hxa hsd;generalize we.alloc (.cells #[] 3)=W0 at *;obtain⟨n,hn⟩:∃n,n=G.length:=⟨_,rfl⟩;obtain⟨f,hfn⟩:∃f,f=F.length:=⟨_,rfl⟩;go_loopw [7,8,9,10,11,12,13,14,15] (λav ii _ _ _ _ _ _ _ wr=>∃(i:Nat) (vn vb:Value) (D:dH) (at_:List Nat),ii=.int .i64 ((i:Nat):Int)/\i<=F.length/\SM w we wr (.slice aF F.length cF) (.slice aG G.length cG) av vn vb D at_/\Hid (at_.length=i*G.length/\qE D F G at_)) (λ_ ii _ _ _ _ _ _ _ _=>F.length-(intOf ii).toNat)
 case atStart=>exact⟨0,_,_,[],[],rfl,aJ _,hM0,aQ ⟨by simp,qE.nil _ _ _⟩⟩
 case round=>
  clear hM0;obtain⟨i,vn,vb,D,at_,rfl,hi,hM,HS⟩:=hrel;have c0:=cell_of_row wr w.heap.size 0 _ _ _ hM.b0;simp only[gE]at c0;by_cases hlt:i<F.length
  .have hil:((i:Nat):Int)<((F.length:Nat):Int):=by omega
   have fJ:=aQ hlt;clear hlt;go_wp2
   go_loopg [7,9,10,11,12,13,14,15] (G.length) (λgk av kk _ _ _ _ _ _ wr=>∃(k:Nat) (vn vb:Value) (D:dH) (at_:List Nat),kk=.int .i64 ((k:Nat):Int)/\k<=G.length/\SM w we wr (.slice aF F.length cF) (.slice aG G.length cG) av vn vb D at_/\Hid (at_.length=i*G.length+k/\qE D F G at_)/\Hid (gk=G.length-k))
   case atStart=>exact⟨0,vn,vb,D,at_,rfl,aJ _,hM,aQ ⟨by rw[HS.out.1];rfl,HS.out.2⟩,aQ rfl⟩
   case round=>
    clear hM HS c0;obtain⟨k,vn,vb,D,at_,rfl,hk,hM,HS,Z6⟩:=hrel;by_cases hkl:k<G.length
    .have hkl':((k:Nat):Int)<((G.length:Nat):Int):=by omega
     have jl:=aQ hkl;clear hkl;go_upto_region 11 with fail
     have yj:Hid (at_.length<=300000):=aQ (by rw[HS.out.1];have:=wT fJ.out jl.out;have:=abf.out;omega);have qJ:Hid ((F[i]'fJ.out).1.length<=300000/\(F[i]'fJ.out).2.length<=300000/\(G[k]'jl.out).1.length<=300000/\(G[k]'jl.out).2.length<=300000):=aQ (by
      have h1:=sN HGF.out fJ.out;have h2:=sN HGG.out jl.out;omega)
     obtain⟨wa,hwa⟩:∃wa,wa=wr:=⟨_,rfl⟩;rw[<-hwa]at hM ⊢;clear hwa
     have ame:Hid (LR wa ((wa.alloc (.cells #[] 3)).alloc (.cells #[] 3)) (.slice (some ⟨wa.heap.size,0,none⟩) 0 0) (.slice (some ⟨wa.heap.size+1,0,none⟩) 0 0) [] []):=aQ
      ⟨(fZ wa _ (ay _) _).alloc _,lH wa _ _ (ay _) _,λb hb e=>by simp[Value.ownBlock]at hb e;omega,by go_grown⟩
     obtain⟨aA,cA,rfl,-,-⟩:=bH hM.own;have HM:=aQ hM;clear hM;go_wp2
     go_loopw [10,12] (λrv mm wr=>∃m:Nat,mm=.int .i64 ((m:Nat):Int)/\m<=(F[i]'fJ.out).1.length/\Hid (LR wa wr rv (.slice (some ⟨wa.heap.size+1,0,none⟩) 0 0) (((F[i]'fJ.out).1.take m).map (λx=>at_.getD (x*G.length+k) 0)) [])) (λ_ mm _=>(F[i]'fJ.out).1.length-(intOf mm).toNat)
     case atStart=>exact⟨0,rfl,aJ _,aQ (by simp only[o5,qm,fV];exact ame.out)⟩
     case round=>
      obtain⟨m,rfl,hm,wI⟩:=hrel;have oQ:=HM.out.ext' wI.out.ext;have cb:=cell_of_row wr (w.heap.size) 0 _ _ _ oQ.b0;simp only[gE]at cb;obtain⟨bX,cX,aL,cL,aR,cR,he,-,nl,nr,uP,uO⟩:=(HF.out.ext oQ.ext).at fJ.out;simp only[Value.slice.injEq,true_and,bN,Addr.mk.injEq,and_true]at he;obtain⟨rfl,rfl⟩:=he;have hxl:((i:Nat):Int)<((F.length:Nat):Int):=(by have:=fJ.out;omega);by_cases hlm:m<(F[i]'fJ.out).1.length
      .have p8:((m:Nat):Int)<((((F[i]'fJ.out).1.length:Nat):Nat):Int):=by omega
       have IG:=aQ hlm;have hlb:(F[i]'fJ.out).1.length<=300000:=(by have:=qJ.out;omega);obtain⟨bc,oc,eac,hcell⟩:=xn uP hlm;subst eac;obtain⟨x,ex⟩:∃x,x=((F[i]'fJ.out).1)[m]'hlm:=⟨_,rfl⟩;have hxi:x<i:=(by rw[ex];exact(HGF.out.wf i _ (aa fJ.out)).1 _ (ai _));rw[<-ex]at hcell;obtain⟨p,ep⟩:∃p,p=x*G.length:=⟨_,rfl⟩;obtain⟨q,eq⟩:∃q,q=p+k:=⟨_,rfl⟩;have hmul:((x:Nat):Int)*((G.length:Nat):Int)=((p:Nat):Int):=(by rw[ep];exact(Int.natCast_mul _ _).symm);have hadd:((p:Nat):Int)+((k:Nat):Int)=((q:Nat):Int):=(by rw[eq];exact(Int.natCast_add _ _).symm);have oH:q<at_.length:=(by rw[eq,ep,HS.out.1];have:=wT hxi jl.out;omega);have hq3:at_.length<=300000:=yj.out;obtain⟨gA,eA,XP⟩:=Aa oQ.own oH;subst eA;have UQ:((q:Nat):Int)<((at_.length:Nat):Int):=(by omega);have yg:Hid (((F[i]'fJ.out).1.take (m+1)).map (λx=>at_.getD (x*G.length+k) 0)=(((F[i]'fJ.out).1.take m).map (λx=>at_.getD (x*G.length+k) 0))++[at_.getD q 0]):=aQ (by
        rw[oP _ hlm,<-ex,eq,ep])
       have hEQ:=aQ (And.intro ex (And.intro ep eq));generalize hlr:(((F[i]'fJ.out).1.take m).map (λx=>at_.getD (x*G.length+k) 0))=lr at wI yg;have hN:lr.length<=700000:=(by rw[<-hlr];simp only[aK,bD,dI];have:=qJ.out;omega);have BK:=wI.out;obtain⟨al,cl,rfl,-,-⟩:=bH BK.el;have hor:=BK.el;have OU:=BK.ext.size;generalize hat:at_.getD q 0=aq at *;clear ex ep eq oQ uP uO BK hlr hxi oH hat;go_wp2_with (at_builtin;refine dC rfl (.tmp 47) (.tmp 64) 80 rfl wa.heap.size 3 i0 (.int .i64 0) 1 8 underlying80 hi0 hz0 hz1 hz2 rfl (by decide) (.slice al lr.length cl) lr.length _ rfl (hor.alloc _) _ 1 _ [.int .i64 ((aq:Nat):Int)] rfl rfl (.inr ⟨_,rfl,dJ (dh _ _ _)⟩) one_cell (by unfold maxLen;omega) (by omega) (by rw[eQ];omega) ?_;intro v5 w5 iT hg5 hl5)
       go_roundw
       case rel=>exact⟨m+1,by go_num,IG.out,aQ (by rw[yg.out];exact wI.out.aex iT hg5 hl5)⟩
       case measure=>have:=IG.out;simp[intOf];omega
      .have p8:¬(((m:Nat):Int)<((((F[i]'fJ.out).1.length:Nat):Nat):Int)):=by omega
       have hme:m=(F[i]'fJ.out).1.length:=(by omega);have amd:Hid (LR wa wr u10 (.slice (some ⟨wa.heap.size+1,0,none⟩) 0 0) (((F[i]'fJ.out).1).map (λx=>at_.getD (x*G.length+k) 0)) []):=aQ (by have:=wI.out;rw[hme,dB]at this;exact this);clear hme hlm oQ uP uO wI;go_wp2
       go_loopw [10,13] (λrv mm wr=>∃m:Nat,mm=.int .i64 ((m:Nat):Int)/\m<=(G[k]'jl.out).1.length/\Hid (LR wa wr rv (.slice (some ⟨wa.heap.size+1,0,none⟩) 0 0) (((F[i]'fJ.out).1.map (λx=>at_.getD (x*G.length+k) 0))++((G[k]'jl.out).1.take m).map (λy=>at_.getD (i*G.length+y) 0)) [])) (λ_ mm _=>(G[k]'jl.out).1.length-(intOf mm).toNat)
       case atStart=>exact⟨0,rfl,aJ _,aQ (by simp only[o5,qm,fV];exact amd.out)⟩
       case round=>
        obtain⟨m,rfl,hm,wI⟩:=hrel;have oQ:=HM.out.ext' wI.out.ext;have cb:=cell_of_row wr (w.heap.size+1) 0 _ _ _ oQ.b1;simp only[gE]at cb;obtain⟨bX,cX,aL,cL,aR,cR,he,-,nl,nr,uP,uO⟩:=(HG.out.ext oQ.ext).at jl.out;simp only[Value.slice.injEq,true_and,bN,Addr.mk.injEq,and_true]at he;obtain⟨rfl,rfl⟩:=he;have hxl:((k:Nat):Int)<((G.length:Nat):Int):=(by have:=jl.out;omega);by_cases hlm:m<(G[k]'jl.out).1.length
        .have p8:((m:Nat):Int)<((((G[k]'jl.out).1.length:Nat):Nat):Int):=by omega
         have IG:=aQ hlm;have hlb:(G[k]'jl.out).1.length<=300000:=(by have:=qJ.out;omega);obtain⟨bc,oc,eac,hcell⟩:=xn uP hlm;subst eac;obtain⟨x,ex⟩:∃x,x=((G[k]'jl.out).1)[m]'hlm:=⟨_,rfl⟩;have hxi:x<k:=(by rw[ex];exact(HGG.out.wf k _ (aa jl.out)).1 _ (ai _));rw[<-ex]at hcell;obtain⟨p,ep⟩:∃p,p=i*G.length:=⟨_,rfl⟩;obtain⟨q,eq⟩:∃q,q=p+x:=⟨_,rfl⟩;have hmul:((i:Nat):Int)*((G.length:Nat):Int)=((p:Nat):Int):=(by rw[ep];exact(Int.natCast_mul _ _).symm);have hadd:((p:Nat):Int)+((x:Nat):Int)=((q:Nat):Int):=(by rw[eq];exact(Int.natCast_add _ _).symm);have oH:q<at_.length:=(by rw[eq,ep,HS.out.1];omega);have hq3:at_.length<=300000:=yj.out;obtain⟨gA,eA,XP⟩:=Aa oQ.own oH;subst eA;have UQ:((q:Nat):Int)<((at_.length:Nat):Int):=(by omega);have yg:Hid (((F[i]'fJ.out).1.map (λx=>at_.getD (x*G.length+k) 0))++((G[k]'jl.out).1.take (m+1)).map (λy=>at_.getD (i*G.length+y) 0)=(((F[i]'fJ.out).1.map (λx=>at_.getD (x*G.length+k) 0))++((G[k]'jl.out).1.take m).map (λy=>at_.getD (i*G.length+y) 0))++[at_.getD q 0]):=aQ (by
          rw[oP _ hlm,<-dA,<-ex,eq,ep])
         have hEQ:=aQ (And.intro ex (And.intro ep eq));generalize hlr:(((F[i]'fJ.out).1.map (λx=>at_.getD (x*G.length+k) 0))++((G[k]'jl.out).1.take m).map (λy=>at_.getD (i*G.length+y) 0))=lr at wI yg;have hN:lr.length<=700000:=(by rw[<-hlr];simp only[aK,bD,dI];have:=qJ.out;omega);have BK:=wI.out;obtain⟨al,cl,rfl,-,-⟩:=bH BK.el;have hor:=BK.el;have OU:=BK.ext.size;generalize hat:at_.getD q 0=aq at *;clear ex ep eq oQ uP uO BK hlr hxi oH hat;go_wp2_with (at_builtin;refine dC rfl (.tmp 77) (.tmp 94) 80 rfl wa.heap.size 3 i0 (.int .i64 0) 1 8 underlying80 hi0 hz0 hz1 hz2 rfl (by decide) (.slice al lr.length cl) lr.length _ rfl (hor.alloc _) _ 1 _ [.int .i64 ((aq:Nat):Int)] rfl rfl (.inr ⟨_,rfl,dJ (dh _ _ _)⟩) one_cell (by unfold maxLen;omega) (by omega) (by rw[eQ];omega) ?_;intro v5 w5 iT hg5 hl5)
         go_roundw
         case rel=>exact⟨m+1,by go_num,IG.out,aQ (by rw[yg.out];exact wI.out.aex iT hg5 hl5)⟩
         case measure=>have:=IG.out;simp[intOf];omega
        .have p8:¬(((m:Nat):Int)<((((G[k]'jl.out).1.length:Nat):Nat):Int)):=by omega
         have hme:m=(G[k]'jl.out).1.length:=(by omega);have ahm:Hid (LR wa wr u10 (.slice (some ⟨wa.heap.size+1,0,none⟩) 0 0) (((F[i]'fJ.out).1.map (λx=>at_.getD (x*G.length+k) 0))++((G[k]'jl.out).1).map (λy=>at_.getD (i*G.length+y) 0)) []):=aQ (by have:=wI.out;rw[hme,dB]at this;exact this);clear hme hlm oQ uP uO wI;obtain⟨Cw,elv⟩:∃Cw,Cw=u10:=⟨_,rfl⟩;rw[<-elv]at ahm ⊢;clear elv;go_wp2
         go_loopw [11,14] (λrv mm wr=>∃m:Nat,mm=.int .i64 ((m:Nat):Int)/\m<=(F[i]'fJ.out).2.length/\Hid (LR wa wr Cw rv (((F[i]'fJ.out).1.map (λx=>at_.getD (x*G.length+k) 0))++(G[k]'jl.out).1.map (λy=>at_.getD (i*G.length+y) 0)) (((F[i]'fJ.out).2.take m).map (λx=>at_.getD (x*G.length+k) 0)))) (λ_ mm _=>(F[i]'fJ.out).2.length-(intOf mm).toNat)
         case atStart=>exact⟨0,rfl,aJ _,aQ (by simp only[o5,qm,fV];exact ahm.out)⟩
         case round=>
          obtain⟨m,rfl,hm,wI⟩:=hrel;have oQ:=HM.out.ext' wI.out.ext;have cb:=cell_of_row wr (w.heap.size) 0 _ _ _ oQ.b0;simp only[gE]at cb;obtain⟨bX,cX,aL,cL,aR,cR,he,-,nl,nr,uP,uO⟩:=(HF.out.ext oQ.ext).at fJ.out;simp only[Value.slice.injEq,true_and,bN,Addr.mk.injEq,and_true]at he;obtain⟨rfl,rfl⟩:=he;have hxl:((i:Nat):Int)<((F.length:Nat):Int):=(by have:=fJ.out;omega);by_cases hlm:m<(F[i]'fJ.out).2.length
          .have p8:((m:Nat):Int)<((((F[i]'fJ.out).2.length:Nat):Nat):Int):=by omega
           have IG:=aQ hlm;have hlb:(F[i]'fJ.out).2.length<=300000:=(by have:=qJ.out;omega);obtain⟨bc,oc,eac,hcell⟩:=xn uO hlm;subst eac;obtain⟨x,ex⟩:∃x,x=((F[i]'fJ.out).2)[m]'hlm:=⟨_,rfl⟩;have hxi:x<i:=(by rw[ex];exact(HGF.out.wf i _ (aa fJ.out)).2 _ (ai _));rw[<-ex]at hcell;obtain⟨p,ep⟩:∃p,p=x*G.length:=⟨_,rfl⟩;obtain⟨q,eq⟩:∃q,q=p+k:=⟨_,rfl⟩;have hmul:((x:Nat):Int)*((G.length:Nat):Int)=((p:Nat):Int):=(by rw[ep];exact(Int.natCast_mul _ _).symm);have hadd:((p:Nat):Int)+((k:Nat):Int)=((q:Nat):Int):=(by rw[eq];exact(Int.natCast_add _ _).symm);have oH:q<at_.length:=(by rw[eq,ep,HS.out.1];have:=wT hxi jl.out;omega);have hq3:at_.length<=300000:=yj.out;obtain⟨gA,eA,XP⟩:=Aa oQ.own oH;subst eA;have UQ:((q:Nat):Int)<((at_.length:Nat):Int):=(by omega);have yg:Hid (((F[i]'fJ.out).2.take (m+1)).map (λx=>at_.getD (x*G.length+k) 0)=(((F[i]'fJ.out).2.take m).map (λx=>at_.getD (x*G.length+k) 0))++[at_.getD q 0]):=aQ (by
            rw[oP _ hlm,<-ex,eq,ep])
           have hEQ:=aQ (And.intro ex (And.intro ep eq));generalize hlr:(((F[i]'fJ.out).2.take m).map (λx=>at_.getD (x*G.length+k) 0))=lr at wI yg;have hN:lr.length<=700000:=(by rw[<-hlr];simp only[aK,bD,dI];have:=qJ.out;omega);have BK:=wI.out;obtain⟨al,cl,rfl,-,-⟩:=bH BK.er;have hor:=BK.er;have OU:=BK.ext.size;generalize hat:at_.getD q 0=aq at *;clear ex ep eq oQ uP uO BK hlr hxi oH hat;go_wp2_with (at_builtin;refine dC rfl (.tmp 107) (.tmp 124) 80 rfl wa.heap.size 3 i0 (.int .i64 0) 1 8 underlying80 hi0 hz0 hz1 hz2 rfl (by decide) (.slice al lr.length cl) lr.length _ rfl (hor.alloc _) _ 1 _ [.int .i64 ((aq:Nat):Int)] rfl rfl (.inr ⟨_,rfl,dJ (dh _ _ _)⟩) one_cell (by unfold maxLen;omega) (by omega) (by rw[eQ];omega) ?_;intro v5 w5 iT hg5 hl5)
           go_roundw
           case rel=>exact⟨m+1,by go_num,IG.out,aQ (by rw[yg.out];exact wI.out.aew iT hg5 hl5)⟩
           case measure=>have:=IG.out;simp[intOf];omega
          .have p8:¬(((m:Nat):Int)<((((F[i]'fJ.out).2.length:Nat):Nat):Int)):=by omega
           have hme:m=(F[i]'fJ.out).2.length:=(by omega);have amc:Hid (LR wa wr Cw u11 (((F[i]'fJ.out).1.map (λx=>at_.getD (x*G.length+k) 0))++(G[k]'jl.out).1.map (λy=>at_.getD (i*G.length+y) 0)) (((F[i]'fJ.out).2).map (λx=>at_.getD (x*G.length+k) 0))):=aQ (by have:=wI.out;rw[hme,dB]at this;exact this);clear hme hlm oQ uP uO wI;go_wp2
           go_loopw [11,15] (λrv mm wr=>∃m:Nat,mm=.int .i64 ((m:Nat):Int)/\m<=(G[k]'jl.out).2.length/\Hid (LR wa wr Cw rv (((F[i]'fJ.out).1.map (λx=>at_.getD (x*G.length+k) 0))++(G[k]'jl.out).1.map (λy=>at_.getD (i*G.length+y) 0)) (((F[i]'fJ.out).2.map (λx=>at_.getD (x*G.length+k) 0))++((G[k]'jl.out).2.take m).map (λy=>at_.getD (i*G.length+y) 0)))) (λ_ mm _=>(G[k]'jl.out).2.length-(intOf mm).toNat)
           case atStart=>exact⟨0,rfl,aJ _,aQ (by simp only[o5,qm,fV];exact amc.out)⟩
           case round=>
            obtain⟨m,rfl,hm,wI⟩:=hrel;have oQ:=HM.out.ext' wI.out.ext;have cb:=cell_of_row wr (w.heap.size+1) 0 _ _ _ oQ.b1;simp only[gE]at cb;obtain⟨bX,cX,aL,cL,aR,cR,he,-,nl,nr,uP,uO⟩:=(HG.out.ext oQ.ext).at jl.out;simp only[Value.slice.injEq,true_and,bN,Addr.mk.injEq,and_true]at he;obtain⟨rfl,rfl⟩:=he;have hxl:((k:Nat):Int)<((G.length:Nat):Int):=(by have:=jl.out;omega);by_cases hlm:m<(G[k]'jl.out).2.length
            .have p8:((m:Nat):Int)<((((G[k]'jl.out).2.length:Nat):Nat):Int):=by omega
             have IG:=aQ hlm;have hlb:(G[k]'jl.out).2.length<=300000:=(by have:=qJ.out;omega);obtain⟨bc,oc,eac,hcell⟩:=xn uO hlm;subst eac;obtain⟨x,ex⟩:∃x,x=((G[k]'jl.out).2)[m]'hlm:=⟨_,rfl⟩;have hxi:x<k:=(by rw[ex];exact(HGG.out.wf k _ (aa jl.out)).2 _ (ai _));rw[<-ex]at hcell;obtain⟨p,ep⟩:∃p,p=i*G.length:=⟨_,rfl⟩;obtain⟨q,eq⟩:∃q,q=p+x:=⟨_,rfl⟩;have hmul:((i:Nat):Int)*((G.length:Nat):Int)=((p:Nat):Int):=(by rw[ep];exact(Int.natCast_mul _ _).symm);have hadd:((p:Nat):Int)+((x:Nat):Int)=((q:Nat):Int):=(by rw[eq];exact(Int.natCast_add _ _).symm);have oH:q<at_.length:=(by rw[eq,ep,HS.out.1];omega);have hq3:at_.length<=300000:=yj.out;obtain⟨gA,eA,XP⟩:=Aa oQ.own oH;subst eA;have UQ:((q:Nat):Int)<((at_.length:Nat):Int):=(by omega);have yg:Hid (((F[i]'fJ.out).2.map (λx=>at_.getD (x*G.length+k) 0))++((G[k]'jl.out).2.take (m+1)).map (λy=>at_.getD (i*G.length+y) 0)=(((F[i]'fJ.out).2.map (λx=>at_.getD (x*G.length+k) 0))++((G[k]'jl.out).2.take m).map (λy=>at_.getD (i*G.length+y) 0))++[at_.getD q 0]):=aQ (by
              rw[oP _ hlm,<-dA,<-ex,eq,ep])
             have hEQ:=aQ (And.intro ex (And.intro ep eq));generalize hlr:(((F[i]'fJ.out).2.map (λx=>at_.getD (x*G.length+k) 0))++((G[k]'jl.out).2.take m).map (λy=>at_.getD (i*G.length+y) 0))=lr at wI yg;have hN:lr.length<=700000:=(by rw[<-hlr];simp only[aK,bD,dI];have:=qJ.out;omega);have BK:=wI.out;obtain⟨al,cl,rfl,-,-⟩:=bH BK.er;have hor:=BK.er;have OU:=BK.ext.size;generalize hat:at_.getD q 0=aq at *;clear ex ep eq oQ uP uO BK hlr hxi oH hat;go_wp2_with (at_builtin;refine dC rfl (.tmp 137) (.tmp 154) 80 rfl wa.heap.size 3 i0 (.int .i64 0) 1 8 underlying80 hi0 hz0 hz1 hz2 rfl (by decide) (.slice al lr.length cl) lr.length _ rfl (hor.alloc _) _ 1 _ [.int .i64 ((aq:Nat):Int)] rfl rfl (.inr ⟨_,rfl,dJ (dh _ _ _)⟩) one_cell (by unfold maxLen;omega) (by omega) (by rw[eQ];omega) ?_;intro v5 w5 iT hg5 hl5)
             go_roundw
             case rel=>exact⟨m+1,by go_num,IG.out,aQ (by rw[yg.out];exact wI.out.aew iT hg5 hl5)⟩
             case measure=>have:=IG.out;simp[intOf];omega
            .have p8:¬(((m:Nat):Int)<((((G[k]'jl.out).2.length:Nat):Nat):Int)):=by omega
             have hme:m=(G[k]'jl.out).2.length:=(by omega);have ady:Hid (LR wa wr Cw u11 (((F[i]'fJ.out).1.map (λx=>at_.getD (x*G.length+k) 0))++(G[k]'jl.out).1.map (λy=>at_.getD (i*G.length+y) 0)) (((F[i]'fJ.out).2.map (λx=>at_.getD (x*G.length+k) 0))++((G[k]'jl.out).2).map (λy=>at_.getD (i*G.length+y) 0))):=aQ (by have:=wI.out;rw[hme,dB]at this;exact this);clear hme hlm oQ uP uO wI;have oQ:=HM.out.ext' ady.out.ext;have eL:EC F G at_ i k=(((F[i]'fJ.out).1.map (λx=>at_.getD (x*G.length+k) 0))++(G[k]'jl.out).1.map (λy=>at_.getD (i*G.length+y) 0)):=(by unfold EC;rw[xu fJ.out,xu jl.out]);have eR:EB F G at_ i k=(((F[i]'fJ.out).2.map (λx=>at_.getD (x*G.length+k) 0))++(G[k]'jl.out).2.map (λy=>at_.getD (i*G.length+y) 0)):=(by unfold EB;rw[xu fJ.out,xu jl.out]);have BK:=ady.out;rw[<-eL,<-eR]at BK;have hll:(EC F G at_ i k).length<=700000:=(by rw[eL];simp only[aK,bD];have:=qJ.out;omega);have hlr:(EB F G at_ i k).length<=700000:=(by rw[eR];simp only[aK,bD];have:=qJ.out;omega);obtain⟨hb1,hb2⟩:=Yc HS.out.2 HGF.out.wf HGG.out.wf fJ.out jl.out HS.out.1;have hDl:=oQ.len;have hAl:=yj.out
             have hput:Calls prog 134 #[.pointer (some ⟨w.heap.size+3,0,none⟩),Cw,u11] wr (Iw (w.heap.size+3) vn vb D (EC F G at_ i k) (EB F G at_ i k) wr):=
              wQ (w.heap.size+3) vn vb D _ _ _ _ wr oQ.bk (Ints.eD BK.el (by rw[bJ];omega)) (Ints.eD BK.er (by rw[bJ];omega)) hb1 hb2 (by omega) (by omega) (by omega)
             obtain⟨al,cl,rfl,-,-⟩:=bH BK.el;obtain⟨ar,cr,rfl,-,-⟩:=bH BK.er;have X3:=aQ oQ;have apN:=oQ.go.keep.size;have aiS:w.heap.size+4<=we.heap.size:=(by have:=HZE.out;omega);have hrw:=λ(w3:World) (hK:dX (kD (w.heap.size+3) vn vb) wr w3)=>bI oQ.own hK (λb hb=>(oQ.sep b hb).2.ins)
             clear BK ady eL eR oQ
             go_wp2_with (first
              |(go_at_call 134;refine hput.mono ?_;rintro e w3 ⟨Cb,pJ,D2,i2,rfl,hB3,hK3,tC,Vv,hP3⟩;have hor:=hrw w3 hK3;have hz3:=hK3.size)
              |(at_builtin;refine dC rfl (.tmp 156) (.tmp 161) 80 rfl we.heap.size 3 i0 (.int .i64 0) 1 8 underlying80 hi0 hz0 hz1 hz2 rfl (by decide) (.slice aA at_.length cA) at_.length _ rfl (hor.alloc _) _ 1 _ [.int .i64 ((i2:Nat):Int)] rfl rfl (.inr ⟨_,rfl,dJ (dh _ _ _)⟩) one_cell (by unfold maxLen;omega) (by omega) (by rw[eQ];omega) ?_;intro v5 w5 iT hg5 hl5))
             go_roundg (G.length-(k+1))
             case measure=>have:=jl.out;have:=Z6.out;omega
             case rel=>
              have hgo:=ig.Mw hK3 tC Vv hP3;have h1:=X3.out.bk.good.wf;have h2:=hB3.good.wf;exact⟨k+1,Cb,pJ,D2,at_++[i2],by go_num,jl.out,X3.out.push hB3 hgo hP3 (by omega) iT hg5 hl5,aQ ⟨by rw[aK,HS.out.1];simp;omega,(HS.out.2.more h1 h2 hgo.more).snoc HS.out.1 jl.out hP3.lt (SX h1 h2 HGF.out.wf HGG.out.wf fJ.out jl.out HS.out.2 HS.out.1 hP3)⟩,aQ rfl⟩
    .have hke:¬(((k:Nat):Int)<((G.length:Nat):Int)):=by omega
     have HKK:Hid (k=G.length):=aQ (by omega);clear hkl;go_wp2
     go_roundw
     case rel=>exact⟨i+1,vn,vb,D,at_,by go_num,fJ.out,hM,aQ ⟨by rw[HS.out.1,HKK.out,uI],HS.out.2⟩⟩
     case measure=>have:=fJ.out;simp[intOf];omega
  .have hil:¬(((i:Nat):Int)<((F.length:Nat):Int)):=by omega
   have hie:i=F.length:=(by omega);have hlen:at_.length=F.length*G.length:=(by rw[HS.out.1,hie]);have hpos:0<at_.length:=(by rw[hlen];exact Nat.mul_pos f0 g0);have hroot:(F.length-1)*G.length+(G.length-1)<at_.length:=(by rw[hlen];exact wT (by omega) (by omega));have afo:at_.length-1=(F.length-1)*G.length+(G.length-1):=by
    have e:F.length*G.length=(F.length-1)*G.length+G.length:=by
     conv=>lhs;rw[show F.length=(F.length-1)+1 by omega,kS,Nat.one_mul]
    omega
   obtain⟨hrl,hrs⟩:=HS.out.2.at (i:=F.length-1) (k:=G.length-1) (by omega) hroot;rw[<-afo]at hrl hrs;obtain⟨gA,eA,hcell⟩:∃gA,∃cA,u7=.slice (some ⟨gA,0,none⟩) at_.length cA/\wr.cell? ⟨gA,at_.length-1,none⟩=some (.int .i64 ((at_.getD (at_.length-1) 0:Nat):Int)):=by
    obtain⟨a,c,rfl,-,-⟩:=bH hM.own;obtain⟨g,rfl,hc⟩:=Aa hM.own (q:=at_.length-1) (by omega);exact⟨g,c,rfl,hc⟩
   obtain⟨rfl,hcell⟩:=hcell;have hB:=hM.bk;have hres:=hM.b2;have OU:=hM.ext.size;have hsm:∀H:dH,bO.fC H->Same (dZ H) (vl D (at_.getD (at_.length-1) 0))->H.length<=F.length*G.length:=λH hI hS=>by
    have:=yE (at_:=List.range D.length) hB.good hrl hI hS (dM.2 hrl) (λj side x hj hx=>dM.2 (by have:=ku hB.good.wf hx;have:=dM.1 hj;omega));rw[rR]at this;have:=hM.len;omega
   have ae0:Same (vl D (at_.getD (at_.length-1) 0)) (plus (dZ F) (dZ G)):=hrs;have HSM:=aQ (And.intro hsm ae0);have HE:=aQ hM.ext;have hal:at_.length<=300000:=(by rw[hlen];exact abf.out);obtain⟨nA,hnA⟩:∃nA,nA=at_.length:=⟨_,rfl⟩;rw[<-hnA]at hpos hal hcell hrl ⊢;rw[<-hnA]at HSM;generalize at_.getD (nA-1) 0=root at *;have hwk:wrap64 ((nA:Int)-1)=((nA-1:Nat):Int):=(by unfold wrap64;omega);have Y8:((nA-1:Nat):Int)<(nA:Int):=(by omega);clear hM HS hsm hrs ae0 hlen hroot afo hie hnA
   go_wp2_with (first
    |(go_at_call 133;refine(zP _ vn vb D root _ hB hrl).mono ?_;rintro e w7 ⟨vN,F',rfl,hN7,hIF,hS7,hx7⟩
      obtain⟨aN,cN,rfl,-⟩:=id hN7;have vK:w7.heap[w.heap.size+2]?=some (.cells #[.slice none 0 0] 28 (0,0)):=(by rw[hx7.block _ (bu hres)];exact hres);have cr7:=cell_of_row w7 (w.heap.size+2) 0 _ _ _ vK;have fr7:=frozen_of_row w7 (w.heap.size+2) 0 _ _ vK;have hh:=heap_setCell_same w7 (w.heap.size+2) 0 _ _ (.slice aN F'.length cN) vK;have HH:Hid ((w7.setCell ⟨w.heap.size+2,0,none⟩ (.slice aN F'.length cN)).heap[w.heap.size+2]?=some (.cells #[.slice aN F'.length cN] 28 (0,0))):=hh;clear hh))
   (try simp only[Exit.inBlock,Exit.then]);refine bodyPost_ret (results_cell_row rfl _ _ (w.heap.size+2) 28 #[.slice aN F'.length cN] (0,0) _ rfl HH.out underlying28 rfl (by kernel_rfl)) rfl ?_;have hE7:Ext w w7:=ax HE.out hx7;have hN8:=(hN7.set (p:=⟨w.heap.size+2,0,none⟩) (by show w.heap.size+2<wr.heap.size;exact bu hres) (.slice aN F'.length cN)).weaken (base':=w.heap.size) HE.out.size;exact⟨_,F',rfl,hN8,hIF,bO.gU hS7 HSM.out.2,HSM.out.1 F' hIF hS7,hE7.setCell (p:=⟨w.heap.size+2,0,none⟩) (by show w.heap.size<=w.heap.size+2;omega) _⟩
end Go.Proofs.YteknjeohbcgpdaaGreatDoor