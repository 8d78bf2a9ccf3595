/- 23 -/
import Derived.Test.YtplgooajigigkaaGreatDoorK21
import Derived.Test.YtplgooajigigkaaGreatDoorK22
set_option maxRecDepth 100000
set_option maxHeartbeats 4000000
namespace Go.Proofs.YtplgooajigigkaaGreatDoor
open Tryz
section
open Go.RowKit
variable {k:Nat}
theorem yT{w:World}{B e g n cap:Nat}{l:List Int}(h:w.ownsRow B e 1 (.slice (some ⟨g,0,none⟩) n cap) n (l.map (Value.int .i64)))(hk:k<n)(x:Int):
 (w.setCell ⟨g,k,none⟩ (.int .i64 x)).ownsRow B e 1 (.slice (some ⟨g,0,none⟩) n cap) n ((l.set k x).map (Value.int .i64)):=by
 obtain⟨hl,h2⟩:=h;refine⟨by simpa using hl,?_⟩;rcases h2 with⟨e1,_⟩|⟨g',cap',cur,e1,hb,hg,hnc,hcm,hcs,ht⟩
 .simp at e1
 .simp only[il,bU,Addr.mk.injEq,and_true,true_and]at e1
  obtain⟨rfl,rfl⟩:=e1;refine .inr ⟨g,cap,cur.setIfInBounds k (.int .i64 x),rfl,hb,gK _ _ _ _ _ _ hg,hnc,hcm,by simp[hcs],?_⟩;rw[Array.toList_setIfInBounds,tq,<-ht,List.take_set]
theorem AQ(l:List Nat)(h:l.Nodup):((dB l).mergeSort λx y=>decide (x<=y))=dB (bO l):=by
 generalize hms:((dB l).mergeSort λx y=>decide (x<=y))=ms;have hs:ms.Pairwise (·<=·):=by
  rw[<-hms];have:=List.pairwise_mergeSort (le:=λx y:Int=>decide (x<=y)) (λa b c h1 h2=>by simp at *;omega) (λa b=>by simp;omega) (dB l);exact this.imp (λh=>by simpa using h)
 have hp:ms.Perm (dB l):=by rw[<-hms];exact List.mergeSort_perm _ _
 have hnd:ms.Nodup:=hp.symm.nodup (by rw[dB,List.Nodup,gU];exact h.imp (λh e=>h (by omega)));have ha:ms.Pairwise (· < ·):=(hs.and hnd).imp (λh=>by omega);have hnn:∀x,x∈ms->∃n:Nat,x=(n:Int):=λx hx=>by obtain⟨n,_,e⟩:=o9 (hp.mem_iff.1 hx);exact⟨n,e⟩
 have e1:ms=dB (ms.map Int.toNat):=by
  unfold dB;rw[jg]
  conv=>lhs;rw[<-Au ms]
  refine dC λx hx=>?_
  obtain⟨n,rfl⟩:=hnn x hx;rfl
 rw[e1];congr 1;refine bE.xx ?_ (kC l) (λx=>?_)
 .unfold bE.Asc
  rw[gU];refine fQ (λ{a b} ha hb h=>?_) ha;obtain⟨n,rfl⟩:=hnn a ha;obtain⟨m,rfl⟩:=hnn b hb;simp;omega
 .rw[cz]
  have hm:(x:Int)∈ms↔x∈l:=by
   rw[hp.mem_iff];exact⟨λh=>by obtain⟨n,hn,e⟩:=o9 h;rw[show x=n by omega];exact hn,λh=>az.2 ⟨x,h,rfl⟩⟩
  rw[<-hm];constructor
  .intro h
   obtain⟨y,hy,rfl⟩:=az.1 h;obtain⟨n,rfl⟩:=hnn y hy;exact hy
  .intro h
   exact az.2 ⟨(x:Int),h,rfl⟩
theorem yJ(w:World)(n:Nat)(hn:n<=1000000):(w.alloc (.cells (madeCells #[Value.int .i64 0] n) 3)).ownsRow w.heap.size 3 1 (.slice (some ⟨w.heap.size,0,none⟩) n n) n ((List.replicate n (0:Int)).map (Value.int .i64)):=by
 have h:=World.ownsRow_lit w (base:=w.heap.size) (madeCells #[Value.int .i64 0] n) n (e:=3) (size:=1) (aJ _) (by unfold maxLen;omega) (by rw[size_madeCells];simp);rw[wS]at h;exact h
def F5(l:List Nat)(w:World)(e:Ending)(w':World):Prop:=∃v',e=.returned v'/\w'.ownsRow w.heap.size 3 1 v' (bO l).length ((dB (bO l)).map (Value.int .i64))/\Ext w w'
theorem Ie{l:List Nat}{rk:Nat->Nat}(hk:k<l.length):(dB ((l.take k).map rk)++List.replicate (l.length-k) 0).set k (rk l[k]:Int)=dB ((l.take (k+1)).map rk)++List.replicate (l.length-(k+1)) 0:=by
 have h1:(dB ((l.take k).map rk)).length=k:=by rw[bG,bK,gV];omega
 rw[pM _ _ (by omega),h1,qx,bJ hk,dw,lS,dY];congr 1;rw[show l.length-k=(l.length-(k+1))+1 by omega,List.replicate_succ];rfl
theorem ED(v:Value)(O:List Nat)(rb n:Nat)(fm:Value->Option Value)(rk:Nat->Nat)(w:World)(hv:Ints w v (dB O))(hO:O.length<=1000000)(hOl:∀x,x∈O->x<900000000)(hM:jb prog 3 w rb n fm)(hf:∀x,x∈O->fm (.int .i64 (x:Int))=some (.int .i64 (rk x:Int)))(hnd:(O.map rk).Nodup):
 Calls prog 169 #[v,.map (some rb)] w (F5 (O.map rk) w):=by
 obtain⟨i0,hi0,hz0,hz1,hz2⟩:=info_parts iU;obtain⟨a,cap,rfl,hlc,hcap,hc⟩:=hv;rw[bG]at hlc hcap hc ⊢;have hmk:=λw:World=>run_make (P:=prog) w 41 3 i0 (.int .i64 0) underlying41 hi0 hz0 .i64 .i64 (O.length:Int) (O.length:Int) (by omega) (by omega) (by rw[hz2];omega) (by omega)
 simp only[hz1,kT,jB]at hmk;have hown0:=yJ w O.length hO;have hx0:Ext w (w.alloc (.cells (madeCells #[Value.int .i64 0] O.length) 3)):=by go_grown
 go_enter Tryz.func169,Tryz.ntmps169
 go_upto_region 2 with fail
 generalize w.alloc (.cells (madeCells #[Value.int .i64 0] O.length) 3)=W0 at *;clear hmk;go_wp2
 go_loopw [6,7,13] (λ_ _ ii wr=>∃k:Nat,k<=O.length/\ii=.int .i64 ((k:Nat):Int)/\wr.ownsRow w.heap.size 3 1 (.slice (some ⟨w.heap.size,0,none⟩) O.length O.length) O.length ((dB ((O.take k).map rk)++List.replicate (O.length-k) 0).map (Value.int .i64))/\Ext w wr) (λ_ _ ii _=>O.length-(intOf ii).toNat)
 case atStart=>exact⟨0,aU _,rfl,by simpa [dB]using hown0,hx0⟩
 case round=>
  clear hown0 hx0;obtain⟨k,hk,rfl,hown,hx⟩:=hrel;by_cases hlt:k<O.length
  .have h1:((k:Nat):Int)<((O.length:Nat):Int):=by omega
   obtain⟨b,off,rfl,hcell⟩:=hc (by omega);have hck:=hcell k hlt;rw[iA hlt]at hck;have ou:=fw hx hck;have hfx:=hf _ (ai hlt);have hxl:=hOl _ (ai hlt);have HS:=aW (Ie (rk:=rk) hlt);obtain⟨x,hxe⟩:=fu (O[k]);rw[<-hxe]at hck ou hfx hxl HS;obtain⟨kl,hkl⟩:=uO x (by omega);have hlk:=(hM.keep (hx.block rb hM.lt)).look rH underlying152 (Kq wr) hkl false;rw[hfx]at hlk;simp only[kI,Bool.false_eq_true,if_false]at hlk;have hcz:=hown.cellAt k (by omega);obtain⟨u,hu⟩:∃u,wr.cell? ⟨w.heap.size,k,none⟩=some u:=by
    have:=hown.1;rw[hcz];exact⟨_,af (by rw[this];omega)⟩
   have hfr:wr.frozen? ⟨w.heap.size,k,none⟩=false:=hown.frozenAt k;clear hcell hxe hcz;go_wp2
   go_roundw
   case rel=>exact⟨k+1,by omega,by go_num,by rw[<-HS.out];exact yT hown hlt _,hx.setCell (p:=⟨w.heap.size,k,none⟩) (aJ _) _⟩
   case measure=>simp[intOf];omega
  .have h1:¬(((k:Nat):Int)<((O.length:Nat):Int)):=by omega
   have hke:k=O.length:=(by omega);subst hke;rw[dZ,qx,List.replicate_zero,gN]at hown;have hsl:(bO (O.map rk)).length=O.length:=by
    have:=congrArg List.length (AQ (O.map rk) hnd);rw[List.length_mergeSort,bG,bG,bK]at this;exact this.symm
   rcases sV O.length with hz|hz
   .have hOn:O=[]:=eP hz
    subst hOn;go_wp2_with (go_at_call 202;refine(Tryz.slices_Sort_int_none _ _ _).mono ?_;rintro e w2 ⟨rfl,hw2⟩;subst hw2)
    go_ret
    exact⟨_,rfl,by simpa [bO,kL,dB]using hown,hx⟩
   .have hll:(dB (O.map rk)).length=O.length:=by rw[bG,bK]
    have XK:=Tryz.slices_Sort_int w.heap.size 0 O.length (dB (O.map rk)) wr (Cn hown) (hown.lt _ rfl).2 (by omega);rw[hll]at XK;have HS:=aW XK;have hms:((dB (O.map rk)).mergeSort λx y=>decide (x<=y)).length=(dB (O.map rk)).length:=List.length_mergeSort _;have HMS:=aW hms;clear XK hll hms;go_wp2_with (go_at_call 202;refine HS.out.mono ?_;rintro e w2 ⟨rfl,m2,os2,hw2⟩)
    go_ret
    obtain⟨ho2,hk2⟩:=Ji hown HMS.out m2 os2;rw[<-hw2]at ho2 hk2 ⊢;rw[AQ _ hnd]at ho2;refine⟨_,rfl,by rw[hsl];exact ho2,⟨hk2.os.trans hx.os,hk2.tape.trans hx.tape,hk2.output.trans hx.output,bZ hx.size hk2.size,λk hk=>?_⟩⟩;rw[hk2.block k (by have:=hx.size;omega) (by omega)];exact hx.block k hk
end
section
open Go.RowKit
open bE (dh Nd Gm vl)
variable {F:dh} {i:Nat} {m:Int}
def Zq(F:dh)(i:Nat):List Int:=((List.range i).map λj=>(bE.born (vl F j):Int))++List.replicate (F.length-i) 0
def BO(F:dh)(i:Nat)(m:Int):List Int:=((List.range i).map λj=>(bE.born (vl F j):Int))++m :: List.replicate (F.length-(i+1)) 0
theorem Ry:((BO F i m).map (Value.int .i64))[i]?=some (.int .i64 m):=by
 rw[ek,BO,dX (by simp)];simp
theorem Rx{x:Nat}(h:x<i):((BO F i m).map (Value.int .i64))[x]?=some (.int .i64 (bE.born (vl F x):Int)):=by
 rw[ek,BO,dN (by simpa using h)];simp[h]
theorem MP{m':Int}:(BO F i m).set i m'=BO F i m':=by
 unfold BO;rw[pM _ _ (by simp)];simp
theorem Yq(h:i<F.length):Zq F i=BO F i 0:=by
 unfold Zq BO;rw[show F.length-i=(F.length-(i+1))+1 by omega,List.replicate_succ]
theorem TT:BO F i (bE.born (vl F i):Int)=Zq F (i+1):=by
 unfold Zq BO;rw[List.range_succ,dw];simp
theorem Yp(F:dh):Zq F 0=List.replicate F.length 0:=by simp[Zq]
def Ux(F:dh)(w:World)(e:Ending)(w':World):Prop:=∃v',e=.returned v'/\w'.ownsRow w.heap.size 3 1 v' F.length ((Zq F F.length).map (Value.int .i64))/\Ext w w'
def NL:List Row:=[⟨0,[],28,[3]⟩,⟨1,[],29,[4]⟩,⟨2,[],30,[3]⟩,⟨3,[],31,[4]⟩,⟨4,[2,3],32,[29,30]⟩,⟨5,[4],33,[31]⟩,⟨6,[],34,[3]⟩,⟨7,[],35,[7]⟩,⟨8,[6,7],36,[33,34]⟩,⟨9,[8],37,[35]⟩,⟨10,[9],38,[36]⟩,⟨11,[5,10],39,[32,37]⟩,⟨12,[0,1,0,1,2,3,4,5,6,7,8,9,10,11],40,[27,28]⟩,⟨13,[12,11,0,1,2,3,4,5,6,7,8,9,10,11],0,[39,38]⟩]
def KY:List Row:=[⟨0,[],49,[3]⟩,⟨1,[],50,[4]⟩,⟨2,[],51,[3]⟩,⟨3,[],52,[4]⟩,⟨4,[2,3],53,[50,51]⟩,⟨5,[4],54,[52]⟩,⟨6,[],55,[3]⟩,⟨7,[],56,[9]⟩,⟨8,[6,7],57,[54,55]⟩,⟨9,[8],58,[56]⟩,⟨10,[9],59,[57]⟩,⟨11,[5,10],60,[53,58]⟩,⟨12,[0,1,0,1,2,3,4,5,6,7,8,9,10,11],61,[48,49]⟩,⟨13,[12,11,0,1,2,3,4,5,6,7,8,9,10,11],0,[60,59]⟩]
theorem PQ(v:Value)(F:dh)(w:World)(hf:dI w 0 v F)(hF:bE.WF F)(hl:F.length<=1000000):Calls prog 100 #[v] w (Ux F w):=by
 obtain⟨i0,hi0,hz0,hz1,hz2⟩:=info_parts iU;obtain⟨aF,gH,rfl,hcap,zz,-⟩:=id hf;have hmk:=λw:World=>run_make (P:=prog) w 41 3 i0 (.int .i64 0) underlying41 hi0 hz0 .i64 .i64 (F.length:Int) (F.length:Int) (by omega) (by omega) (by rw[hz2];omega) (by omega)
 simp only[hz1,kT,jB]at hmk;have hown0:=yJ w F.length hl;have hx0:Ext w (w.alloc (.cells (madeCells #[Value.int .i64 0] F.length) 3)):=by go_grown
 go_enter Tryz.func100,Tryz.ntmps100
 go_upto_region 2 with fail
 generalize w.alloc (.cells (madeCells #[Value.int .i64 0] F.length) 3)=W0 at *;clear hmk;rw[<-Yp]at hown0;go_wp2
 go_loopw [4,5,15] (λ_ _ ii wr=>∃i:Nat,i<=F.length/\ii=.int .i64 ((i:Nat):Int)/\wr.ownsRow w.heap.size 3 1 (.slice (some ⟨w.heap.size,0,none⟩) F.length F.length) F.length ((Zq F i).map (Value.int .i64))/\Ext w wr) (λ_ _ ii _=>F.length-(intOf ii).toNat)
 case atStart=>exact⟨0,aU _,rfl,hown0,hx0⟩
 case round=>
  clear hown0 hx0;obtain⟨i,hi,rfl,hown,hx⟩:=hrel;by_cases hlt:i<F.length
  .have h1:((i:Nat):Int)<((F.length:Nat):Int):=by omega
   obtain⟨bF,cF,aL,cL,aR,cR,he,Nh,cl,cr,vM,vJ⟩:=hf.at hlt;simp only[il]at he;obtain⟨rfl,-,rfl⟩:=he;have cl':=fw hx cl;have MC:=fw hx cr;have dk:F[i]?=some F[i]:=af hlt;obtain⟨Qk,Qj⟩:=hF i _ dk;obtain⟨FL,Zm⟩:=fu ((F[i]).1);obtain⟨FR,Zl⟩:=fu ((F[i]).2);rw[<-Zm]at cl' vM Qk;rw[<-Zl]at MC vJ Qj;have HF:=aW hf;have HK:=jm Zm Zl;have Kc:Ext wr (wr.alloc (.cells #[.slice aL FL.length cL,.slice aR FR.length cR] 91)):=(by go_grown);have hbW:=eu wr (.cells #[.slice aL FL.length cL,.slice aR FR.length cR] 91);have hwz:=(hown.lt _ rfl).2;have WZ:=dD hown Kc;rw[Yq hlt]at WZ;have hE:=ah hx Kc;have atG:ig F (FL.take 0)=0:=rfl;clear cl cr hf Zm Zl dk hown;go_upto_region 5 with fail
   generalize wr.alloc (.cells #[.slice aL FL.length cL,.slice aR FR.length cR] 91)=W at *;have c0:=bQ W wr.heap.size 0 _ _ _ hbW;have c1:=bQ W wr.heap.size 1 _ _ _ hbW;simp only[gE]at c0 c1;generalize hnb:wr.heap.size=nb at *;clear cl' MC hx Kc hbW hnb wr hi;obtain⟨a',c',e,-,adA,O8⟩:=vM;simp only[il,bG,true_and]at e adA O8;obtain⟨rfl,rfl⟩:=e;obtain⟨a',c',e,-,adz,O7⟩:=vJ;simp only[il,bG,true_and]at e adz O7;obtain⟨rfl,rfl⟩:=e;have hbd:∀x,x<i->bE.born (vl F x)<=1000000:=λx hx=>by have:=bE.oC hF x;omega
   have WK1:=aW Qk;have WK2:=aW Qj;have HBD:=aW hbd;have HCL:=aW O8;have HCR:=aW O7;clear Qk Qj hbd O8 O7;go_wp2
   go_loopw [7,23] (λ_ ii wr=>∃k:Nat,k<=FL.length/\ii=.int .i64 ((k:Nat):Int)/\wr.ownsRow w.heap.size 3 1 (.slice (some ⟨w.heap.size,0,none⟩) F.length F.length) F.length ((BO F i (ig F (FL.take k))).map (Value.int .i64))/\Ext w wr/\wr.cell? ⟨nb,1,none⟩=some (.slice aR FR.length cR)) (λ_ ii _=>FL.length-(intOf ii).toNat)
   case atStart=>exact⟨0,aU _,rfl,WZ,hE,c1⟩
   case round=>
    clear WZ hE c0 c1;obtain⟨k,hk,rfl,hown,hx,c1⟩:=hrel;by_cases hk1:k<FL.length
    .have h2:((k:Nat):Int)<((FL.length:Nat):Int):=by omega
     obtain⟨b,off,rfl,hcell⟩:=HCL.out (by omega);have hck:=hcell k hk1;rw[iA hk1]at hck;have ou:=fw hx hck;have hxi:=WK1.out _ (ai hk1);have hbx:=HBD.out _ hxi;have hbt:=nu hF (FL.take k) (λx hx=>by have:=WK1.out x (jD hx);omega);have HS:=aW (yD F hk1);have q1:=(hown.cellAt i (by omega)).trans Ry;have q2:=(hown.cellAt FL[k] (by omega)).trans (Rx hxi);obtain⟨x,hxe⟩:=fu (FL[k]);obtain⟨m,hm⟩:=fu (ig F (FL.take k));rw[<-hxe]at ou hxi hbx HS q2;rw[<-hm]at hbt HS q1 hown;obtain⟨bx,hbe⟩:=fu (bE.born (vl F x));rw[<-hbe]at hbx HS q2;have hfr:wr.frozen? ⟨w.heap.size,i,none⟩=false:=hown.frozenAt i;have hwk:wrap64 ((bx:Int)+1)=(bx:Int)+1:=(by unfold wrap64;omega);have hxF:((x:Nat):Int)<(F.length:Int):=(by omega);have HO:=aW hown;clear hcell hck hxe hm hbe hbt hbx hxi hown;go_upto_region 8 with fail
     refine oJ (λV=>V.cell? ⟨w.heap.size,i,none⟩=some (.int .i64 m)/\V.cell? ⟨w.heap.size,x,none⟩=some (.int .i64 (bx:Int))) [12,13] NL ⟨q1,q2⟩ (λaj ae=>?_);(refine bP 0 aj ae ?_;refine bP 1 aj ae ?_;refine bP 2 aj ae ?_;refine bP 3 aj ae ?_;refine bP 4 aj ae ?_;refine bP 5 aj ae ?_;refine bP 6 aj ae ?_;refine bP 7 aj ae ?_;refine bP 8 aj ae ?_;refine bP 9 aj ae ?_;refine bP 10 aj ae ?_;refine bP 11 aj ae ?_);refine nQ aj [12,13] [_,_] ?_;clear aj ae;go_wp2
     go_roundw
     case rel=>
      have hk':=yT HO.out hlt (max m ((bx:Int)+1));rw[MP]at hk';exact⟨k+1,by omega,by go_num,by rw[HS.out];exact dD hk' (dQ ⟨1,rfl⟩),ah (hx.setCell (p:=⟨w.heap.size,i,none⟩) (aJ _) _) (dQ ⟨1,rfl⟩),(mP (dH.block nb (lt_of_cell c1) (λe=>by simp only at e;omega))).trans c1⟩
     case measure=>simp[intOf];omega
    .have h2:¬(((k:Nat):Int)<((FL.length:Nat):Int)):=by omega
     have hke:k=FL.length:=(by omega);subst hke;have hown0:wr.ownsRow w.heap.size 3 1 (.slice (some ⟨w.heap.size,0,none⟩) F.length F.length) F.length ((BO F i (ig F (FL++FR.take 0))).map (Value.int .i64)):=by
      rw[dZ]at hown;rw[List.take_zero,gN];exact hown
     clear hown;go_wp2
     go_loopw [9,44] (λ_ ii wr=>∃k:Nat,k<=FR.length/\ii=.int .i64 ((k:Nat):Int)/\wr.ownsRow w.heap.size 3 1 (.slice (some ⟨w.heap.size,0,none⟩) F.length F.length) F.length ((BO F i (ig F (FL++FR.take k))).map (Value.int .i64))/\Ext w wr) (λ_ ii _=>FR.length-(intOf ii).toNat)
     case atStart=>exact⟨0,aU _,rfl,hown0,hx⟩
     case round=>
      clear hown0 hx;obtain⟨k,hk,rfl,hown,hx⟩:=hrel;by_cases hk1:k<FR.length
      .have h2:((k:Nat):Int)<((FR.length:Nat):Int):=by omega
       obtain⟨b,off,rfl,hcell⟩:=HCR.out (by omega);have hck:=hcell k hk1;rw[iA hk1]at hck;have ou:=fw hx hck;have hxi:=WK2.out _ (ai hk1);have hbx:=HBD.out _ hxi;have hbt:=nu hF (FL++FR.take k) (λx hx=>by rcases bq.1 hx with hx|hx;(have:=WK1.out x hx;omega);(have:=WK2.out x (jD hx);omega));have HS:=aW (xq F FL hk1);have q1:=(hown.cellAt i (by omega)).trans Ry;have q2:=(hown.cellAt FR[k] (by omega)).trans (Rx hxi);obtain⟨x,hxe⟩:=fu (FR[k]);obtain⟨m,hm⟩:=fu (ig F (FL++FR.take k));rw[<-hxe]at ou hxi hbx HS q2;rw[<-hm]at hbt HS q1 hown;obtain⟨bx,hbe⟩:=fu (bE.born (vl F x));rw[<-hbe]at hbx HS q2;have hfr:wr.frozen? ⟨w.heap.size,i,none⟩=false:=hown.frozenAt i;have hwk:wrap64 ((bx:Int)+1)=(bx:Int)+1:=(by unfold wrap64;omega);have hxF:((x:Nat):Int)<(F.length:Int):=(by omega);have HO:=aW hown;clear hcell hck hxe hm hbe hbt hbx hxi hown;go_upto_region 13 with fail
       refine oJ (λV=>V.cell? ⟨w.heap.size,i,none⟩=some (.int .i64 m)/\V.cell? ⟨w.heap.size,x,none⟩=some (.int .i64 (bx:Int))) [12,13] KY ⟨q1,q2⟩ (λaj ae=>?_);(refine bP 0 aj ae ?_;refine bP 1 aj ae ?_;refine bP 2 aj ae ?_;refine bP 3 aj ae ?_;refine bP 4 aj ae ?_;refine bP 5 aj ae ?_;refine bP 6 aj ae ?_;refine bP 7 aj ae ?_;refine bP 8 aj ae ?_;refine bP 9 aj ae ?_;refine bP 10 aj ae ?_;refine bP 11 aj ae ?_);refine nQ aj [12,13] [_,_] ?_;clear aj ae;go_wp2
       go_roundw
       case rel=>
        have hk':=yT HO.out hlt (max m ((bx:Int)+1));rw[MP]at hk';exact⟨k+1,by omega,by go_num,by rw[HS.out];exact dD hk' (dQ ⟨1,rfl⟩),ah (hx.setCell (p:=⟨w.heap.size,i,none⟩) (aJ _) _) (dQ ⟨1,rfl⟩)⟩
       case measure=>simp[intOf];omega
      .have h2:¬(((k:Nat):Int)<((FR.length:Nat):Int)):=by omega
       have hke:k=FR.length:=(by omega);subst hke;rw[dZ]at hown;have hb:(bE.born (vl F i):Int)=ig F (FL++FR):=by
        have hb0:=nu hF (FL++FR) (λx hx=>by rcases bq.1 hx with hx|hx;(have:=WK1.out x hx;omega);(have:=WK2.out x hx;omega));refine uK hF (l':=FL) (r':=FR) ?_ (λ_=>Iff.rfl) (λ_=>Iff.rfl) hb0.1;rw[HK.out.1,HK.out.2];exact af hlt
       rw[<-hb,TT]at hown;have HO:=aW hown;clear hown hb;go_wp2
       go_roundw
       case rel=>exact⟨i+1,by omega,by go_num,HO.out,hx⟩
       case measure=>simp[intOf];omega
  .have h1:¬(((i:Nat):Int)<((F.length:Nat):Int)):=by omega
   have hie:i=F.length:=(by omega);subst hie;go_wp2
   go_ret
   exact⟨_,rfl,hown,hx⟩
end
section
open Go.RowKit
open bE (dh Nd Gm vl Same)
variable {G:Nat->Prop} {pp h:Nat} {s s':jF} {w wr w2:World} {lv rv:Value} {L R:List Nat}
theorem fJ.up{F:Nat->Prop}{a b:World}(h:fJ F a b)(k:∀x,F x->G x):fJ G a b:=⟨h.os,h.tape,h.output,h.size,λb hb hn=>h.block b hb λc=>hn (k b c)⟩
structure NGo(pp h:Nat)(s:jF)(w:World)(s':jF)(w':World):Prop where
 pool:dA w' pp h s'
 keep:fJ (λb=>lg pp h s b\/b=h+1+1+1+1) w w'
 own:∀b,lg pp h s' b->lg pp h s b\/w.heap.size<=b
 old:∀b,s.S b->s'.S b
 lists:∀b,s'.S b->s.S b\/w.heap.size<=b
 more:∃E,s'.D=s.D++E
theorem jr.n{w':World}(k:jr pp h s w s' w'):NGo pp h s w s' w':=⟨k.pool,k.keep.up λ_ h=>.inl h,k.own,k.old,k.lists,k.more⟩
structure l8(pp h:Nat)(s:jF)(w wr:World)(lv rv:Value)(L R:List Nat):Prop where
 l:wr.ownsRow w.heap.size 3 1 lv L.length ((dB L).map (Value.int .i64))
 r:wr.ownsRow w.heap.size 3 1 rv R.length ((dB R).map (Value.int .i64))
 ap:∀b,lv.ownBlock=some b->rv.ownBlock≠some b
 xK:Nn pp h s wr (λb=>lv.ownBlock=some b\/rv.ownBlock=some b)
theorem l8.swap(m:l8 pp h s w wr lv rv L R):l8 pp h s w wr rv lv R L:=
 ⟨m.r,m.l,λb h1 h2=>m.ap b h2 h1,λb hb=>m.xK b (hb.symm)⟩
theorem l8.keep(m:l8 pp h s w wr lv rv L R)(hk:fJ G wr w2)(hG:∀b,lv.ownBlock=some b\/rv.ownBlock=some b->¬G b)
 (hc:Nn pp h s' w2 (λb=>lv.ownBlock=some b\/rv.ownBlock=some b)):l8 pp h s' w w2 lv rv L R:=
 ⟨bS m.l hk (λb hb=>hG b (.inl hb)),bS m.r hk (λb hb=>hG b (.inr hb)),m.ap,hc⟩
theorem l8.ext{pp h:Nat}{s:jF}{w wr w2:World}{lv rv:Value}{L R:List Nat}(m:l8 pp h s w wr lv rv L R)(hx:Ext wr w2):l8 pp h s w w2 lv rv L R:=
 m.keep (jR (F:=λ_=>False) hx) (λ_ _=>id) (m.xK.ext hx)
theorem l8.lo(m:l8 pp h s w wr lv rv L R){b:Nat}(hb:lv.ownBlock=some b\/rv.ownBlock=some b):w.heap.size<=b:=by
 rcases hb with hb|hb
 .exact(m.l.lt b hb).1
 .exact(m.r.lt b hb).1
theorem l8.go(m:l8 pp h s w wr lv rv L R)(hh:h+1+1+1+1<w.heap.size)(g:NGo pp h s wr s' w2):l8 pp h s' w w2 lv rv L R:=by
 have hz:=g.keep.size;refine m.keep g.keep (λb hb=>?_) (λb hb=>?_)
 .rintro(c|c)
  .exact(m.xK b hb).2.1 c
  .have:=m.lo hb;omega
 .obtain⟨c1,c2,c3⟩:=m.xK b hb
  refine⟨by omega,λc=>?_,λc=>?_⟩
  .rcases g.own b c with c|c
   .exact c2 c
   .omega
  .rcases g.lists b c with c|c
   .exact c3 c
   .omega
theorem l8.push{wa:World}{De:Value}{news:List Nat}{n:Nat}{ys:List Value}(m:l8 pp h s w wr lv rv L R)(hP:dA wr pp h s)(hx:Ext wr wa)(hg:wa.grownBy w2 lv.ownBlock)
 (ho:w2.ownsRow w.heap.size 3 1 De n ys) (hn:n=(L++news).length) (hy:ys=(dB (L++news)).map (Value.int .i64)) (hl:pX wa lv De):l8 pp h s w w2 De rv (L++news) R:=by
 have hz:=hx.size;have hz2:=hg.size;have hL:∀b,De.ownBlock=some b->lv.ownBlock=some b\/wr.heap.size<=b:=λb hb=>by
  rcases hl with e|⟨g,e,k⟩
  .exact .inl (e ▸ hb)
  .rw[e]at hb;injection hb with hb;exact .inr (by omega)
 have m1:=m.ext hx;have hkg:=fP hg;have hcm:=m.xK;refine⟨Jj ho hn hy,bS m1.r hkg (λb hb hq=>m.ap b hq hb),λb hb hc=>?_,λb hb=>?_⟩
 .rcases hL b hb with h1|h1
  .exact m.ap b h1 hc
  .have:=(hcm b (.inr hc)).1;omega
 .have hlt:=ho.lt
  rcases hb with hb|hb
  .refine⟨(hlt b hb).2,?_⟩
   rcases hL b hb with h1|h1
   .exact(hcm b (.inl h1)).2
   .exact hP.new h1
  .have:=hcm b (.inr hb);exact⟨by omega,this.2⟩
end
section
open Go.RowKit
def aby(l:List Nat)(w:World)(e:Ending)(w':World):Prop:=∃v',e=.returned v'/\w'.ownsRow w.heap.size 3 1 v' l.length ((dB l).map (Value.int .i64))/\Ext w w'
theorem uy(v vn:Value)(O N:List Nat)(rk:Nat->Nat)(w:World)(hv:Ints w v (dB O))(hn:Ints w vn (dB N))(hO:O.length<=1000000)(hOl:∀x,x∈O->∃h:x<N.length,N[x]=rk x):
 Calls prog 128 #[v,vn] w (aby (O.map rk) w):=by
 obtain⟨i0,hi0,hz0,hz1,hz2⟩:=info_parts iU;obtain⟨a,cap,rfl,hlc,hcap,hc⟩:=hv;obtain⟨an,Yn,rfl,alp,agI,hnc⟩:=hn;simp only[bG]at hlc hcap hc alp agI hnc ⊢;have hmk:=λw:World=>run_make (P:=prog) w 41 3 i0 (.int .i64 0) underlying41 hi0 hz0 .i64 .i64 (O.length:Int) (O.length:Int) (by omega) (by omega) (by rw[hz2];omega) (by omega)
 simp only[hz1,kT,jB]at hmk;have hown0:=yJ w O.length hO;have hx0:Ext w (w.alloc (.cells (madeCells #[Value.int .i64 0] O.length) 3)):=by go_grown
 go_enter Tryz.func128,Tryz.ntmps128
 go_upto_region 2 with fail
 generalize w.alloc (.cells (madeCells #[Value.int .i64 0] O.length) 3)=W0 at *;clear hmk;go_wp2
 go_loopw [6,7,13] (λ_ _ ii wr=>∃k:Nat,k<=O.length/\ii=.int .i64 ((k:Nat):Int)/\wr.ownsRow w.heap.size 3 1 (.slice (some ⟨w.heap.size,0,none⟩) O.length O.length) O.length ((dB ((O.take k).map rk)++List.replicate (O.length-k) 0).map (Value.int .i64))/\Ext w wr) (λ_ _ ii _=>O.length-(intOf ii).toNat)
 case atStart=>exact⟨0,aU _,rfl,by simpa [dB]using hown0,hx0⟩
 case round=>
  clear hown0 hx0;obtain⟨k,hk,rfl,hown,hx⟩:=hrel;by_cases hlt:k<O.length
  .have h1:((k:Nat):Int)<((O.length:Nat):Int):=by omega
   obtain⟨b,off,rfl,hcell⟩:=hc (by omega);have hck:=hcell k hlt;rw[iA hlt]at hck;have ou:=fw hx hck;obtain⟨hxl,hgd⟩:=hOl _ (ai hlt);obtain⟨bn,aso,rfl,Xd⟩:=hnc (by omega);have hcn:=Xd _ hxl;rw[iA hxl]at hcn;have ag9:=fw hx hcn;have HS:=aW (Ie (rk:=rk) hlt);rw[hgd]at ag9;obtain⟨x,hxe⟩:=fu (O[k]);rw[<-hxe]at hck ou hxl HS ag9;have hcz:=hown.cellAt k (by omega);obtain⟨u,hu⟩:∃u,wr.cell? ⟨w.heap.size,k,none⟩=some u:=by
    have:=hown.1;rw[hcz];exact⟨_,af (by rw[this];omega)⟩
   have hfr:wr.frozen? ⟨w.heap.size,k,none⟩=false:=hown.frozenAt k;clear hcell hxe hcz hgd Xd hcn hck;go_wp2
   go_roundw
   case rel=>exact⟨k+1,by omega,by go_num,by rw[<-HS.out];exact yT hown hlt _,hx.setCell (p:=⟨w.heap.size,k,none⟩) (aJ _) _⟩
   case measure=>simp[intOf];omega
  .have h1:¬(((k:Nat):Int)<((O.length:Nat):Int)):=by omega
   have hke:k=O.length:=(by omega);subst hke;rw[dZ,qx,List.replicate_zero,gN]at hown;go_wp2
   go_ret
   exact⟨_,rfl,by simpa using hown,hx⟩
end
section
open Go.RowKit
open bE (dh Nd Gm vl Same)
variable {pp h k i x:Nat} {s:jF} {w:World} {F D:dh} {L:List Nat}
structure rR(D F:dh)(L:List Nat)(k:Nat):Prop where
 len:L.length=k
 at_:∀j (h:j<L.length),L[j]<D.length/\Same (vl D L[j]) (vl F j)
theorem rR.nil(D F:dh):rR D F [] 0:=⟨rfl,λj h=>absurd h (by simp)⟩
theorem rR.go{s':jF}{w':World}(n:rR s.D F L k)(hw:bE.WF s.D)(g:jr pp h s w s' w'):rR s'.D F L k:=by
 refine⟨n.len,λj h=>?_⟩;obtain⟨h1,h2⟩:=n.at_ j h;have:=g.len;exact⟨by omega,by rw[g.vl hw h1];exact h2⟩
theorem rR.next(n:rR D F L k)(hi:i<D.length)(hs:Same (vl D i) (vl F k)):rR D F (L++[i]) (k+1):=by
 refine⟨by simp[n.len],λj h=>?_⟩;have hl:=n.len;by_cases c:j<L.length
 .rw[dM c];exact n.at_ j c
 .have e:j=k:=by simp at h;omega
  subst e;rw[eQ (by omega)];simp only[List.getElem_singleton];exact⟨hi,hs⟩
theorem rR.get(n:rR D F L k)(hx:x<k):∃h:x<L.length,L[x]=L.getD x 0:=by
 have hl:=n.len;exact⟨by omega,by rw[bD,af (by omega)];rfl⟩
theorem rR.opt(n:rR D F L k)(hx:x<k):L.getD x 0<D.length/\Same (vl D (L.getD x 0)) (vl F x):=by
 obtain⟨h,e⟩:=n.get hx;rw[<-e];exact n.at_ x h
theorem RY{f g:Nat->Gm}{l r:List Nat}(hl:∀x,x∈l->Same (f x) (g x))(hr:∀x,x∈r->Same (f x) (g x)):Same (.mk (l.map f) (r.map f)) (.mk (l.map g) (r.map g)):=by
 rw[bE.same_iff];simp only[Gm.l,Gm.r];refine⟨λy hy=>?_,λy hy=>?_,λy hy=>?_,λy hy=>?_⟩
 .obtain⟨x,hx,rfl⟩:=az.1 hy;exact⟨_,aV hx,hl x hx⟩
 .obtain⟨x,hx,rfl⟩:=az.1 hy;exact⟨_,aV hx,hl x hx⟩
 .obtain⟨x,hx,rfl⟩:=az.1 hy;exact⟨_,aV hx,hr x hx⟩
 .obtain⟨x,hx,rfl⟩:=az.1 hy;exact⟨_,aV hx,hr x hx⟩
theorem SF{D':dh}(hD:bE.WF D)(hD':bE.WF D')(hF:bE.WF F)(hk:k<F.length)(n:rR D F L k)(p:jN D ((F[k]).1.map λx=>L.getD x 0) ((F[k]).2.map λx=>L.getD x 0) D' i):Same (vl D' i) (vl F k):=by
 have dk:F[k]?=some F[k]:=af hk;obtain⟨w1,w2⟩:=hF k _ dk;rw[bE.mJ hD' p.1,bE.mJ hF dk];refine bE.dn (yL (c:=(((F[k]).1.map λx=>L.getD x 0).map (vl D'))) (d:=(((F[k]).2.map λx=>L.getD x 0).map (vl D'))) (λy=>by simp only[az,cz]) (λy=>by simp only[az,cz])) ?_;rw[jg,jg];refine RY (λx hx=>?_) (λx hx=>?_)
 .obtain⟨h1,h2⟩:=n.opt (w1 x hx)
  show Same (vl D' (L.getD x 0)) _;rw[p.vl hD hD' h1];exact h2
 .obtain⟨h1,h2⟩:=n.opt (w2 x hx)
  show Same (vl D' (L.getD x 0)) _;rw[p.vl hD hD' h1];exact h2
def YP(pp h:Nat)(s:jF)(F:dh)(w0 w:World)(e:Ending)(w':World):Prop:=
 ∃s' v' L,e=.returned v'/\w'.ownsRow w.heap.size 3 1 v' L.length ((dB L).map (Value.int .i64))/\jr pp h s w s' w'/\rR s'.D F L F.length/\s'.D.length<=s.D.length+F.length/\Ext w0 w'/\(∀b,lg pp h s' b->w0.heap.size<=b)
theorem Oc(hP:dA w pp h s)(n:Nat)(hn:n<=1000000)(X:Obj):l8 pp h s w ((w.alloc X).alloc (.cells (madeCells #[Value.int .i64 0] n) 3)) (.slice (some ⟨w.heap.size+1,0,none⟩) 0 n) (.slice none 0 0) [] []:=by
 have z1:(w.alloc X).heap.size=w.heap.size+1:=fU _ _;have z2:((w.alloc X).alloc (.cells (madeCells #[Value.int .i64 0] n) 3)).heap.size=w.heap.size+1+1:=by rw[fU,z1]
 have hb:=eu (w.alloc X) (.cells (madeCells #[Value.int .i64 0] n) 3);rw[z1]at hb;refine⟨⟨by simp[dB],.inr ⟨w.heap.size+1,n,madeCells #[Value.int .i64 0] n,rfl,by omega,hb,aU _,by unfold maxLen;omega,by rw[size_madeCells];simp,by simp[dB]⟩⟩,⟨by simp[dB],.inl ⟨rfl,rfl⟩⟩,?_,?_⟩
 .intro b hb hc;simp[Value.ownBlock]at hc
 .intro b hb
  have:b=w.heap.size+1:=by
   rcases hb with hb|hb
   .simp[Value.ownBlock]at hb;exact hb.symm
   .simp[Value.ownBlock]at hb
  exact⟨by omega,hP.new (by omega)⟩
def Vq:List Row:=[⟨0,[],20,[5]⟩,⟨1,[],21,[0]⟩,⟨2,[],22,[7]⟩,⟨3,[2],23,[21]⟩,⟨4,[],24,[5]⟩,⟨5,[3,4],25,[22,23]⟩,⟨6,[],26,[7]⟩,⟨7,[6],27,[25]⟩,⟨8,[],28,[5]⟩,⟨9,[7,8,5],29,[26,27]⟩,⟨10,[1,5,9,9],30,[20,24,28]⟩,⟨11,[10],31,[29]⟩,⟨12,[0,11,10],32,[19,30]⟩,⟨13,[12,12,0,1,2,3,4,5,6,7,8,9,10,11,12],6,[31]⟩]
theorem Wl(pp h:Nat)(s:jF)(vf:Value)(F:dh)(w0 w:World)(hf:dI w0 0 vf F)(hF:bE.WF F)(hA:∀x,x∈F->x.1.length<=1000000/\x.2.length<=1000000)(hx:Ext w0 w)(hP:dA w pp h s)(hb0:∀b,lg pp h s b->w0.heap.size<=b)(Pm:s.D.length+F.length<=900000):
 Calls prog 127 #[.pointer (some ⟨pp,0,none⟩),.agg #[vf]] w (YP pp h s F w0 w):=by
 obtain⟨i0,hi0,hz0,hz1,hz2⟩:=info_parts iU;obtain⟨aF,gH,rfl,hcap,zz,-⟩:=id hf;have hh5:h+1+1+1+1<w.heap.size:=hP.pJ (by omega);have hx1:Ext w ((w.alloc (.cells #[.slice aF F.length gH] 30)).alloc (.cells (madeCells #[Value.int .i64 0] F.length) 3)):=by go_grown
 have hm0:=Oc hP F.length (by omega) (.cells #[.slice aF F.length gH] 30);have hbx:=bQ (w.alloc (.cells #[.slice aF F.length gH] 30)) w.heap.size 0 _ _ _ (eu w _);have ame:((w.alloc (.cells #[.slice aF F.length gH] 30)).alloc (.cells (madeCells #[Value.int .i64 0] F.length) 3)).cell? ⟨w.heap.size,0,none⟩=some (.slice aF F.length gH):=aI hbx _;have hmk:=λw:World=>run_make (P:=prog) w 41 3 i0 (.int .i64 0) underlying41 hi0 hz0 .i64 .i64 (0:Int) (F.length:Int) (by omega) (by omega) (by rw[hz2];omega) (by omega)
 simp only[hz1,jB,Int.toNat_zero,kT]at hmk;go_enter Tryz.func127,Tryz.ntmps127
 go_upto_region 2 with fail
 generalize (w.alloc (.cells #[.slice aF F.length gH] 30)).alloc (.cells (madeCells #[Value.int .i64 0] F.length) 3)=W0 at *;clear hmk hbx;have q8:jr pp h s w s W0:=jr.refl hP hx1;have hE0:=ah hx hx1;go_wp2
 go_loopw [5,7,15] (λlv _ ii wr=>∃(k:Nat) (s1:jF) (L:List Nat),k<=F.length/\ii=.int .i64 ((k:Nat):Int)/\jr pp h s w s1 wr/\Ext w0 wr/\Hid (∀b,lg pp h s1 b->w0.heap.size<=b)/\l8 pp h s1 w wr lv (.slice none 0 0) L []/\Hid (rR s1.D F L k)/\Hid (s1.D.length<=s.D.length+k)) (λ_ _ ii _=>F.length-(intOf ii).toNat)
 case atStart=>exact⟨0,s,[],aU _,rfl,q8,hE0,aW hb0,hm0,aW (rR.nil _ _),aW (aJ _)⟩
 case round=>
  clear q8 hE0 hm0 hx1 ame;obtain⟨k,s1,L,hk,rfl,hgo,hE,HB,hmm,HL,HD⟩:=hrel;have uP:L.length=k:=HL.out.len;by_cases hlt:k<F.length
  .have h1:((k:Nat):Int)<((F.length:Nat):Int):=by omega
   obtain⟨bF,cF,aL,cL,aR,cR,he,Nh,cl,cr,vM,vJ⟩:=hf.at hlt;simp only[il]at he;obtain⟨rfl,-,rfl⟩:=he;have cl':=fw hE cl;have MC:=fw hE cr;have HF:=aW hf;clear cl cr hf;have dk:F[k]?=some F[k]:=af hlt;obtain⟨Qk,Qj⟩:=hF k _ dk;obtain⟨Ce,MV⟩:=hA _ (ai hlt);obtain⟨aq,cq,rfl,hqc,_⟩:=bT hmm.l;have Kc:Ext wr (wr.alloc (.cells #[.slice aL (F[k]).1.length cL,.slice aR (F[k]).2.length cR] 91)):=(by go_grown);have hbW:=eu wr (.cells #[.slice aL (F[k]).1.length cL,.slice aR (F[k]).2.length cR] 91);have Q4:∀x,x∈(F[k]).1->∃h:x<L.length,L[x]=L.getD x 0:=λx hx=>HL.out.get (Qk x hx)
   have Q3:∀x,x∈(F[k]).2->∃h:x<L.length,L[x]=L.getD x 0:=λx hx=>HL.out.get (Qj x hx)
   have hm1:∀x,x∈((F[k]).1.map λx=>L.getD x 0)->x<s1.D.length:=λx hx=>by
    obtain⟨y,hy,rfl⟩:=az.1 hx;exact(HL.out.opt (Qk y hy)).1
   have hm2:∀x,x∈((F[k]).2.map λx=>L.getD x 0)->x<s1.D.length:=λx hx=>by
    obtain⟨y,hy,rfl⟩:=az.1 hx;exact(HL.out.opt (Qj y hy)).1
   have HI:=jm (vM.ext hE) (vJ.ext hE);have HR:=jm Q4 Q3;have Cf:=jm hm1 hm2;have zw:=jm Ce MV;have hnb:wr.heap.size<(wr.alloc (.cells #[.slice aL (F[k]).1.length cL,.slice aR (F[k]).2.length cR] 91)).heap.size:=bW hbW;have hwl:=hgo.keep.size;have HQ:=aW uP;clear Q4 Q3 hm1 hm2 Ce MV Qk Qj vM vJ uP;go_upto_region 5 with fail
   generalize wr.alloc (.cells #[.slice aL (F[k]).1.length cL,.slice aR (F[k]).2.length cR] 91)=W at *;have c0:=bQ W wr.heap.size 0 _ _ _ hbW;have c1:=bQ W wr.heap.size 1 _ _ _ hbW;simp only[gE]at c0 c1;refine oJ (λV=>V.cell? ⟨wr.heap.size,0,none⟩=some (.slice aL (F[k]).1.length cL)/\V.cell? ⟨wr.heap.size,1,none⟩=some (.slice aR (F[k]).2.length cR)) [13] Vq ⟨c0,c1⟩ (λaj ae=>?_);(refine bP 0 aj ae ?_;refine bP 1 aj ae ?_;refine bP 2 aj ae ?_;refine bP 3 aj ae ?_;refine bP 4 aj ae ?_;refine bP 6 aj ae ?_;refine bP 7 aj ae ?_;refine bP 8 aj ae ?_);(refine jv aj (i:=5) λK hK=>?_;go_simp);refine(uy _ _ (F[k]).1 L (λx=>L.getD x 0) _ (HI.out.1.ext (ah Kc (dQ ⟨1,rfl⟩))) (Ints.gm (hmm.ext (ah Kc (dQ ⟨1,rfl⟩))).l (by rw[bG];have:=HQ.out;omega)) zw.out.1 HR.out.1).mono ?_;rintro e w4 ⟨v4,rfl,Dx,hx4⟩;have GD:=ah (ah Kc (dQ ⟨1,rfl⟩)) hx4;have hn4:wr.heap.size<w4.heap.size:=bg hnb hx4.size;have d0:w4.cell? ⟨wr.heap.size,0,none⟩=some (.slice aL (F[k]).1.length cL):=fw hx4 c0;have d1:w4.cell? ⟨wr.heap.size,1,none⟩=some (.slice aR (F[k]).2.length cR):=fw hx4 c1;(refine hK.out _ _ (λ_=>?_) ?_)
   .exact⟨d0,d1⟩
   clear hK K;(try simp only[nP]);(refine jv aj (i:=9) λK hK=>?_;go_simp);refine(uy _ _ (F[k]).2 L (λx=>L.getD x 0) _ (HI.out.2.ext GD) (Ints.gm (hmm.ext GD).l (by rw[bG];have:=HQ.out;omega)) zw.out.2 HR.out.2).mono ?_;rintro e w5 ⟨v5,rfl,lq,hx5⟩;have Jy:=ah GD hx5;have hn5:wr.heap.size<w5.heap.size:=bg hn4 hx5.size;have e0:w5.cell? ⟨wr.heap.size,0,none⟩=some (.slice aL (F[k]).1.length cL):=fw hx5 d0;have e1:w5.cell? ⟨wr.heap.size,1,none⟩=some (.slice aR (F[k]).2.length cR):=fw hx5 d1;(refine hK.out _ _ (λ_=>?_) ?_)
   .exact⟨e0,e1⟩
   clear hK K;(try simp only[nP]);have hP5:=hgo.pool.ext Jy;have agF:¬lg pp h s1 wr.heap.size:=(hgo.pool.new (aJ _)).1;have hl1:(((F[k]).1.map λx=>L.getD x 0)).length<=1000000:=(by rw[bK];exact zw.out.1);have hl2:(((F[k]).2.map λx=>L.getD x 0)).length<=1000000:=(by rw[bK];exact zw.out.2);(refine jv aj (i:=10) λK hK=>?_;go_simp);refine(qW pp h s1 _ _ _ _ w5 hP5 (by have:=HD.out;omega) Cf.out.1 Cf.out.2 hl1 hl2 (Ints.gm (dD Dx hx5) (by rw[bG];omega)) (Ints.gm lq (by rw[bG];omega))).mono ?_;rintro e w6 ⟨s2,i,rfl,uQ,OH,hc6⟩;have f0:w6.cell? ⟨wr.heap.size,0,none⟩=some (.slice aL (F[k]).1.length cL):=(mP (uQ.keep.block _ hn5 agF)).trans e0;have f1:w6.cell? ⟨wr.heap.size,1,none⟩=some (.slice aR (F[k]).2.length cR):=(mP (uQ.keep.block _ hn5 agF)).trans e1;(refine hK.out _ _ (λ_=>?_) ?_)
   .exact⟨f0,f1⟩
   clear hK K;(try simp only[nP]);(refine jv aj (i:=11) λK hK=>?_;go_simp);(refine hK.out _ _ (λ_=>?_) ?_)
   .exact⟨aI f0 _,aI f1 _⟩
   clear hK K;(try simp only[nP]);have JB:=(hmm.ext Jy).go hh5 uQ.n;have asH:=uQ.keep.size;have Tf:=Jy.size;refine jv aj (i:=12) λK hK=>?_
   refine jf rfl (.tmp 19) (.tmp 30) 41 rfl w.heap.size 3 i0 (.int .i64 0) 1 8 underlying41 hi0 hz0 hz1 hz2 rfl (by decide) (.slice aq L.length cq) L.length _ rfl (JB.l.alloc _) _ 1 _ [.int .i64 ((i:Nat):Int)] rfl rfl (.inr ⟨_,rfl,fD (dW _ _ _)⟩) one_cell (by have:=HQ.out;unfold maxLen;omega) (by have:=HQ.out;omega) (by rw[fU];omega) ?_;intro v9 w9 Fv Av L8;obtain⟨x9,y9,rfl,-,-⟩:=bT Fv;have hxa:Ext w6 (w6.alloc (.cells #[.int .i64 ((i:Nat):Int)] 3)):=bY (gz _ _) _;have hkg:=fP Av;have hnl:∀b,(Value.slice aq L.length cq).ownBlock=some b->b≠wr.heap.size:=λb hb e=>by have:=(hmm.xK b (.inl hb)).1;omega
   have g0:w9.cell? ⟨wr.heap.size,0,none⟩=some (.slice aL (F[k]).1.length cL):=(mP (hkg.block _ (bg (bg hn5 uQ.keep.size) hxa.size) (λhb=>hnl _ hb rfl))).trans (aI f0 _);have g1:w9.cell? ⟨wr.heap.size,1,none⟩=some (.slice aR (F[k]).2.length cR):=(mP (hkg.block _ (bg (bg hn5 uQ.keep.size) hxa.size) (λhb=>hnl _ hb rfl))).trans (aI f1 _);(refine hK.out _ _ (λ_=>?_) ?_)
   .exact⟨g0,g1⟩
   clear hK K;(try simp only[nP]);refine nQ aj [13] [_] ?_;clear aj ae;go_wp2
   go_roundw
   case rel=>
    have alX:=(hgo.ext Jy).trans uQ;have alW:=(alX.ext hxa).side hkg (λb hb=>⟨JB.lo (.inl hb),(JB.xK b (.inl hb)).2⟩);have hB6:∀b,lg pp h s2 b->w0.heap.size<=b:=λb hb=>by
     rcases uQ.own b hb with c|c
     .exact HB.out b c
     .have:=hE.size;omega
    have Rm:Ext w0 w6:=ko (ah hE Jy) uQ.keep (λb hb=>HB.out b hb);have Pq:Ext w0 w9:=ko (ah Rm hxa) hkg (λb hb=>by have:=JB.lo (.inl hb);have:=hx.size;omega);have Zg:=JB.push (news:=[i]) uQ.pool hxa Av Fv (by simp) (by rw[lS,dw];rfl) L8;have hln:=OH.len;have hl7:=((HL.out.go hgo.pool.good.wf uQ).next OH.lt (SF hgo.pool.good.wf uQ.pool.good.wf hF hlt HL.out OH));exact⟨k+1,s2,L++[i],by omega,by go_num,alW,Pq,aW hB6,Zg,aW hl7,aW (by have:=HD.out;omega)⟩
   case measure=>simp[intOf];omega
  .have h1:¬(((k:Nat):Int)<((F.length:Nat):Int)):=by omega
   have hke:k=F.length:=(by omega);subst hke;obtain⟨aq,cq,rfl,hqc,_⟩:=bT hmm.l;clear uP;go_wp2
   go_ret
   exact⟨s1,_,L,rfl,hmm.l,hgo,HL.out,HD.out,hE,HB.out⟩
end
section
open Go.RowKit
open bE (dh Nd Gm vl)
def abw(nd:Nd)(w0 w:World)(e:Ending)(w':World):Prop:=
 ∃aL cL aR cR,e=.returned (.agg #[.slice aL nd.1.length cL,.slice aR nd.2.length cR])/\Ints w0 (.slice aL nd.1.length cL) (dB nd.1)/\Ints w0 (.slice aR nd.2.length cR) (dB nd.2)/\Ext w w'
theorem ZG(v:Value)(F:dh)(n:Nat)(nd:Nd)(w0 w:World)(hf:dI w0 0 v F)(BB:Ext w0 w)(hn:F.length=n+1)(hd:F[n]?=some nd):Calls prog 76 #[.agg #[v]] w (abw nd w0 w):=by
 obtain⟨h0,e0⟩:=df.1 hd;obtain⟨bF,gH,aL,cL,aR,cR,rfl,hcap,cl,cr,vM,vJ⟩:=hf.at h0;obtain⟨a',c',he,-,zz,-⟩:=id hf;simp only[il]at he;rw[e0]at cl cr vM vJ;rw[hn];obtain⟨W,hW,hx,hb0,hb1⟩:∃W,W=(w.alloc (.cells #[.slice (some ⟨bF,0,none⟩) (n+1) gH] 30)).alloc (.cells #[.slice none 0 0,.slice none 0 0] 91)/\Ext w W/\W.heap[w.heap.size]?=some (.cells #[.slice (some ⟨bF,0,none⟩) (n+1) gH] 30 (0,0))/\W.heap[w.heap.size+1]?=some (.cells #[.slice none 0 0,.slice none 0 0] 91 (0,0)):=by
  refine⟨_,rfl,by go_grown,?_,?_⟩
  .rw[jo _ _ _ (by simp)];exact eu _ _
  .have h:=eu (w.alloc (.cells #[.slice (some ⟨bF,0,none⟩) (n+1) gH] 30)) (.cells #[.slice none 0 0,.slice none 0 0] 91);rw[fU]at h;exact h
 have c0:=bQ W w.heap.size 0 _ _ _ hb0;have q1:=bQ W (w.heap.size+1) 0 _ _ _ hb1;have q2:=bQ W (w.heap.size+1) 1 _ _ _ hb1;have q3:=gQ W (w.heap.size+1) 0 _ _ hb1;have q4:=gQ W (w.heap.size+1) 1 _ _ hb1;simp only[gE]at c0 q1 q2;have QZ:=ah BB hx;have cl':=fw QZ cl;have MC:=fw QZ cr;have HB:=aW hb1;have HX:=aW hx;have HI:=jm vM vJ;have hwk:wrap64 ((n:Nat):Int)=((n:Nat):Int):=by unfold maxLen at zz;unfold wrap64;omega
 clear hb0 hb1 hx QZ BB he hf cl cr vM vJ hcap hn e0 hd h0;go_enter Tryz.func76,Tryz.ntmps76
 go_upto_region 1 with fail
 rw[<-hW];clear hW;have hj:((n:Nat):Int)<((n:Nat):Int)+1:=by omega
 go_wp2
 (try simp only[Exit.inBlock,Exit.then]);have hr1:=gK W (w.heap.size+1) 0 _ _ (.slice aL nd.1.length cL) HB.out;have hr2:=gK (W.setCell ⟨w.heap.size+1,0,none⟩ (.slice aL nd.1.length cL)) (w.heap.size+1) 1 _ _ (.slice aR nd.2.length cR) hr1;refine bodyPost_ret (results_cell_row rfl _ _ (w.heap.size+1) 91 #[.slice aL nd.1.length cL,.slice aR nd.2.length cR] (0,0) _ rfl hr2 underlying91 rfl (by kernel_rfl)) rfl ?_;have hx2:Ext w ((W.setCell ⟨w.heap.size+1,0,none⟩ (.slice aL nd.1.length cL)).setCell ⟨w.heap.size+1,1,none⟩ (.slice aR nd.2.length cR)):=ll (ll HX.out (w.heap.size+1) 0 _) (w.heap.size+1) 1 _;exact⟨aL,cL,aR,cR,rfl,HI.out.1,HI.out.2,hx2⟩
end
