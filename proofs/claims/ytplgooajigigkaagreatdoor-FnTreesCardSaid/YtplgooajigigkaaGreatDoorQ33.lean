/- 33 -/
import Derived.Test.YtplgooajigigkaaGreatDoorQ31
import Derived.Test.YtplgooajigigkaaGreatDoorQ32
set_option maxRecDepth 100000
set_option maxHeartbeats 4000000
namespace Go.Proofs.YtplgooajigigkaaGreatDoor
open Tryz
section
open Go.RowKit
variable {k:Nat}
theorem xO{w:World}{B e g n cap:Nat}{l:List Int}(h:w.ownsRow B e 1 (.slice (some ⟨g,0,none⟩) n cap) n (l.map (Value.int .i64)))(hk:k<n)(x:Int):
 (w.setCell ⟨g,k,none⟩ (.int .i64 x)).ownsRow B e 1 (.slice (some ⟨g,0,none⟩) n cap) n ((l.set k x).map (Value.int .i64)):=by
 obtain⟨hl,h2⟩:=h;refine⟨by simpa using hl,?_⟩;rcases h2 with⟨e1,_⟩|⟨g',cap',cur,e1,hb,hg,hnc,hcm,hcs,ht⟩
 .simp at e1
 .simp only[gz,bN,Addr.mk.injEq,and_true,true_and]at e1
  obtain⟨rfl,rfl⟩:=e1;refine .inr ⟨g,cap,cur.setIfInBounds k (.int .i64 x),rfl,hb,iV _ _ _ _ _ _ hg,hnc,hcm,by simp[hcs],?_⟩;rw[Array.toList_setIfInBounds,uf,<-ht,List.take_set]
theorem xE(l:List Nat)(h:l.Nodup):((bV l).mergeSort λx y=>decide (x<=y))=bV (aS l):=by
 generalize hms:((bV l).mergeSort λx y=>decide (x<=y))=ms;have hs:ms.Pairwise (·<=·):=by
  rw[<-hms];have:=List.pairwise_mergeSort (le:=λx y:Int=>decide (x<=y)) (λa b c h1 h2=>by simp at *;omega) (λa b=>by simp;omega) (bV l);exact this.imp (λh=>by simpa using h)
 have hp:ms.Perm (bV l):=by rw[<-hms];exact List.mergeSort_perm _ _
 have hnd:ms.Nodup:=hp.symm.nodup (by rw[bV,List.Nodup,gP];exact h.imp (λh e=>h (by omega)));have ha:ms.Pairwise (· < ·):=(hs.and hnd).imp (λh=>by omega);have hnn:∀x,x∈ms->∃n:Nat,x=(n:Int):=λx hx=>by obtain⟨n,_,e⟩:=mo (hp.mem_iff.1 hx);exact⟨n,e⟩
 have e1:ms=bV (ms.map Int.toNat):=by
  unfold bV;rw[eP]
  conv=>lhs;rw[<-o6 ms]
  refine bE λx hx=>?_
  obtain⟨n,rfl⟩:=hnn x hx;rfl
 rw[e1];congr 1;refine aZ.tC ?_ (iP l) (λx=>?_)
 .unfold aZ.Asc
  rw[gP];refine fu (λ{a b} ha hb h=>?_) ha;obtain⟨n,rfl⟩:=hnn a ha;obtain⟨m,rfl⟩:=hnn b hb;simp;omega
 .rw[bU]
  have hm:(x:Int)∈ms↔x∈l:=by
   rw[hp.mem_iff];exact⟨λh=>by obtain⟨n,hn,e⟩:=mo h;rw[show x=n by omega];exact hn,λh=>ay.2 ⟨x,h,rfl⟩⟩
  rw[<-hm];constructor
  .intro h
   obtain⟨y,hy,rfl⟩:=ay.1 h;obtain⟨n,rfl⟩:=hnn y hy;exact hy
  .intro h
   exact ay.2 ⟨(x:Int),h,rfl⟩
theorem yN(w:World)(n:Nat)(hn:n<=1000000):(w.alloc (.cells (madeCells #[Value.int .i64 0] n) 3)).ownsRow w.heap.size 3 1 (.slice (some ⟨w.heap.size,0,none⟩) n n) n ((List.replicate n (0:Int)).map (Value.int .i64)):=by
 have h:=World.ownsRow_lit w (base:=w.heap.size) (madeCells #[Value.int .i64 0] n) n (e:=3) (size:=1) (ax _) (by unfold maxLen;omega) (by rw[size_madeCells];simp);rw[sG]at h;exact h
def Cx(l:List Nat)(w:World)(e:Ending)(w':World):Prop:=∃v',e=.returned v'/\w'.ownsRow w.heap.size 3 1 v' (aS l).length ((bV (aS l)).map (Value.int .i64))/\Ext w w'
theorem DL{l:List Nat}{rk:Nat->Nat}(hk:k<l.length):(bV ((l.take k).map rk)++List.replicate (l.length-k) 0).set k (rk l[k]:Int)=bV ((l.take (k+1)).map rk)++List.replicate (l.length-(k+1)) 0:=by
 have h1:(bV ((l.take k).map rk)).length=k:=by rw[aP,bH,gZ];omega
 rw[qJ _ _ (by omega),h1,Nat.sub_self,aW hk,bz,mq,dh];congr 1;rw[show l.length-k=(l.length-(k+1))+1 by omega,List.replicate_succ];rfl
theorem Bd(v:Value)(O:List Nat)(rb n:Nat)(fm:Value->Option Value)(rk:Nat->Nat)(w:World)(hv:Ints w v (bV O))(hO:O.length<=1000000)(hOl:∀x,x∈O->x<900000000)(hM:fM prog 3 w rb n fm)(hf:∀x,x∈O->fm (.int .i64 (x:Int))=some (.int .i64 (rk x:Int)))(hnd:(O.map rk).Nodup):
 Calls prog 169 #[v,.map (some rb)] w (Cx (O.map rk) w):=by
 obtain⟨i0,hi0,hz0,hz1,hz2⟩:=info_parts fB;obtain⟨a,cap,rfl,hlc,hcap,hc⟩:=hv;rw[aP]at hlc hcap hc ⊢;have hmk:=λw:World=>run_make (P:=prog) w 41 3 i0 (.int .i64 0) underlying41 hi0 hz0 .i64 .i64 (O.length:Int) (O.length:Int) (by omega) (by omega) (by rw[hz2];omega) (by omega)
 simp only[hz1,jo,eB]at hmk;have hown0:=yN w O.length hO;have hx0:Ext w (w.alloc (.cells (madeCells #[Value.int .i64 0] O.length) 3)):=by go_grown
 go_enter Tryz.func169,Tryz.ntmps169
 go_upto_region 2 with fail
 generalize w.alloc (.cells (madeCells #[Value.int .i64 0] O.length) 3)=W0 at *;clear hmk;go_wp2
 go_loopw [6,7,13] (λ_ _ ii wr=>∃k:Nat,k<=O.length/\ii=.int .i64 ((k:Nat):Int)/\wr.ownsRow w.heap.size 3 1 (.slice (some ⟨w.heap.size,0,none⟩) O.length O.length) O.length ((bV ((O.take k).map rk)++List.replicate (O.length-k) 0).map (Value.int .i64))/\Ext w wr) (λ_ _ ii _=>O.length-(intOf ii).toNat)
 case atStart=>exact⟨0,az _,rfl,by simpa [bV]using hown0,hx0⟩
 case round=>
  clear hown0 hx0;obtain⟨k,hk,rfl,hown,hx⟩:=hrel;by_cases hlt:k<O.length
  .have h1:((k:Nat):Int)<((O.length:Nat):Int):=by omega
   obtain⟨b,off,rfl,hcell⟩:=hc (by omega);have hck:=hcell k hlt;rw[fD hlt]at hck;have lK:=dP hx hck;have hfx:=hf _ (aj hlt);have hxl:=hOl _ (aj hlt);have HS:=aI (DL (rk:=rk) hlt);obtain⟨x,hxe⟩:=eu (O[k]);rw[<-hxe]at hck lK hfx hxl HS;obtain⟨kl,hkl⟩:=qN x (by omega);have hlk:=(hM.keep (hx.block rb hM.lt)).look oz underlying152 (Gi wr) hkl false;rw[hfx]at hlk;simp only[gM,Bool.false_eq_true,if_false]at hlk;have hcz:=hown.cellAt k (by omega);obtain⟨u,hu⟩:∃u,wr.cell? ⟨w.heap.size,k,none⟩=some u:=by
    have:=hown.1;rw[hcz];exact⟨_,ae (by rw[this];omega)⟩
   have hfr:wr.frozen? ⟨w.heap.size,k,none⟩=false:=hown.frozenAt k;clear hcell hxe hcz;go_wp2
   go_roundw
   case rel=>exact⟨k+1,by omega,by go_num,by rw[<-HS.out];exact xO hown hlt _,hx.setCell (p:=⟨w.heap.size,k,none⟩) (ax _) _⟩
   case measure=>simp[intOf];omega
  .have h1:¬(((k:Nat):Int)<((O.length:Nat):Int)):=by omega
   have hke:k=O.length:=(by omega);subst hke;rw[cO,Nat.sub_self,List.replicate_zero,gK]at hown;have hsl:(aS (O.map rk)).length=O.length:=by
    have:=congrArg List.length (xE (O.map rk) hnd);rw[List.length_mergeSort,aP,aP,bH]at this;exact this.symm
   rcases pM O.length with hz|hz
   .have hOn:O=[]:=cz hz
    subst hOn;go_wp2_with (go_at_call 202;refine(Tryz.slices_Sort_int_none _ _ _).mono ?_;rintro e w2 ⟨rfl,hw2⟩;subst hw2)
    go_ret
    exact⟨_,rfl,by simpa [aS,jf,bV]using hown,hx⟩
   .have hll:(bV (O.map rk)).length=O.length:=by rw[aP,bH]
    have Tt:=Tryz.slices_Sort_int w.heap.size 0 O.length (bV (O.map rk)) wr (yU hown) (hown.lt _ rfl).2 (by omega);rw[hll]at Tt;have HS:=aI Tt;have hms:((bV (O.map rk)).mergeSort λx y=>decide (x<=y)).length=(bV (O.map rk)).length:=List.length_mergeSort _;have HMS:=aI hms;clear Tt hll hms;go_wp2_with (go_at_call 202;refine HS.out.mono ?_;rintro e w2 ⟨rfl,m2,os2,hw2⟩)
    go_ret
    obtain⟨ho2,hk2⟩:=EW hown HMS.out m2 os2;rw[<-hw2]at ho2 hk2 ⊢;rw[xE _ hnd]at ho2;refine⟨_,rfl,by rw[hsl];exact ho2,⟨hk2.os.trans hx.os,hk2.tape.trans hx.tape,hk2.output.trans hx.output,df hx.size hk2.size,λk hk=>?_⟩⟩;rw[hk2.block k (by have:=hx.size;omega) (by omega)];exact hx.block k hk
end
section
open Go.RowKit
open aZ (cZ Nd Gm vl)
variable {F:cZ} {i:Nat} {m:Int}
def VF(F:cZ)(i:Nat):List Int:=((List.range i).map λj=>(aZ.born (vl F j):Int))++List.replicate (F.length-i) 0
def yz(F:cZ)(i:Nat)(m:Int):List Int:=((List.range i).map λj=>(aZ.born (vl F j):Int))++m :: List.replicate (F.length-(i+1)) 0
theorem NF:((yz F i m).map (Value.int .i64))[i]?=some (.int .i64 m):=by
 rw[bO,yz,dC (by simp)];simp
theorem ND{x:Nat}(h:x<i):((yz F i m).map (Value.int .i64))[x]?=some (.int .i64 (aZ.born (vl F x):Int)):=by
 rw[bO,yz,bQ (by simpa using h)];simp[h]
theorem Ju{m':Int}:(yz F i m).set i m'=yz F i m':=by
 unfold yz;rw[qJ _ _ (by simp)];simp
theorem Uh(h:i<F.length):VF F i=yz F i 0:=by
 unfold VF yz;rw[show F.length-i=(F.length-(i+1))+1 by omega,List.replicate_succ]
theorem PN:yz F i (aZ.born (vl F i):Int)=VF F (i+1):=by
 unfold VF yz;rw[nA,bz];simp
theorem Ug(F:cZ):VF F 0=List.replicate F.length 0:=by simp[VF]
def Qa(F:cZ)(w:World)(e:Ending)(w':World):Prop:=∃v',e=.returned v'/\w'.ownsRow w.heap.size 3 1 v' F.length ((VF F F.length).map (Value.int .i64))/\Ext w w'
def Kj:List Row:=[⟨0,[],28,[3]⟩,⟨1,[],29,[4]⟩,⟨2,[],30,[3]⟩,⟨3,[],31,[4]⟩,⟨4,[2,3],32,[29,30]⟩,⟨5,[4],33,[31]⟩,⟨6,[],34,[3]⟩,⟨7,[],35,[7]⟩,⟨8,[6,7],36,[33,34]⟩,⟨9,[8],37,[35]⟩,⟨10,[9],38,[36]⟩,⟨11,[5,10],39,[32,37]⟩,⟨12,[0,1,0,1,2,3,4,5,6,7,8,9,10,11],40,[27,28]⟩,⟨13,[12,11,0,1,2,3,4,5,6,7,8,9,10,11],0,[39,38]⟩]
def G7:List Row:=[⟨0,[],49,[3]⟩,⟨1,[],50,[4]⟩,⟨2,[],51,[3]⟩,⟨3,[],52,[4]⟩,⟨4,[2,3],53,[50,51]⟩,⟨5,[4],54,[52]⟩,⟨6,[],55,[3]⟩,⟨7,[],56,[9]⟩,⟨8,[6,7],57,[54,55]⟩,⟨9,[8],58,[56]⟩,⟨10,[9],59,[57]⟩,⟨11,[5,10],60,[53,58]⟩,⟨12,[0,1,0,1,2,3,4,5,6,7,8,9,10,11],61,[48,49]⟩,⟨13,[12,11,0,1,2,3,4,5,6,7,8,9,10,11],0,[60,59]⟩]
theorem Mf(v:Value)(F:cZ)(w:World)(hf:eZ w 0 v F)(hF:aZ.WF F)(hl:F.length<=1000000):Calls prog 100 #[v] w (Qa F w):=by
 obtain⟨i0,hi0,hz0,hz1,hz2⟩:=info_parts fB;obtain⟨aF,fI,rfl,hcap,yH,-⟩:=id hf;have hmk:=λw:World=>run_make (P:=prog) w 41 3 i0 (.int .i64 0) underlying41 hi0 hz0 .i64 .i64 (F.length:Int) (F.length:Int) (by omega) (by omega) (by rw[hz2];omega) (by omega)
 simp only[hz1,jo,eB]at hmk;have hown0:=yN w F.length hl;have hx0:Ext w (w.alloc (.cells (madeCells #[Value.int .i64 0] F.length) 3)):=by go_grown
 go_enter Tryz.func100,Tryz.ntmps100
 go_upto_region 2 with fail
 generalize w.alloc (.cells (madeCells #[Value.int .i64 0] F.length) 3)=W0 at *;clear hmk;rw[<-Ug]at hown0;go_wp2
 go_loopw [4,5,15] (λ_ _ ii wr=>∃i:Nat,i<=F.length/\ii=.int .i64 ((i:Nat):Int)/\wr.ownsRow w.heap.size 3 1 (.slice (some ⟨w.heap.size,0,none⟩) F.length F.length) F.length ((VF F i).map (Value.int .i64))/\Ext w wr) (λ_ _ ii _=>F.length-(intOf ii).toNat)
 case atStart=>exact⟨0,az _,rfl,hown0,hx0⟩
 case round=>
  clear hown0 hx0;obtain⟨i,hi,rfl,hown,hx⟩:=hrel;by_cases hlt:i<F.length
  .have h1:((i:Nat):Int)<((F.length:Nat):Int):=by omega
   obtain⟨bF,cF,aL,cL,aR,cR,he,Qf,cl,cr,C9,C8⟩:=hf.at hlt;simp only[gz]at he;obtain⟨rfl,-,rfl⟩:=he;have cl':=dP hx cl;have LZ:=dP hx cr;have dk:F[i]?=some F[i]:=ae hlt;obtain⟨QB,QA⟩:=hF i _ dk;obtain⟨FL,VC⟩:=eu ((F[i]).1);obtain⟨FR,JJ⟩:=eu ((F[i]).2);rw[<-VC]at cl' C9 QB;rw[<-JJ]at LZ C8 QA;have HF:=aI hf;have HK:=jW VC JJ;have II:Ext wr (wr.alloc (.cells #[.slice aL FL.length cL,.slice aR FR.length cR] 91)):=(by go_grown);have hbW:=dV wr (.cells #[.slice aL FL.length cL,.slice aR FR.length cR] 91);have hwz:=(hown.lt _ rfl).2;have Sy:=bW hown II;rw[Uh hlt]at Sy;have hE:=ah hx II;have amV:eH F (FL.take 0)=0:=rfl;clear cl cr hf VC JJ dk hown;go_upto_region 5 with fail
   generalize wr.alloc (.cells #[.slice aL FL.length cL,.slice aR FR.length cR] 91)=W at *;have c0:=bI W wr.heap.size 0 _ _ _ hbW;have c1:=bI W wr.heap.size 1 _ _ _ hbW;simp only[gE]at c0 c1;generalize hnb:wr.heap.size=nb at *;clear cl' LZ hx II hbW hnb wr hi;obtain⟨a',c',e,-,Z4,LA⟩:=C9;simp only[gz,aP,true_and]at e Z4 LA;obtain⟨rfl,rfl⟩:=e;obtain⟨a',c',e,-,Z0,Lx⟩:=C8;simp only[gz,aP,true_and]at e Z0 Lx;obtain⟨rfl,rfl⟩:=e;have hbd:∀x,x<i->aZ.born (vl F x)<=1000000:=λx hx=>by have:=aZ.mH hF x;omega
   have WK1:=aI QB;have WK2:=aI QA;have HBD:=aI hbd;have HCL:=aI LA;have HCR:=aI Lx;clear QB QA hbd LA Lx;go_wp2
   go_loopw [7,23] (λ_ ii wr=>∃k:Nat,k<=FL.length/\ii=.int .i64 ((k:Nat):Int)/\wr.ownsRow w.heap.size 3 1 (.slice (some ⟨w.heap.size,0,none⟩) F.length F.length) F.length ((yz F i (eH F (FL.take k))).map (Value.int .i64))/\Ext w wr/\wr.cell? ⟨nb,1,none⟩=some (.slice aR FR.length cR)) (λ_ ii _=>FL.length-(intOf ii).toNat)
   case atStart=>exact⟨0,az _,rfl,Sy,hE,c1⟩
   case round=>
    clear Sy hE c0 c1;obtain⟨k,hk,rfl,hown,hx,c1⟩:=hrel;by_cases hk1:k<FL.length
    .have h2:((k:Nat):Int)<((FL.length:Nat):Int):=by omega
     obtain⟨b,off,rfl,hcell⟩:=HCL.out (by omega);have hck:=hcell k hk1;rw[fD hk1]at hck;have lK:=dP hx hck;have hxi:=WK1.out _ (aj hk1);have hbx:=HBD.out _ hxi;have hbt:=kU hF (FL.take k) (λx hx=>by have:=WK1.out x (gy hx);omega);have HS:=aI (uU F hk1);have q1:=(hown.cellAt i (by omega)).trans NF;have q2:=(hown.cellAt FL[k] (by omega)).trans (ND hxi);obtain⟨x,hxe⟩:=eu (FL[k]);obtain⟨m,hm⟩:=eu (eH F (FL.take k));rw[<-hxe]at lK hxi hbx HS q2;rw[<-hm]at hbt HS q1 hown;obtain⟨bx,hbe⟩:=eu (aZ.born (vl F x));rw[<-hbe]at hbx HS q2;have hfr:wr.frozen? ⟨w.heap.size,i,none⟩=false:=hown.frozenAt i;have hwk:wrap64 ((bx:Int)+1)=(bx:Int)+1:=(by unfold wrap64;omega);have hxF:((x:Nat):Int)<(F.length:Int):=(by omega);have HO:=aI hown;clear hcell hck hxe hm hbe hbt hbx hxi hown;go_upto_region 8 with fail
     refine mQ (λV=>V.cell? ⟨w.heap.size,i,none⟩=some (.int .i64 m)/\V.cell? ⟨w.heap.size,x,none⟩=some (.int .i64 (bx:Int))) [12,13] Kj ⟨q1,q2⟩ (λai aa=>?_);(refine bg 0 ai aa ?_;refine bg 1 ai aa ?_;refine bg 2 ai aa ?_;refine bg 3 ai aa ?_;refine bg 4 ai aa ?_;refine bg 5 ai aa ?_;refine bg 6 ai aa ?_;refine bg 7 ai aa ?_;refine bg 8 ai aa ?_;refine bg 9 ai aa ?_;refine bg 10 ai aa ?_;refine bg 11 ai aa ?_);refine mM ai [12,13] [_,_] ?_;clear ai aa;go_wp2
     go_roundw
     case rel=>
      have hk':=xO HO.out hlt (max m ((bx:Int)+1));rw[Ju]at hk';exact⟨k+1,by omega,by go_num,by rw[HS.out];exact bW hk' (dz ⟨1,rfl⟩),ah (hx.setCell (p:=⟨w.heap.size,i,none⟩) (ax _) _) (dz ⟨1,rfl⟩),(lh (dx.block nb (lt_of_cell c1) (λe=>by simp only at e;omega))).trans c1⟩
     case measure=>simp[intOf];omega
    .have h2:¬(((k:Nat):Int)<((FL.length:Nat):Int)):=by omega
     have hke:k=FL.length:=(by omega);subst hke;have hown0:wr.ownsRow w.heap.size 3 1 (.slice (some ⟨w.heap.size,0,none⟩) F.length F.length) F.length ((yz F i (eH F (FL++FR.take 0))).map (Value.int .i64)):=by
      rw[cO]at hown;rw[List.take_zero,gK];exact hown
     clear hown;go_wp2
     go_loopw [9,44] (λ_ ii wr=>∃k:Nat,k<=FR.length/\ii=.int .i64 ((k:Nat):Int)/\wr.ownsRow w.heap.size 3 1 (.slice (some ⟨w.heap.size,0,none⟩) F.length F.length) F.length ((yz F i (eH F (FL++FR.take k))).map (Value.int .i64))/\Ext w wr) (λ_ ii _=>FR.length-(intOf ii).toNat)
     case atStart=>exact⟨0,az _,rfl,hown0,hx⟩
     case round=>
      clear hown0 hx;obtain⟨k,hk,rfl,hown,hx⟩:=hrel;by_cases hk1:k<FR.length
      .have h2:((k:Nat):Int)<((FR.length:Nat):Int):=by omega
       obtain⟨b,off,rfl,hcell⟩:=HCR.out (by omega);have hck:=hcell k hk1;rw[fD hk1]at hck;have lK:=dP hx hck;have hxi:=WK2.out _ (aj hk1);have hbx:=HBD.out _ hxi;have hbt:=kU hF (FL++FR.take k) (λx hx=>by rcases aM.1 hx with hx|hx;(have:=WK1.out x hx;omega);(have:=WK2.out x (gy hx);omega));have HS:=aI (sW F FL hk1);have q1:=(hown.cellAt i (by omega)).trans NF;have q2:=(hown.cellAt FR[k] (by omega)).trans (ND hxi);obtain⟨x,hxe⟩:=eu (FR[k]);obtain⟨m,hm⟩:=eu (eH F (FL++FR.take k));rw[<-hxe]at lK hxi hbx HS q2;rw[<-hm]at hbt HS q1 hown;obtain⟨bx,hbe⟩:=eu (aZ.born (vl F x));rw[<-hbe]at hbx HS q2;have hfr:wr.frozen? ⟨w.heap.size,i,none⟩=false:=hown.frozenAt i;have hwk:wrap64 ((bx:Int)+1)=(bx:Int)+1:=(by unfold wrap64;omega);have hxF:((x:Nat):Int)<(F.length:Int):=(by omega);have HO:=aI hown;clear hcell hck hxe hm hbe hbt hbx hxi hown;go_upto_region 13 with fail
       refine mQ (λV=>V.cell? ⟨w.heap.size,i,none⟩=some (.int .i64 m)/\V.cell? ⟨w.heap.size,x,none⟩=some (.int .i64 (bx:Int))) [12,13] G7 ⟨q1,q2⟩ (λai aa=>?_);(refine bg 0 ai aa ?_;refine bg 1 ai aa ?_;refine bg 2 ai aa ?_;refine bg 3 ai aa ?_;refine bg 4 ai aa ?_;refine bg 5 ai aa ?_;refine bg 6 ai aa ?_;refine bg 7 ai aa ?_;refine bg 8 ai aa ?_;refine bg 9 ai aa ?_;refine bg 10 ai aa ?_;refine bg 11 ai aa ?_);refine mM ai [12,13] [_,_] ?_;clear ai aa;go_wp2
       go_roundw
       case rel=>
        have hk':=xO HO.out hlt (max m ((bx:Int)+1));rw[Ju]at hk';exact⟨k+1,by omega,by go_num,by rw[HS.out];exact bW hk' (dz ⟨1,rfl⟩),ah (hx.setCell (p:=⟨w.heap.size,i,none⟩) (ax _) _) (dz ⟨1,rfl⟩)⟩
       case measure=>simp[intOf];omega
      .have h2:¬(((k:Nat):Int)<((FR.length:Nat):Int)):=by omega
       have hke:k=FR.length:=(by omega);subst hke;rw[cO]at hown;have hb:(aZ.born (vl F i):Int)=eH F (FL++FR):=by
        have hb0:=kU hF (FL++FR) (λx hx=>by rcases aM.1 hx with hx|hx;(have:=WK1.out x hx;omega);(have:=WK2.out x hx;omega));refine qG hF (l':=FL) (r':=FR) ?_ (λ_=>Iff.rfl) (λ_=>Iff.rfl) hb0.1;rw[HK.out.1,HK.out.2];exact ae hlt
       rw[<-hb,PN]at hown;have HO:=aI hown;clear hown hb;go_wp2
       go_roundw
       case rel=>exact⟨i+1,by omega,by go_num,HO.out,hx⟩
       case measure=>simp[intOf];omega
  .have h1:¬(((i:Nat):Int)<((F.length:Nat):Int)):=by omega
   have hie:i=F.length:=(by omega);subst hie;go_wp2
   go_ret
   exact⟨_,rfl,hown,hx⟩
end
section
open Go.RowKit
def Yb(l:List Nat)(w:World)(e:Ending)(w':World):Prop:=∃v',e=.returned v'/\w'.ownsRow w.heap.size 3 1 v' l.length ((bV l).map (Value.int .i64))/\Ext w w'
theorem zG(v vn:Value)(O N:List Nat)(rk:Nat->Nat)(w:World)(hv:Ints w v (bV O))(hn:Ints w vn (bV N))(hO:O.length<=1000000)(hOl:∀x,x∈O->∃h:x<N.length,N[x]=rk x):
 Calls prog 128 #[v,vn] w (Yb (O.map rk) w):=by
 obtain⟨i0,hi0,hz0,hz1,hz2⟩:=info_parts fB;obtain⟨a,cap,rfl,hlc,hcap,hc⟩:=hv;obtain⟨an,Ue,rfl,agj,acK,hnc⟩:=hn;simp only[aP]at hlc hcap hc agj acK hnc ⊢;have hmk:=λw:World=>run_make (P:=prog) w 41 3 i0 (.int .i64 0) underlying41 hi0 hz0 .i64 .i64 (O.length:Int) (O.length:Int) (by omega) (by omega) (by rw[hz2];omega) (by omega)
 simp only[hz1,jo,eB]at hmk;have hown0:=yN w O.length hO;have hx0:Ext w (w.alloc (.cells (madeCells #[Value.int .i64 0] O.length) 3)):=by go_grown
 go_enter Tryz.func128,Tryz.ntmps128
 go_upto_region 2 with fail
 generalize w.alloc (.cells (madeCells #[Value.int .i64 0] O.length) 3)=W0 at *;clear hmk;go_wp2
 go_loopw [6,7,13] (λ_ _ ii wr=>∃k:Nat,k<=O.length/\ii=.int .i64 ((k:Nat):Int)/\wr.ownsRow w.heap.size 3 1 (.slice (some ⟨w.heap.size,0,none⟩) O.length O.length) O.length ((bV ((O.take k).map rk)++List.replicate (O.length-k) 0).map (Value.int .i64))/\Ext w wr) (λ_ _ ii _=>O.length-(intOf ii).toNat)
 case atStart=>exact⟨0,az _,rfl,by simpa [bV]using hown0,hx0⟩
 case round=>
  clear hown0 hx0;obtain⟨k,hk,rfl,hown,hx⟩:=hrel;by_cases hlt:k<O.length
  .have h1:((k:Nat):Int)<((O.length:Nat):Int):=by omega
   obtain⟨b,off,rfl,hcell⟩:=hc (by omega);have hck:=hcell k hlt;rw[fD hlt]at hck;have lK:=dP hx hck;obtain⟨hxl,hgd⟩:=hOl _ (aj hlt);obtain⟨bn,alS,rfl,SF⟩:=hnc (by omega);have hcn:=SF _ hxl;rw[fD hxl]at hcn;have ac4:=dP hx hcn;have HS:=aI (DL (rk:=rk) hlt);rw[hgd]at ac4;obtain⟨x,hxe⟩:=eu (O[k]);rw[<-hxe]at hck lK hxl HS ac4;have hcz:=hown.cellAt k (by omega);obtain⟨u,hu⟩:∃u,wr.cell? ⟨w.heap.size,k,none⟩=some u:=by
    have:=hown.1;rw[hcz];exact⟨_,ae (by rw[this];omega)⟩
   have hfr:wr.frozen? ⟨w.heap.size,k,none⟩=false:=hown.frozenAt k;clear hcell hxe hcz hgd SF hcn hck;go_wp2
   go_roundw
   case rel=>exact⟨k+1,by omega,by go_num,by rw[<-HS.out];exact xO hown hlt _,hx.setCell (p:=⟨w.heap.size,k,none⟩) (ax _) _⟩
   case measure=>simp[intOf];omega
  .have h1:¬(((k:Nat):Int)<((O.length:Nat):Int)):=by omega
   have hke:k=O.length:=(by omega);subst hke;rw[cO,Nat.sub_self,List.replicate_zero,gK]at hown;go_wp2
   go_ret
   exact⟨_,rfl,by simpa using hown,hx⟩
end
