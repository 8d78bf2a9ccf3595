/-
  Contract of the program's births: the birthdays of a form's nodes. (4 texts.)
-/
import Derived.Test.YteknjeohbcgpdaaGreatDoorK31
import Derived.Test.YteknjeohbcgpdaaGreatDoorK34
set_option maxRecDepth 100000
namespace Go.Proofs.YteknjeohbcgpdaaGreatDoor
open Tryz
section
open Go.RowKit
variable {k:Nat}
theorem yz{w:World}{B e g n cap:Nat}{l:List Int}(h:w.ownsRow B e 1 (.slice (some ⟨g,0,none⟩) n cap) n (l.map (Value.int .i64)))(hk:k<n)(x:Int):
 (w.setCell ⟨g,k,none⟩ (.int .i64 x)).ownsRow B e 1 (.slice (some ⟨g,0,none⟩) n cap) n ((l.set k x).map (Value.int .i64)):=by
 obtain⟨hl,h2⟩:=h;refine⟨by simpa using hl,?_⟩;rcases h2 with⟨e1,_⟩|⟨g',cap',cur,e1,hb,hg,hnc,hcm,hcs,ht⟩
 .simp at e1
 .simp only[Value.slice.injEq,bJ,Addr.mk.injEq,and_true,true_and]at e1
  obtain⟨rfl,rfl⟩:=e1;refine .inr ⟨g,cap,cur.setIfInBounds k (.int .i64 x),rfl,hb,heap_setCell_same _ _ _ _ _ _ hg,hnc,hcm,by simp[hcs],?_⟩;rw[Array.toList_setIfInBounds,List.map_set,<-ht,List.take_set]
theorem yl(l:List Nat)(h:l.Nodup):((dx l).mergeSort λx y=>decide (x<=y))=dx (bE l):=by
 generalize hms:((dx l).mergeSort λx y=>decide (x<=y))=ms;have hs:ms.Pairwise (·<=·):=by
  rw[<-hms];have:=List.pairwise_mergeSort (le:=λx y:Int=>decide (x<=y)) (λa b c h1 h2=>by simp at *;omega) (λa b=>by simp;omega) (dx l);exact this.imp (λh=>by simpa using h)
 have hp:ms.Perm (dx l):=by rw[<-hms];exact List.mergeSort_perm _ _
 have hnd:ms.Nodup:=hp.symm.nodup (by rw[dx,List.Nodup,jl];exact h.imp (λh e=>h (by omega)));have ha:ms.Pairwise (· < ·):=(hs.and hnd).imp (λh=>by omega);have hnn:∀x,x∈ms->∃n:Nat,x=(n:Int):=λx hx=>by obtain⟨n,_,e⟩:=ni (hp.mem_iff.1 hx);exact⟨n,e⟩
 have e1:ms=dx (ms.map Int.toNat):=by
  unfold dx;rw[jC]
  conv=>lhs;rw[<-List.map_id ms]
  refine dP λx hx=>?_
  obtain⟨n,rfl⟩:=hnn x hx;rfl
 rw[e1];congr 1;refine bz.tQ ?_ (jw l) (λx=>?_)
 .unfold bz.Asc
  rw[jl];refine ig (λ{a b} ha hb h=>?_) ha;obtain⟨n,rfl⟩:=hnn a ha;obtain⟨m,rfl⟩:=hnn b hb;simp;omega
 .rw[bZ]
  have hm:(x:Int)∈ms↔x∈l:=by
   rw[hp.mem_iff];exact⟨λh=>by obtain⟨n,hn,e⟩:=ni h;rw[show x=n by omega];exact hn,λh=>aI.2 ⟨x,h,rfl⟩⟩
  rw[<-hm];constructor
  .intro h
   obtain⟨y,hy,rfl⟩:=aI.1 h;obtain⟨n,rfl⟩:=hnn y hy;exact hy
  .intro h
   exact aI.2 ⟨(x:Int),h,rfl⟩
theorem zy(w:World)(n:Nat)(hn:n<=1000000):(w.alloc (.cells (madeCells #[Value.int .i64 0] n) 3)).ownsRow w.heap.size 3 1 (.slice (some ⟨w.heap.size,0,none⟩) n n) n ((List.replicate n (0:Int)).map (Value.int .i64)):=by
 have h:=World.ownsRow_lit w (base:=w.heap.size) (madeCells #[Value.int .i64 0] n) n (e:=3) (size:=1) (ai _) (by unfold maxLen;omega) (by rw[size_madeCells];simp);rw[CJ]at h;exact h
def Dv(l:List Nat)(w:World)(e:Ending)(w':World):Prop:=∃v',e=.returned v'/\w'.ownsRow w.heap.size 3 1 v' (bE l).length ((dx (bE l)).map (Value.int .i64))/\Ext w w'
theorem EK{l:List Nat}{rk:Nat->Nat}(hk:k<l.length):(dx ((l.take k).map rk)++List.replicate (l.length-k) 0).set k (rk l[k]:Int)=dx ((l.take (k+1)).map rk)++List.replicate (l.length-(k+1)) 0:=by
 have h1:(dx ((l.take k).map rk)).length=k:=by rw[bu,aJ,ek];omega
 rw[List.set_append_right _ _ (by omega),h1,Nat.sub_self,bg hk,aU,kZ,bY];congr 1;rw[show l.length-k=(l.length-(k+1))+1 by omega,kY];rfl
set_option maxHeartbeats 4000000 in
theorem Cn(v:Value)(O:List Nat)(rb n:Nat)(fm:Value->Option Value)(rk:Nat->Nat)(w:World)(hv:Ints w v (dx O))(hO:O.length<=1000000)(hOl:∀x,x∈O->x<900000000)(hM:gu prog 3 w rb n fm)(hf:∀x,x∈O->fm (.int .i64 (x:Int))=some (.int .i64 (rk x:Int)))(hnd:(O.map rk).Nodup):
 Calls prog 165 #[v,.map (some rb)] w (Dv (O.map rk) w):=by
 obtain⟨i0,hi0,hz0,hz1,hz2⟩:=info_parts iy;obtain⟨a,cap,rfl,hlc,hcap,hc⟩:=hv;rw[bu]at hlc hcap hc ⊢;have hmk:=λw:World=>run_make (P:=prog) w 80 3 i0 (.int .i64 0) underlying80 hi0 hz0 .i64 .i64 (O.length:Int) (O.length:Int) (by omega) (by omega) (by rw[hz2];omega) (by omega)
 simp only[hz1,jM,kV]at hmk;have hown0:=zy w O.length hO;have hx0:Ext w (w.alloc (.cells (madeCells #[Value.int .i64 0] O.length) 3)):=by go_grown
 go_enter Tryz.func165,Tryz.ntmps165
 go_upto_region 2 with fail
 generalize w.alloc (.cells (madeCells #[Value.int .i64 0] O.length) 3)=W0 at *;clear hmk;go_wp2
 go_loopw [6,7,13] (λ_ _ ii wr=>∃k:Nat,k<=O.length/\ii=.int .i64 ((k:Nat):Int)/\wr.ownsRow w.heap.size 3 1 (.slice (some ⟨w.heap.size,0,none⟩) O.length O.length) O.length ((dx ((O.take k).map rk)++List.replicate (O.length-k) 0).map (Value.int .i64))/\Ext w wr) (λ_ _ ii _=>O.length-(intOf ii).toNat)
 case atStart=>exact⟨0,az _,rfl,by simpa [dx]using hown0,hx0⟩
 case round=>
  clear hown0 hx0;obtain⟨k,hk,rfl,hown,hx⟩:=hrel;by_cases hlt:k<O.length
  .have h1:((k:Nat):Int)<((O.length:Nat):Int):=by omega
   obtain⟨b,off,rfl,hcell⟩:=hc (by omega);have hck:=hcell k hlt;rw[fT hlt]at hck;have nz:=(hx.cell (lt_of_cell hck)).trans hck;have hfx:=hf _ (ah hlt);have hxl:=hOl _ (ah hlt);have HS:=aH (EK (rk:=rk) hlt);obtain⟨x,hxe⟩:∃x,x=O[k]:=⟨_,rfl⟩;rw[<-hxe]at hck nz hfx hxl HS;obtain⟨kl,hkl⟩:=qj x (by omega);have hlk:=(hM.keep (hx.block rb hM.lt)).look oD underlying135 (El wr) hkl false;rw[hfx]at hlk;simp only[gz,Bool.false_eq_true,if_false]at hlk;have hcz:=hown.cellAt k (by omega);obtain⟨u,hu⟩:∃u,wr.cell? ⟨w.heap.size,k,none⟩=some u:=by
    have:=hown.1;rw[hcz];exact⟨_,aa (by rw[this];omega)⟩
   have hfr:wr.frozen? ⟨w.heap.size,k,none⟩=false:=hown.frozenAt k;clear hcell hxe hcz;go_wp2
   go_roundw
   case rel=>exact⟨k+1,by omega,by go_num,by rw[<-HS.out];exact yz hown hlt _,hx.setCell (p:=⟨w.heap.size,k,none⟩) (ai _) _⟩
   case measure=>simp[intOf];omega
  .have h1:¬(((k:Nat):Int)<((O.length:Nat):Int)):=by omega
   have hke:k=O.length:=(by omega);subst hke;rw[dz,Nat.sub_self,List.replicate_zero,bq]at hown;have hsl:(bE (O.map rk)).length=O.length:=by
    have:=congrArg List.length (yl (O.map rk) hnd);rw[List.length_mergeSort,bu,bu,aJ]at this;exact this.symm
   rcases kg O.length with hz|hz
   .have hOn:O=[]:=fE hz
    subst hOn;go_wp2_with (go_at_call 201;refine(Tryz.slices_Sort_int_none _ _ _).mono ?_;rintro e w2 ⟨rfl,hw2⟩;subst hw2)
    go_ret
    exact⟨_,rfl,by simpa [bE,jD,dx]using hown,hx⟩
   .have hll:(dx (O.map rk)).length=O.length:=by rw[bu,aJ]
    have Tw:=Tryz.slices_Sort_int w.heap.size 0 O.length (dx (O.map rk)) wr (zK hown) (hown.lt _ rfl).2 (by omega);rw[hll]at Tw;have HS:=aH Tw;have hms:((dx (O.map rk)).mergeSort λx y=>decide (x<=y)).length=(dx (O.map rk)).length:=List.length_mergeSort _;have HMS:=aH hms;clear Tw hll hms;go_wp2_with (go_at_call 201;refine HS.out.mono ?_;rintro e w2 ⟨rfl,m2,os2,hw2⟩)
    go_ret
    obtain⟨ho2,hk2⟩:=FV hown HMS.out m2 os2;rw[<-hw2]at ho2 hk2 ⊢;rw[yl _ hnd]at ho2;refine⟨_,rfl,by rw[hsl];exact ho2,⟨hk2.os.trans hx.os,hk2.tape.trans hx.tape,hk2.output.trans hx.output,bU hx.size hk2.size,λk hk=>?_⟩⟩;rw[hk2.block k (by have:=hx.size;omega) (by omega)];exact hx.block k hk
end
section
open Go.RowKit
def Xf(l:List Nat)(w:World)(e:Ending)(w':World):Prop:=∃v',e=.returned v'/\w'.ownsRow w.heap.size 3 1 v' l.length ((dx l).map (Value.int .i64))/\Ext w w'
set_option maxHeartbeats 4000000 in
theorem AB(v vn:Value)(O N:List Nat)(rk:Nat->Nat)(w:World)(hv:Ints w v (dx O))(hn:Ints w vn (dx N))(hO:O.length<=1000000)(hOl:∀x,x∈O->∃h:x<N.length,N[x]=rk x):
 Calls prog 170 #[v,vn] w (Xf (O.map rk) w):=by
 obtain⟨i0,hi0,hz0,hz1,hz2⟩:=info_parts iy;obtain⟨a,cap,rfl,hlc,hcap,hc⟩:=hv;obtain⟨an,Uq,rfl,afv,abS,hnc⟩:=hn;simp only[bu]at hlc hcap hc afv abS hnc ⊢;have hmk:=λw:World=>run_make (P:=prog) w 80 3 i0 (.int .i64 0) underlying80 hi0 hz0 .i64 .i64 (O.length:Int) (O.length:Int) (by omega) (by omega) (by rw[hz2];omega) (by omega)
 simp only[hz1,jM,kV]at hmk;have hown0:=zy w O.length hO;have hx0:Ext w (w.alloc (.cells (madeCells #[Value.int .i64 0] O.length) 3)):=by go_grown
 go_enter Tryz.func170,Tryz.ntmps170
 go_upto_region 2 with fail
 generalize w.alloc (.cells (madeCells #[Value.int .i64 0] O.length) 3)=W0 at *;clear hmk;go_wp2
 go_loopw [6,7,13] (λ_ _ ii wr=>∃k:Nat,k<=O.length/\ii=.int .i64 ((k:Nat):Int)/\wr.ownsRow w.heap.size 3 1 (.slice (some ⟨w.heap.size,0,none⟩) O.length O.length) O.length ((dx ((O.take k).map rk)++List.replicate (O.length-k) 0).map (Value.int .i64))/\Ext w wr) (λ_ _ ii _=>O.length-(intOf ii).toNat)
 case atStart=>exact⟨0,az _,rfl,by simpa [dx]using hown0,hx0⟩
 case round=>
  clear hown0 hx0;obtain⟨k,hk,rfl,hown,hx⟩:=hrel;by_cases hlt:k<O.length
  .have h1:((k:Nat):Int)<((O.length:Nat):Int):=by omega
   obtain⟨b,off,rfl,hcell⟩:=hc (by omega);have hck:=hcell k hlt;rw[fT hlt]at hck;have nz:=(hx.cell (lt_of_cell hck)).trans hck;obtain⟨hxl,hgd⟩:=hOl _ (ah hlt);obtain⟨bn,akV,rfl,SI⟩:=hnc (by omega);have hcn:=SI _ hxl;rw[fT hxl]at hcn;have acg:=(hx.cell (lt_of_cell hcn)).trans hcn;have HS:=aH (EK (rk:=rk) hlt);rw[hgd]at acg;obtain⟨x,hxe⟩:∃x,x=O[k]:=⟨_,rfl⟩;rw[<-hxe]at hck nz hxl HS acg;have hcz:=hown.cellAt k (by omega);obtain⟨u,hu⟩:∃u,wr.cell? ⟨w.heap.size,k,none⟩=some u:=by
    have:=hown.1;rw[hcz];exact⟨_,aa (by rw[this];omega)⟩
   have hfr:wr.frozen? ⟨w.heap.size,k,none⟩=false:=hown.frozenAt k;clear hcell hxe hcz hgd SI hcn hck;go_wp2
   go_roundw
   case rel=>exact⟨k+1,by omega,by go_num,by rw[<-HS.out];exact yz hown hlt _,hx.setCell (p:=⟨w.heap.size,k,none⟩) (ai _) _⟩
   case measure=>simp[intOf];omega
  .have h1:¬(((k:Nat):Int)<((O.length:Nat):Int)):=by omega
   have hke:k=O.length:=(by omega);subst hke;rw[dz,Nat.sub_self,List.replicate_zero,bq]at hown;go_wp2
   go_ret
   exact⟨_,rfl,by simpa using hown,hx⟩
end
section
open Go.RowKit
set_option maxHeartbeats 2000000 in
theorem ug(v:Value)(O:List Nat)(n:Nat)(w:World)(hv:Ints w v (dx O))(h24:O.length<=24)(ha:bz.Asc O)(hl:∀x,x∈O->x<n):
 Calls prog 110 #[v,.int .i64 (n:Int)] w λe w'=>e=.returned (.bool true)/\Ext w w':=by
 obtain⟨a,cap,rfl,hlc,hcap,hc⟩:=hv;simp only[bu]at hlc hcap hc ⊢;have amW:¬((24:Int)<(O.length:Int)):=by omega
 have HS:=aH (And.intro ha hl);clear ha hl;go_enter Tryz.func110,Tryz.ntmps110
 go_wp2
 go_loopw [5,7,13] (λlv _ ii wr=>∃(k:Nat) (z:Int),k<=O.length/\ii=.int .i64 ((k:Nat):Int)/\lv=.int .i64 z/\Ext w wr/\Hid (∀j (h:j<O.length),k<=j->z<(O[j]:Int))) (λ_ _ ii _=>O.length-(intOf ii).toNat)
 case atStart=>exact⟨0,-1,az _,rfl,rfl,Below.refl _ _,λj h _=>by omega⟩
 case round=>
  obtain⟨k,z,hk,rfl,rfl,hx,HZ⟩:=hrel;by_cases hlt:k<O.length
  .have h1:((k:Nat):Int)<((O.length:Nat):Int):=by omega
   obtain⟨b,off,rfl,hcell⟩:=hc (by omega);have hck:=hcell k hlt;rw[fT hlt]at hck;have nz:=(hx.cell (lt_of_cell hck)).trans hck;have hz:=HZ.out k hlt (ai _);have hxl:=HS.out.2 _ (ah hlt);have HN:Hid (∀j (h:j<O.length),k+1<=j->((O[k]:Nat):Int)<(O[j]:Int)):=λj h h'=>by
    have:=dh.1 HS.out.1 k j hlt h (by omega);omega
   obtain⟨x,hxe⟩:∃x,x=O[k]:=⟨_,rfl⟩;rw[<-hxe]at nz hz hxl HN;have h2:¬(((x:Nat):Int)<=z):=(by omega);have h3:¬(((n:Nat):Int)<=((x:Nat):Int)):=(by omega);clear hcell hxe hck hz hxl;go_wp2
   go_roundw
   case rel=>exact⟨k+1,_,by omega,by go_num,rfl,hx,HN⟩
   case measure=>simp[intOf];omega
  .have h1:¬(((k:Nat):Int)<((O.length:Nat):Int)):=by omega
   go_wp2
   go_ret
   exact⟨rfl,hx⟩
end
section
open Go.RowKit
open bz (dC Nd Gm vl)
variable {F:dC} {i:Nat} {m:Int}
def Vi(F:dC)(i:Nat):List Int:=((List.range i).map λj=>(bz.born (vl F j):Int))++List.replicate (F.length-i) 0
def zk(F:dC)(i:Nat)(m:Int):List Int:=((List.range i).map λj=>(bz.born (vl F j):Int))++m :: List.replicate (F.length-(i+1)) 0
theorem N7:((zk F i m).map (Value.int .i64))[i]?=some (.int .i64 m):=by
 rw[dB,zk,dV (by simp)];simp
theorem NZ{x:Nat}(h:x<i):((zk F i m).map (Value.int .i64))[x]?=some (.int .i64 (bz.born (vl F x):Int)):=by
 rw[dB,zk,dN (by simpa using h)];simp[h]
theorem JY{m':Int}:(zk F i m).set i m'=zk F i m':=by
 unfold zk;rw[List.set_append_right _ _ (by simp)];simp
theorem Uu(h:i<F.length):Vi F i=zk F i 0:=by
 unfold Vi zk;rw[show F.length-i=(F.length-(i+1))+1 by omega,kY]
theorem PX:zk F i (bz.born (vl F i):Int)=Vi F (i+1):=by
 unfold Vi zk;rw[wV,aU];simp
theorem Ut(F:dC):Vi F 0=List.replicate F.length 0:=by simp[Vi]
def Qf(F:dC)(w:World)(e:Ending)(w':World):Prop:=∃v',e=.returned v'/\w'.ownsRow w.heap.size 3 1 v' F.length ((Vi F F.length).map (Value.int .i64))/\Ext w w'
def KN:List Row:=[⟨0,[],28,[3]⟩,⟨1,[],29,[4]⟩,⟨2,[],30,[3]⟩,⟨3,[],31,[4]⟩,⟨4,[2,3],32,[29,30]⟩,⟨5,[4],33,[31]⟩,⟨6,[],34,[3]⟩,⟨7,[],35,[7]⟩,⟨8,[6,7],36,[33,34]⟩,⟨9,[8],37,[35]⟩,⟨10,[9],38,[36]⟩,⟨11,[5,10],39,[32,37]⟩,⟨12,[0,1,0,1,2,3,4,5,6,7,8,9,10,11],40,[27,28]⟩,⟨13,[12,11,0,1,2,3,4,5,6,7,8,9,10,11],0,[39,38]⟩]
def IG:List Row:=[⟨0,[],49,[3]⟩,⟨1,[],50,[4]⟩,⟨2,[],51,[3]⟩,⟨3,[],52,[4]⟩,⟨4,[2,3],53,[50,51]⟩,⟨5,[4],54,[52]⟩,⟨6,[],55,[3]⟩,⟨7,[],56,[9]⟩,⟨8,[6,7],57,[54,55]⟩,⟨9,[8],58,[56]⟩,⟨10,[9],59,[57]⟩,⟨11,[5,10],60,[53,58]⟩,⟨12,[0,1,0,1,2,3,4,5,6,7,8,9,10,11],61,[48,49]⟩,⟨13,[12,11,0,1,2,3,4,5,6,7,8,9,10,11],0,[60,59]⟩]
set_option maxHeartbeats 4000000 in
theorem Mx(v:Value)(F:dC)(w:World)(hf:eX w 0 v F)(hF:bz.WF F)(hl:F.length<=1000000):Calls prog 111 #[v] w (Qf F w):=by
 obtain⟨i0,hi0,hz0,hz1,hz2⟩:=info_parts iy;obtain⟨aF,iJ,rfl,hcap,xP,-⟩:=id hf;have hmk:=λw:World=>run_make (P:=prog) w 80 3 i0 (.int .i64 0) underlying80 hi0 hz0 .i64 .i64 (F.length:Int) (F.length:Int) (by omega) (by omega) (by rw[hz2];omega) (by omega)
 simp only[hz1,jM,kV]at hmk;have hown0:=zy w F.length hl;have hx0:Ext w (w.alloc (.cells (madeCells #[Value.int .i64 0] F.length) 3)):=by go_grown
 go_enter Tryz.func111,Tryz.ntmps111
 go_upto_region 2 with fail
 generalize w.alloc (.cells (madeCells #[Value.int .i64 0] F.length) 3)=W0 at *;clear hmk;rw[<-Ut]at hown0;go_wp2
 go_loopw [4,5,15] (λ_ _ ii wr=>∃i:Nat,i<=F.length/\ii=.int .i64 ((i:Nat):Int)/\wr.ownsRow w.heap.size 3 1 (.slice (some ⟨w.heap.size,0,none⟩) F.length F.length) F.length ((Vi F i).map (Value.int .i64))/\Ext w wr) (λ_ _ ii _=>F.length-(intOf ii).toNat)
 case atStart=>exact⟨0,az _,rfl,hown0,hx0⟩
 case round=>
  clear hown0 hx0;obtain⟨i,hi,rfl,hown,hx⟩:=hrel;by_cases hlt:i<F.length
  .have h1:((i:Nat):Int)<((F.length:Nat):Int):=by omega
   obtain⟨bF,cF,aL,cL,aR,cR,he,NI,cl,cr,E9,E8⟩:=hf.at hlt;simp only[Value.slice.injEq]at he;obtain⟨rfl,-,rfl⟩:=he;have cl':=(hx.cell (lt_of_cell cl)).trans cl;have NV:=(hx.cell (lt_of_cell cr)).trans cr;have dk:F[i]?=some F[i]:=aa hlt;obtain⟨QF,QD⟩:=hF i _ dk;obtain⟨FL,NN⟩:∃l,l=(F[i]).1:=⟨_,rfl⟩;obtain⟨FR,Kh⟩:∃l,l=(F[i]).2:=⟨_,rfl⟩;rw[<-NN]at cl' E9 QF;rw[<-Kh]at NV E8 QD;have HF:=aH hf;have HK:=aH (And.intro NN Kh);have Sc:Ext wr (wr.alloc (.cells #[.slice aL FL.length cL,.slice aR FR.length cR] 89)):=(by go_grown);have hbW:=heap_alloc_new wr (.cells #[.slice aL FL.length cL,.slice aR FR.length cR] 89);have hwz:=(hown.lt _ rfl).2;have SA:=dn hown Sc;rw[Uu hlt]at SA;have hE:=ay hx Sc;have ami:fJ F (FL.take 0)=0:=rfl;clear cl cr hf NN Kh dk hown;go_upto_region 5 with fail
   generalize wr.alloc (.cells #[.slice aL FL.length cL,.slice aR FR.length cR] 89)=W at *;have c0:=cell_of_row W wr.heap.size 0 _ _ _ hbW;have c1:=cell_of_row W wr.heap.size 1 _ _ _ hbW;simp only[gE]at c0 c1;generalize hnb:wr.heap.size=nb at *;clear cl' NV hx Sc hbW hnb wr hi;obtain⟨a',c',e,-,Y3,L9⟩:=E9;simp only[Value.slice.injEq,bu,true_and]at e Y3 L9;obtain⟨rfl,rfl⟩:=e;obtain⟨a',c',e,-,Y2,L8⟩:=E8;simp only[Value.slice.injEq,bu,true_and]at e Y2 L8;obtain⟨rfl,rfl⟩:=e;have hbd:∀x,x<i->bz.born (vl F x)<=1000000:=λx hx=>by have:=bz.nH hF x;omega
   have WK1:=aH QF;have WK2:=aH QD;have HBD:=aH hbd;have Xt:=aH L9;have Qv:=aH L8;clear QF QD hbd L9 L8;go_wp2
   go_loopw [7,23] (λ_ ii wr=>∃k:Nat,k<=FL.length/\ii=.int .i64 ((k:Nat):Int)/\wr.ownsRow w.heap.size 3 1 (.slice (some ⟨w.heap.size,0,none⟩) F.length F.length) F.length ((zk F i (fJ F (FL.take k))).map (Value.int .i64))/\Ext w wr/\wr.cell? ⟨nb,1,none⟩=some (.slice aR FR.length cR)) (λ_ ii _=>FL.length-(intOf ii).toNat)
   case atStart=>exact⟨0,az _,rfl,SA,hE,c1⟩
   case round=>
    clear SA hE c0 c1;obtain⟨k,hk,rfl,hown,hx,c1⟩:=hrel;by_cases hk1:k<FL.length
    .have h2:((k:Nat):Int)<((FL.length:Nat):Int):=by omega
     obtain⟨b,off,rfl,hcell⟩:=Xt.out (by omega);have hck:=hcell k hk1;rw[fT hk1]at hck;have nz:=(hx.cell (lt_of_cell hck)).trans hck;have hxi:=WK1.out _ (ah hk1);have hbx:=HBD.out _ hxi;have hbt:=l5 hF (FL.take k) (λx hx=>by have:=WK1.out x (gU hx);omega);have HS:=aH (uZ F hk1);have q1:=(hown.cellAt i (by omega)).trans N7;have q2:=(hown.cellAt FL[k] (by omega)).trans (NZ hxi);obtain⟨x,hxe⟩:∃x,x=FL[k]:=⟨_,rfl⟩;obtain⟨m,hm⟩:∃m,m=fJ F (FL.take k):=⟨_,rfl⟩;rw[<-hxe]at nz hxi hbx HS q2;rw[<-hm]at hbt HS q1 hown;obtain⟨bx,hbe⟩:∃bx,bx=bz.born (vl F x):=⟨_,rfl⟩;rw[<-hbe]at hbx HS q2;have hfr:wr.frozen? ⟨w.heap.size,i,none⟩=false:=hown.frozenAt i;have hwk:wrap64 ((bx:Int)+1)=(bx:Int)+1:=(by unfold wrap64;omega);have hxF:((x:Nat):Int)<(F.length:Int):=(by omega);have HO:=aH hown;clear hcell hck hxe hm hbe hbt hbx hxi hown;go_upto_region 8 with fail
     refine bW (λV=>V.cell? ⟨w.heap.size,i,none⟩=some (.int .i64 m)/\V.cell? ⟨w.heap.size,x,none⟩=some (.int .i64 (bx:Int))) [12,13] KN (by kernel_rfl) ⟨by kernel_rfl,by kernel_rfl,by kernel_rfl⟩ ⟨q1,q2⟩ (λax ae=>?_);(refine bT 0 ax ae ?_;refine bT 1 ax ae ?_;refine bT 2 ax ae ?_;refine bT 3 ax ae ?_;refine bT 4 ax ae ?_;refine bT 5 ax ae ?_;refine bT 6 ax ae ?_;refine bT 7 ax ae ?_;refine bT 8 ax ae ?_;refine bT 9 ax ae ?_;refine bT 10 ax ae ?_;refine bT 11 ax ae ?_);refine ow ax [12,13] [_,_] ?_;clear ax ae;go_wp2
     go_roundw
     case rel=>
      have hk':=yz HO.out hlt (max m ((bx:Int)+1));rw[JY]at hk';exact⟨k+1,by omega,by go_num,by rw[HS.out];exact dn hk' (bS ⟨1,rfl⟩),ay (hx.setCell (p:=⟨w.heap.size,i,none⟩) (ai _) _) (bS ⟨1,rfl⟩),(World.cell?_of_block (gI.block nb (lt_of_cell c1) (λe=>by simp only at e;omega))).trans c1⟩
     case measure=>simp[intOf];omega
    .have h2:¬(((k:Nat):Int)<((FL.length:Nat):Int)):=by omega
     have hke:k=FL.length:=(by omega);subst hke;have hown0:wr.ownsRow w.heap.size 3 1 (.slice (some ⟨w.heap.size,0,none⟩) F.length F.length) F.length ((zk F i (fJ F (FL++FR.take 0))).map (Value.int .i64)):=by
      rw[dz]at hown;rw[sD,bq];exact hown
     clear hown;go_wp2
     go_loopw [9,44] (λ_ ii wr=>∃k:Nat,k<=FR.length/\ii=.int .i64 ((k:Nat):Int)/\wr.ownsRow w.heap.size 3 1 (.slice (some ⟨w.heap.size,0,none⟩) F.length F.length) F.length ((zk F i (fJ F (FL++FR.take k))).map (Value.int .i64))/\Ext w wr) (λ_ ii _=>FR.length-(intOf ii).toNat)
     case atStart=>exact⟨0,az _,rfl,hown0,hx⟩
     case round=>
      clear hown0 hx;obtain⟨k,hk,rfl,hown,hx⟩:=hrel;by_cases hk1:k<FR.length
      .have h2:((k:Nat):Int)<((FR.length:Nat):Int):=by omega
       obtain⟨b,off,rfl,hcell⟩:=Qv.out (by omega);have hck:=hcell k hk1;rw[fT hk1]at hck;have nz:=(hx.cell (lt_of_cell hck)).trans hck;have hxi:=WK2.out _ (ah hk1);have hbx:=HBD.out _ hxi;have hbt:=l5 hF (FL++FR.take k) (λx hx=>by rcases aK.1 hx with hx|hx;(have:=WK1.out x hx;omega);(have:=WK2.out x (gU hx);omega));have HS:=aH (tK F FL hk1);have q1:=(hown.cellAt i (by omega)).trans N7;have q2:=(hown.cellAt FR[k] (by omega)).trans (NZ hxi);obtain⟨x,hxe⟩:∃x,x=FR[k]:=⟨_,rfl⟩;obtain⟨m,hm⟩:∃m,m=fJ F (FL++FR.take k):=⟨_,rfl⟩;rw[<-hxe]at nz hxi hbx HS q2;rw[<-hm]at hbt HS q1 hown;obtain⟨bx,hbe⟩:∃bx,bx=bz.born (vl F x):=⟨_,rfl⟩;rw[<-hbe]at hbx HS q2;have hfr:wr.frozen? ⟨w.heap.size,i,none⟩=false:=hown.frozenAt i;have hwk:wrap64 ((bx:Int)+1)=(bx:Int)+1:=(by unfold wrap64;omega);have hxF:((x:Nat):Int)<(F.length:Int):=(by omega);have HO:=aH hown;clear hcell hck hxe hm hbe hbt hbx hxi hown;go_upto_region 13 with fail
       refine bW (λV=>V.cell? ⟨w.heap.size,i,none⟩=some (.int .i64 m)/\V.cell? ⟨w.heap.size,x,none⟩=some (.int .i64 (bx:Int))) [12,13] IG (by kernel_rfl) ⟨by kernel_rfl,by kernel_rfl,by kernel_rfl⟩ ⟨q1,q2⟩ (λax ae=>?_);(refine bT 0 ax ae ?_;refine bT 1 ax ae ?_;refine bT 2 ax ae ?_;refine bT 3 ax ae ?_;refine bT 4 ax ae ?_;refine bT 5 ax ae ?_;refine bT 6 ax ae ?_;refine bT 7 ax ae ?_;refine bT 8 ax ae ?_;refine bT 9 ax ae ?_;refine bT 10 ax ae ?_;refine bT 11 ax ae ?_);refine ow ax [12,13] [_,_] ?_;clear ax ae;go_wp2
       go_roundw
       case rel=>
        have hk':=yz HO.out hlt (max m ((bx:Int)+1));rw[JY]at hk';exact⟨k+1,by omega,by go_num,by rw[HS.out];exact dn hk' (bS ⟨1,rfl⟩),ay (hx.setCell (p:=⟨w.heap.size,i,none⟩) (ai _) _) (bS ⟨1,rfl⟩)⟩
       case measure=>simp[intOf];omega
      .have h2:¬(((k:Nat):Int)<((FR.length:Nat):Int)):=by omega
       have hke:k=FR.length:=(by omega);subst hke;rw[dz]at hown;have hb:(bz.born (vl F i):Int)=fJ F (FL++FR):=by
        have hb0:=l5 hF (FL++FR) (λx hx=>by rcases aK.1 hx with hx|hx;(have:=WK1.out x hx;omega);(have:=WK2.out x hx;omega));refine qJ hF (l':=FL) (r':=FR) ?_ (λ_=>Iff.rfl) (λ_=>Iff.rfl) hb0.1;rw[HK.out.1,HK.out.2];exact aa hlt
       rw[<-hb,PX]at hown;have HO:=aH hown;clear hown hb;go_wp2
       go_roundw
       case rel=>exact⟨i+1,by omega,by go_num,HO.out,hx⟩
       case measure=>simp[intOf];omega
  .have h1:¬(((i:Nat):Int)<((F.length:Nat):Int)):=by omega
   have hie:i=F.length:=(by omega);subst hie;go_wp2
   go_ret
   exact⟨_,rfl,hown,hx⟩
end
end Go.Proofs.YteknjeohbcgpdaaGreatDoor