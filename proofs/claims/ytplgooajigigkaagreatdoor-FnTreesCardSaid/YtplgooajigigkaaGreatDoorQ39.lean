/- 39 -/
import Derived.Test.YtplgooajigigkaaGreatDoorQ34
set_option maxRecDepth 100000
set_option maxHeartbeats 4000000
namespace Go.Proofs.YtplgooajigigkaaGreatDoor
open Tryz
section
open Go.RowKit
open aZ (cZ Nd Gm vl)
variable {i at_:Nat} {B B':List Bool} {F:cZ}
structure Ao(F:cZ)(at_ c:Nat)(B:List Bool):Prop where
 len:B.length=F.length
 root:B[at_]?=some true
 shut:∀p (hp:p<F.length),c<=p->B[p]?=some true->∀x,x∈(F[p]).1++(F[p]).2->B[x]?=some true
 sound:∀p:Nat,B[p]?=some true->aZ.Reach F at_ p
structure uW(i:Nat)(B B':List Bool)(O:List Nat):Prop where
 len:B'.length=B.length
 up:∀p:Nat,i<=p->B'[p]?=B[p]?
 mono:∀p:Nat,B[p]?=some true->B'[p]?=some true
 set:∀x:Nat,x∈O->B'[x]?=some true
 only:∀p:Nat,B'[p]?=some true->B[p]?=some true\/p∈O
theorem uW.refl(i:Nat)(B:List Bool):uW i B B []:=⟨rfl,λ_ _=>rfl,λ_ h=>h,λ_ h=>absurd h (by simp),λ_ h=>.inl h⟩
theorem uW.put{O:List Nat}{x:Nat}(h:uW i B B' O)(hx:x<i)(hl:x<B.length):uW i B (B'.set x true) (O++[x]):=by
 have hlen:=h.len;refine⟨by rw[ql];exact hlen,λp hp=>?_,λp hp=>?_,λy hy=>?_,λp hp=>?_⟩
 .rw[nG (by omega)];exact h.up p hp
 .by_cases e:x=p
  .subst e;rw[List.getElem?_set_self (by omega)]
  .rw[nG e];exact h.mono p hp
 .by_cases e:x=y
  .subst e;rw[List.getElem?_set_self (by omega)]
  .rw[nG e]
   rcases aM.1 hy with hy|hy
   .exact h.set y hy
   .simp at hy;exact absurd hy.symm e
 .by_cases e:x=p
  .exact .inr (by simp[e])
  .rw[nG e]at hp
   exact(h.only p hp).imp id λh=>List.mem_append_left _ h
theorem Ao.next(h:Ao F at_ (i+1) B)(hi:i<F.length)(hbi:B[i]?=some true)(k:uW i B B' ((F[i]).1++(F[i]).2)):Ao F at_ i B':=by
 refine⟨by rw[k.len];exact h.len,k.mono _ h.root,λp hp hc hb x hx=>?_,λp hp=>?_⟩
 rotate_left
 .rcases k.only p hp with e|e
  .exact h.sound p e
  .have hr:=h.sound i hbi
   have d:=ae hi;rcases aM.1 e with e|e
   .exact .left hr d e
   .exact .right hr d e
 by_cases e:p=i
 .subst e;exact k.set x hx
 .rw[k.up p hc]at hb
  exact k.mono x (h.shut p hp (by omega) hb x hx)
theorem Ao.skip(h:Ao F at_ (i+1) B)(hn:B[i]?=some false):Ao F at_ i B:=by
 refine⟨h.len,h.root,λp hp hc hb x hx=>?_,h.sound⟩;by_cases e:p=i
 .subst e;rw[hn]at hb;cases hb
 .exact h.shut p hp (by omega) hb x hx
theorem Ao.start(h:at_<F.length):Ao F at_ (at_+1) ((List.replicate F.length false).set at_ true):=by
 have only:∀p:Nat,((List.replicate F.length false).set at_ true)[p]?=some true->p=at_:=λp hp=>by
  by_cases e:at_=p
  .exact e.symm
  .rw[nG e,List.getElem?_replicate]at hp
   split at hp <;> simp at hp
 refine⟨by simp,by rw[List.getElem?_set_self (by simpa using h)],λp hp hcp hb=>?_,λp hp=>?_⟩
 .have:=only p hb;omega
 .rw[only p hp];exact .here
theorem Ao.iff(h:Ao F at_ 0 B)(i:Nat):B[i]?=some true↔aZ.Reach F at_ i:=by
 refine⟨h.sound i,λhi=>?_⟩
 induction hi with
 |here=>exact h.root
 | @left j k nd _ hd hk ih=>
  obtain⟨hj,e⟩:=cK.1 hd;exact h.shut j hj (az _) ih k (by rw[e];exact List.mem_append_left _ hk)
 | @right j k nd _ hd hk ih=>
  obtain⟨hj,e⟩:=cK.1 hd;exact h.shut j hj (az _) ih k (by rw[e];exact List.mem_append_right _ hk)
theorem PQ(w:World)(n:Nat)(hn:n<=1000000):(w.alloc (.cells (madeCells #[Value.bool false] n) 4)).ownsRow w.heap.size 4 1 (.slice (some ⟨w.heap.size,0,none⟩) n n) n ((List.replicate n false).map Value.bool):=by
 have h:=World.ownsRow_lit w (base:=w.heap.size) (madeCells #[Value.bool false] n) n (e:=4) (size:=1) (ax _) (by unfold maxLen;omega) (by rw[size_madeCells];simp);rw[KH]at h;exact h
theorem Bn{w:World}{B e g n cap k:Nat}{l:List Bool}(h:w.ownsRow B e 1 (.slice (some ⟨g,0,none⟩) n cap) n (l.map Value.bool))(hk:k<n)(x:Bool):
 (w.setCell ⟨g,k,none⟩ (.bool x)).ownsRow B e 1 (.slice (some ⟨g,0,none⟩) n cap) n ((l.set k x).map Value.bool):=by
 rw[uf];exact Rm h hk _
def NL(F:cZ)(r:Nat)(w:World)(e:Ending)(w':World):Prop:=∃(v':Value) (B:List Bool),e=.returned v'/\w'.ownsRow w.heap.size 4 1 v' F.length (B.map Value.bool)/\Ext w w'/\B.length=F.length/\∀i:Nat,B[i]?=some true↔aZ.Reach F r i
theorem QH(v:Value)(F:cZ)(r:Nat)(w:World)(hf:eZ w 0 v F)(hF:aZ.WF F)(hl:F.length<=1000000)(hrl:r<F.length):
 Calls prog 105 #[v,.int .i64 (r:Int)] w (NL F r w):=by
 obtain⟨i0,hi0,hz0,hz1,hz2⟩:=info_parts KX;obtain⟨aF,fI,rfl,hcap,yH,-⟩:=id hf;have hmk:=λw:World=>run_make (P:=prog) w 149 4 i0 (.bool false) underlying149 hi0 hz0 .i64 .i64 (F.length:Int) (F.length:Int) (by omega) (by omega) (by rw[hz2];omega) (by omega)
 simp only[hz1,jo,eB]at hmk;have hown0:=PQ w F.length hl;have hx0:Ext w (w.alloc (.cells (madeCells #[Value.bool false] F.length) 4)):=by go_grown
 go_enter Tryz.func105,Tryz.ntmps105
 go_upto_region 2 with fail
 generalize w.alloc (.cells (madeCells #[Value.bool false] F.length) 4)=W0 at *;clear hmk;have hrF:((r:Nat):Int)<(F.length:Int):=by omega
 have hfr:W0.frozen? ⟨w.heap.size,r,none⟩=false:=hown0.frozenAt r;obtain⟨u,hu⟩:∃u,W0.cell? ⟨w.heap.size,r,none⟩=some u:=⟨_,(hown0.cellAt r (by omega)).trans (ae (by simp;omega))⟩;have hownS:=Bn hown0 (k:=r) (by omega) true;have hU0:=aI (Ao.start (F:=F) (at_:=r) hrl);have Si:Ext w (W0.setCell ⟨w.heap.size,r,none⟩ (.bool true)):=hx0.setCell (p:=⟨w.heap.size,r,none⟩) (ax _) _;clear hown0 hx0;go_wp2
 go_loopw [6] (λzi wr=>∃(c:Nat) (B:List Bool),c<=F.length/\zi=.int .i64 ((c:Int)-1)/\wr.ownsRow w.heap.size 4 1 (.slice (some ⟨w.heap.size,0,none⟩) F.length F.length) F.length (B.map Value.bool)/\Ext w wr/\Hid (Ao F r c B)) (λzi _=>(intOf zi+1).toNat)
 case atStart=>exact⟨r+1,_,by omega,by go_num,hownS,Si,hU0⟩
 case round=>
  clear hownS Si hU0 hfr hu;obtain⟨c,B,hc,rfl,hown,hx,HU⟩:=hrel;by_cases hc0:c=0
  .subst hc0
   have h1:¬((0:Int)<=((0:Nat):Int)-1):=(by omega);go_wp2
   go_ret
   exact⟨_,B,rfl,hown,hx,HU.out.len,HU.out.iff⟩
  .obtain⟨i,rfl⟩:∃i,c=i+1:=⟨c-1,by omega⟩
   have hie:(((i+1:Nat):Int)-1)=((i:Nat):Int):=(by omega);rw[hie];have h1:(0:Int)<=((i:Nat):Int):=(by omega);have hlt:i<F.length:=(by omega);have Vu:((i:Nat):Int)<(F.length:Int):=(by omega);have hBl:=HU.out.len;obtain⟨bi,hbi⟩:∃bi,B[i]?=some bi:=⟨_,ae (by omega)⟩;have q0:wr.cell? ⟨w.heap.size,i,none⟩=some (.bool bi):=(hown.cellAt i (by omega)).trans (by rw[bO,hbi];rfl);have hwk:wrap64 (((i:Nat):Int)-1)=((i:Nat):Int)-1:=(by unfold wrap64;omega);cases bi with
   |false=>
    have HN:=aI (HU.out.skip hbi);clear hbi HU hc0 hie;go_wp2
    go_roundw
    case rel=>exact⟨i,B,by omega,rfl,hown,hx,HN⟩
    case measure=>simp[intOf]
   |true=>
    obtain⟨bF,cF,aL,cL,aR,cR,he,Qf,cl,cr,C9,C8⟩:=hf.at hlt;simp only[gz]at he;obtain⟨rfl,-,rfl⟩:=he;have cl':=dP hx cl;have hlr:=lt_of_cell cr;obtain⟨QB,QA⟩:=hF i _ (ae hlt);obtain⟨FL,VC⟩:=eu ((F[i]).1);obtain⟨FR,JJ⟩:=eu ((F[i]).2);rw[<-VC]at cl' C9 QB;rw[<-JJ]at cr C8 QA;have HK:=jW VC JJ;have HF:=aI hf;obtain⟨a',c',e,-,Z4,LA⟩:=C9;simp only[gz,aP,true_and]at e Z4 LA;obtain⟨rfl,rfl⟩:=e;obtain⟨a',c',e,-,Z0,Lx⟩:=C8;simp only[gz,aP,true_and]at e Z0 Lx;obtain⟨rfl,rfl⟩:=e;have HBI:=aI hbi;have WK1:=aI QB;have WK2:=aI QA;have HCL:=aI LA;have HCR:=aI Lx;clear QB QA LA Lx VC JJ cl hf hbi hie hc0;go_wp2
    go_loopw [8,33] (λ_ ii wr=>∃(k:Nat) (B1:List Bool),k<=FL.length/\ii=.int .i64 ((k:Nat):Int)/\wr.ownsRow w.heap.size 4 1 (.slice (some ⟨w.heap.size,0,none⟩) F.length F.length) F.length (B1.map Value.bool)/\Ext w wr/\Hid (uW i B B1 (FL.take k))) (λ_ ii _=>FL.length-(intOf ii).toNat)
    case atStart=>exact⟨0,B,az _,rfl,hown,hx,aI (uW.refl _ _)⟩
    case round=>
     clear hown hx;obtain⟨k,B1,hk,rfl,hown1,hx1,Ap⟩:=hrel;by_cases hk1:k<FL.length
     .have h2:((k:Nat):Int)<((FL.length:Nat):Int):=by omega
      obtain⟨b,off,rfl,hcell⟩:=HCL.out (by omega);have hck:=hcell k hk1;rw[fD hk1]at hck;have lK:=dP hx1 hck;have hxi:=WK1.out _ (aj hk1);have hB1:=Ap.out.len;have hst:=uW.put Ap.out hxi (by omega);rw[<-aW hk1]at hst;have HST:=aI hst;obtain⟨x,hxe⟩:=eu (FL[k]);rw[<-hxe]at lK hxi HST;have hfr:wr.frozen? ⟨w.heap.size,x,none⟩=false:=hown1.frozenAt x;obtain⟨u,hu⟩:∃u,wr.cell? ⟨w.heap.size,x,none⟩=some u:=⟨_,(hown1.cellAt x (by omega)).trans (ae (by simp;omega))⟩;have hxF:((x:Nat):Int)<(F.length:Int):=(by omega);have HO:=aI (Bn hown1 (k:=x) (by omega) true);clear hcell hck hxe hxi hown1 hst;go_wp2
      go_roundw
      case rel=>exact⟨k+1,_,by omega,by go_num,HO.out,hx1.setCell (p:=⟨w.heap.size,x,none⟩) (ax _) _,HST⟩
      case measure=>simp[intOf];omega
     .have h2:¬(((k:Nat):Int)<((FL.length:Nat):Int)):=by omega
      have hke:k=FL.length:=(by omega);subst hke;rw[cO]at Ap;have cr1:=(hx1.cell hlr).trans cr;go_wp2
      go_loopw [10,47] (λ_ ii wr=>∃(k:Nat) (B1:List Bool),k<=FR.length/\ii=.int .i64 ((k:Nat):Int)/\wr.ownsRow w.heap.size 4 1 (.slice (some ⟨w.heap.size,0,none⟩) F.length F.length) F.length (B1.map Value.bool)/\Ext w wr/\Hid (uW i B B1 (FL++FR.take k))) (λ_ ii _=>FR.length-(intOf ii).toNat)
      case atStart=>exact⟨0,B1,az _,rfl,hown1,hx1,by rw[List.take_zero,gK];exact Ap⟩
      case round=>
       clear hown1 hx1;obtain⟨k,B2,hk,rfl,hown2,hx2,HS2⟩:=hrel;by_cases hk1:k<FR.length
       .have h2:((k:Nat):Int)<((FR.length:Nat):Int):=by omega
        obtain⟨b,off,rfl,hcell⟩:=HCR.out (by omega);have hck:=hcell k hk1;rw[fD hk1]at hck;have lK:=dP hx2 hck;have hxi:=WK2.out _ (aj hk1);have hB1:=HS2.out.len;have hst:=uW.put HS2.out hxi (by omega);rw[dh,<-aW hk1]at hst;have HST:=aI hst;obtain⟨x,hxe⟩:=eu (FR[k]);rw[<-hxe]at lK hxi HST;have hfr:wr.frozen? ⟨w.heap.size,x,none⟩=false:=hown2.frozenAt x;obtain⟨u,hu⟩:∃u,wr.cell? ⟨w.heap.size,x,none⟩=some u:=⟨_,(hown2.cellAt x (by omega)).trans (ae (by simp;omega))⟩;have hxF:((x:Nat):Int)<(F.length:Int):=(by omega);have HO:=aI (Bn hown2 (k:=x) (by omega) true);clear hcell hck hxe hxi hown2 hst;go_wp2
        go_roundw
        case rel=>exact⟨k+1,_,by omega,by go_num,HO.out,hx2.setCell (p:=⟨w.heap.size,x,none⟩) (ax _) _,HST⟩
        case measure=>simp[intOf];omega
       .have h2:¬(((k:Nat):Int)<((FR.length:Nat):Int)):=by omega
        have hke:k=FR.length:=(by omega);subst hke;rw[cO]at HS2;have HN:=aI (HU.out.next hlt HBI.out (by rw[<-HK.out.1,<-HK.out.2];exact HS2.out));clear Ap HS2 HU;go_wp2
        go_roundw
        case rel=>exact⟨i,B2,by omega,rfl,hown2,hx2,HN⟩
        case measure=>simp[intOf]
end
section
open Go.RowKit
def Aa(x y z:Int):Int:=if x≠0 then x else YA y z
theorem Gx{k:Nat}(h:k<=3):k=0\/k=1\/k=2\/k=3:=by omega
theorem Cn(b:Nat)(x y z:Int)(w:World)(h0:w.cell? ⟨b,0,none⟩=some (.int .i64 x))(h1:w.cell? ⟨b,1,none⟩=some (.int .i64 y))(h2:w.cell? ⟨b,2,none⟩=some (.int .i64 z)):
 Calls prog 101 #[.slice (some ⟨b,0,none⟩) 3 3] w λe w'=>e=.returned (.int .i64 (Aa x y z))/\RD w w':=by
 go_enter Tryz.func101,Tryz.ntmps101
 go_wp2
 go_loopw [5,8] (λ_ ii wr=>∃k:Nat,k<=3/\ii=.int .i64 ((k:Nat):Int)/\RD w wr/\Hid ((1<=k->x=0)/\(2<=k->y=0)/\(3<=k->z=0))) (λ_ ii _=>3-(intOf ii).toNat)
 case atStart=>exact⟨0,az _,rfl,rU _,by simp[Hid]⟩
 case round=>
  obtain⟨k,hk,rfl,⟨n,rfl⟩,HE⟩:=hrel;rcases Gx hk with rfl|rfl|rfl|rfl
  .by_cases hx:x=0
   .subst hx
    go_wp2
    go_roundw
    case rel=>exact⟨1,by omega,by go_num,⟨_,rfl⟩,aI ⟨by simp,λh=>by omega,λh=>by omega⟩⟩
    case measure=>simp[intOf]
   .have hx0:(x == 0)=false:=by simpa using hx
    have HX:=aI hx;clear hx;go_wp2
    go_ret
    exact⟨jy (by unfold Aa;rw[if_pos HX.out]),⟨_,rfl⟩⟩
  .have HX:=aI (HE.out.1 (by omega))
   by_cases hy:y=0
   .subst hy
    go_wp2
    go_roundw
    case rel=>exact⟨2,by omega,by go_num,⟨_,rfl⟩,aI ⟨λ_=>HX.out,by simp,λh=>by omega⟩⟩
    case measure=>simp[intOf]
   .have hy0:(y == 0)=false:=by simpa using hy
    have HY:=aI hy;clear hy;go_wp2
    go_ret
    exact⟨jy (by unfold Aa YA;rw[if_neg (by simp[HX.out]),if_pos HY.out]),⟨_,rfl⟩⟩
  .have HX:=jW (HE.out.1 (by omega)) (HE.out.2.1 (by omega))
   by_cases hz:z=0
   .subst hz
    go_wp2
    go_roundw
    case rel=>exact⟨3,by omega,by go_num,⟨_,rfl⟩,aI ⟨λ_=>HX.out.1,λ_=>HX.out.2,by simp⟩⟩
    case measure=>simp[intOf]
   .have hz0:(z == 0)=false:=by simpa using hz
    clear hz;go_wp2
    go_ret
    exact⟨jy (by unfold Aa YA;rw[if_neg (by simp[HX.out.1]),if_neg (by simp[HX.out.2])]),⟨_,rfl⟩⟩
  .have HX:=yD (HE.out.1 (by omega)) (HE.out.2.1 (by omega)) (HE.out.2.2 (by omega))
   go_wp2
   go_ret
   exact⟨jy (by unfold Aa YA;rw[if_neg (by simp[HX.out.1]),if_neg (by simp[HX.out.2.1]),HX.out.2.2]),⟨_,rfl⟩⟩
end
section
open Go.RowKit
open aZ (cZ Nd Gm vl eD)
variable {F:cZ}
theorem LV(h:mP F=true):1<=F.length/\F.length<=120/\∀i (h:i<F.length),(F[i]).1.length<=24/\(F[i]).2.length<=24:=by
 unfold mP at h;exact of_decide_eq_true h
theorem Uw{F:cZ}{i j:Nat}(hi:i<F.length)(hj:j<F.length)(h:aZ.Ahead F i j):Aa (Lib.compareInt (aZ.born (vl F i):Int) (aZ.born (vl F j):Int)) (aZ.cl (F[i]).1 (F[j]).1) (aZ.cl (F[i]).2 (F[j]).2)<0:=by
 unfold aZ.Ahead at h;rw[aZ.mD hi,aZ.mD hj]at h;rcases h with h|⟨h1,h2⟩
 .have e:Lib.compareInt (aZ.born (vl F i):Int) (aZ.born (vl F j):Int)=-1:=by unfold Lib.compareInt;rw[if_pos (by omega)]
  rw[e];simp[Aa]
 .have e:Lib.compareInt (aZ.born (vl F i):Int) (aZ.born (vl F j):Int)=0:=by rw[h1];unfold Lib.compareInt;simp
  rw[e];unfold Aa;rw[if_neg (by simp)];exact h2
theorem Ui{x:Nat}(h:x<F.length):((VF F F.length).map (Value.int .i64))[x]?=some (.int .i64 (aZ.born (vl F x):Int)):=by
 rw[bO,VF,bQ (by simpa using h)];simp[h]
theorem new3_0(w:World)(X:Obj)(x y:Value)(e:TypeId):((w.alloc X).alloc (.cells #[x,y] e)).cell? ⟨w.heap.size+1,0,none⟩=some x:=by
 have:=new2_0 (w.alloc X) x y e;rw[eX]at this;exact this
theorem new3_1(w:World)(X:Obj)(x y:Value)(e:TypeId):((w.alloc X).alloc (.cells #[x,y] e)).cell? ⟨w.heap.size+1,1,none⟩=some y:=by
 have:=new2_1 (w.alloc X) x y e;rw[eX]at this;exact this
theorem newc_0(w:World)(x y z:Value)(e:TypeId):(w.alloc (.cells #[x,y,z] e)).cell? ⟨w.heap.size,0,none⟩=some x:=World.cell?_alloc_at (w:=w) #[x,y,z] e _ 0 rfl
theorem newc_1(w:World)(x y z:Value)(e:TypeId):(w.alloc (.cells #[x,y,z] e)).cell? ⟨w.heap.size,1,none⟩=some y:=World.cell?_alloc_at (w:=w) #[x,y,z] e _ 1 rfl
theorem newc_2(w:World)(x y z:Value)(e:TypeId):(w.alloc (.cells #[x,y,z] e)).cell? ⟨w.heap.size,2,none⟩=some z:=World.cell?_alloc_at (w:=w) #[x,y,z] e _ 2 rfl
end
section
open Go.RowKit
theorem Pd(B0:Nat)(B:List Bool)(v:Value)(w:World)(hv:w.ownsRow B0 4 1 v B.length (B.map Value.bool))(hn:B.length<=1000000):
 Calls prog 143 #[v,.bool false] w λe w'=>∃z:Int,e=.returned (.int .i64 z)/\(0<=z↔false∈B)/\RD w w':=by
 obtain⟨a,cap,rfl,hc1,hc2⟩:=bu hv;go_enter Tryz.func143,Tryz.ntmps143
 go_wp2
 go_loopw [5,8] (λ_ ii wr=>∃k:Nat,k<=B.length/\ii=.int .i64 ((k:Nat):Int)/\RD w wr/\Hid (∀j,j<k->B[j]?=some true)) (λ_ ii _=>B.length-(intOf ii).toNat)
 case atStart=>exact⟨0,az _,rfl,rU _,aI (λj h=>by omega)⟩
 case round=>
  obtain⟨k,hk,rfl,⟨q,rfl⟩,HJ⟩:=hrel;by_cases hlt:k<B.length
  .have h1:((k:Nat):Int)<((B.length:Nat):Int):=by omega
   obtain⟨g,cap',e,hg1,hg2,hg3⟩:=gY hv (by omega);simp only[gz,true_and]at e;obtain⟨rfl,rfl⟩:=e;obtain⟨x,hx⟩:=eu (B[k]);have hbk:B[k]?=some x:=(by rw[hx];exact ae hlt);have hck:(w.drewN q).cell? ⟨g,k,none⟩=some (.bool x):=(hg3 k (by omega)).trans (by rw[bO,hbk];rfl);have HB:=aI hbk;clear hg3 hv hx hbk;cases x with
   |true=>
    have HN:Hid (∀j,j<k+1->B[j]?=some true):=aI λj hj=>by
     by_cases e:j=k
     .subst e;exact HB.out
     .exact HJ.out j (by omega)
    go_wp2
    go_roundw
    case rel=>exact⟨k+1,by omega,by go_num,⟨_,rfl⟩,HN⟩
    case measure=>simp[intOf];omega
   |false=>
    go_wp2
    go_ret
    exact⟨_,rfl,⟨λ_=>fq HB.out,λ_=>by omega⟩,⟨_,rfl⟩⟩
  .have h1:¬(((k:Nat):Int)<((B.length:Nat):Int)):=by omega
   have HF:Hid (¬false∈B):=aI λhm=>by
    obtain⟨j,hj,e⟩:=aH.1 hm;have:=HJ.out j (by omega);rw[ae hj,e]at this;cases this
   go_wp2
   go_ret
   exact⟨-1,rfl,⟨λh=>by omega,λh=>absurd h HF.out⟩,⟨_,rfl⟩⟩
theorem FM(B0:Nat)(B:List Bool)(v:Value)(w:World)(hv:w.ownsRow B0 4 1 v B.length (B.map Value.bool))(hn:B.length<=1000000):
 Calls prog 104 #[v,.bool false] w λe w'=>∃c:Bool,e=.returned (.bool c)/\(c=true↔false∈B)/\RD w w':=by
 go_enter Tryz.func104,Tryz.ntmps104
 go_wp2_with (go_at_call 143;refine(Pd B0 B v _ (by first|exact hv|exact bW hv (dz ⟨_,rfl⟩)) hn).mono ?_;rintro e w2 ⟨z,rfl,hz,q,rfl⟩)
 go_ret
 exact⟨_,rfl,by first|exact hz|simp,⟨_,rfl⟩⟩
end
