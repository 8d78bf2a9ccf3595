/- 25 -/
import Derived.Test.YtplgooajigigkaaGreatDoorK24
set_option maxRecDepth 100000
set_option maxHeartbeats 4000000
namespace Go.Proofs.YtplgooajigigkaaGreatDoor
open Tryz
section
open Go.RowKit
theorem Fp:(prog.info? 4).map (λi=>(i.zero,i.size,i.bytes))=some (some (.bool false),1,1):=by kernel_rfl
theorem N9(n:Nat):(madeCells #[Value.bool false] n).toList=(List.replicate n false).map Value.bool:=by
 apply qA;intro i;by_cases h:i<n
 .simp[madeCells,h,Nat.mod_one]
 .simp[madeCells,h]
theorem VM{w:World}{B e g n cap k:Nat}{xs:List Value}(h:w.ownsRow B e 1 (.slice (some ⟨g,0,none⟩) n cap) n xs)(_hk:k<n)(x:Value):
 (w.setCell ⟨g,k,none⟩ x).ownsRow B e 1 (.slice (some ⟨g,0,none⟩) n cap) n (xs.set k x):=by
 obtain⟨hl,h2⟩:=h;refine⟨by simpa using hl,?_⟩;rcases h2 with⟨e1,_⟩|⟨g',cap',cur,e1,hb,hg,hnc,hcm,hcs,ht⟩
 .simp at e1
 .simp only[il,bU,Addr.mk.injEq,and_true,true_and]at e1
  obtain⟨rfl,rfl⟩:=e1;refine .inr ⟨g,cap,cur.setIfInBounds k x,rfl,hb,gK _ _ _ _ _ _ hg,hnc,hcm,by simp[hcs],?_⟩;rw[Array.toList_setIfInBounds,<-ht,List.take_set]
theorem TM{a b c:World}{G:Nat->Prop}(h:Ext a b)(k:fJ G b c)(hG:∀x,G x->a.heap.size<=x):Ext a c:=
 ⟨k.os.trans h.os,k.tape.trans h.tape,k.output.trans h.output,bZ h.size k.size,λx hx=>(k.block x (bg hx h.size) (λg=>Nat.not_le.2 hx (hG x g))).trans (h.block x hx)⟩
end
section
open Go.RowKit
open bE (dh Nd Gm vl)
variable {i at_:Nat} {B B':List Bool} {F:dh}
structure DF(F:dh)(at_ c:Nat)(B:List Bool):Prop where
 len:B.length=F.length
 root:B[at_]?=some true
 shut:∀p (hp:p<F.length),c<=p->B[p]?=some true->∀x,x∈(F[p]).1++(F[p]).2->B[x]?=some true
 sound:∀p:Nat,B[p]?=some true->bE.Reach F at_ p
structure yF(i:Nat)(B B':List Bool)(O:List Nat):Prop where
 len:B'.length=B.length
 up:∀p:Nat,i<=p->B'[p]?=B[p]?
 mono:∀p:Nat,B[p]?=some true->B'[p]?=some true
 set:∀x:Nat,x∈O->B'[x]?=some true
 only:∀p:Nat,B'[p]?=some true->B[p]?=some true\/p∈O
theorem yF.refl(i:Nat)(B:List Bool):yF i B B []:=⟨rfl,λ_ _=>rfl,λ_ h=>h,λ_ h=>absurd h (by simp),λ_ h=>.inl h⟩
theorem yF.put{O:List Nat}{x:Nat}(h:yF i B B' O)(hx:x<i)(hl:x<B.length):yF i B (B'.set x true) (O++[x]):=by
 have hlen:=h.len;refine⟨by rw[List.length_set];exact hlen,λp hp=>?_,λp hp=>?_,λy hy=>?_,λp hp=>?_⟩
 .rw[ic (by omega)];exact h.up p hp
 .by_cases e:x=p
  .subst e;rw[kK (by omega)]
  .rw[ic e];exact h.mono p hp
 .by_cases e:x=y
  .subst e;rw[kK (by omega)]
  .rw[ic e]
   rcases bq.1 hy with hy|hy
   .exact h.set y hy
   .simp at hy;exact absurd hy.symm e
 .by_cases e:x=p
  .exact .inr (by simp[e])
  .rw[ic e]at hp
   exact(h.only p hp).imp id λh=>List.mem_append_left _ h
theorem DF.next(h:DF F at_ (i+1) B)(hi:i<F.length)(hbi:B[i]?=some true)(k:yF i B B' ((F[i]).1++(F[i]).2)):DF F at_ i B':=by
 refine⟨by rw[k.len];exact h.len,k.mono _ h.root,λp hp hc hb x hx=>?_,λp hp=>?_⟩
 rotate_left
 .rcases k.only p hp with e|e
  .exact h.sound p e
  .have hr:=h.sound i hbi
   have d:=af hi;rcases bq.1 e with e|e
   .exact .left hr d e
   .exact .right hr d e
 by_cases e:p=i
 .subst e;exact k.set x hx
 .rw[k.up p hc]at hb
  exact k.mono x (h.shut p hp (by omega) hb x hx)
theorem DF.skip(h:DF F at_ (i+1) B)(hn:B[i]?=some false):DF F at_ i B:=by
 refine⟨h.len,h.root,λp hp hc hb x hx=>?_,h.sound⟩;by_cases e:p=i
 .subst e;rw[hn]at hb;cases hb
 .exact h.shut p hp (by omega) hb x hx
theorem DF.start(h:at_<F.length):DF F at_ (at_+1) ((List.replicate F.length false).set at_ true):=by
 have only:∀p:Nat,((List.replicate F.length false).set at_ true)[p]?=some true->p=at_:=λp hp=>by
  by_cases e:at_=p
  .exact e.symm
  .rw[ic e,List.getElem?_replicate]at hp
   split at hp <;> simp at hp
 refine⟨by simp,by rw[kK (by simpa using h)],λp hp hcp hb=>?_,λp hp=>?_⟩
 .have:=only p hb;omega
 .rw[only p hp];exact .here
theorem DF.iff(h:DF F at_ 0 B)(i:Nat):B[i]?=some true↔bE.Reach F at_ i:=by
 refine⟨h.sound i,λhi=>?_⟩
 induction hi with
 |here=>exact h.root
 | @left j k nd _ hd hk ih=>
  obtain⟨hj,e⟩:=df.1 hd;exact h.shut j hj (aU _) ih k (by rw[e];exact List.mem_append_left _ hk)
 | @right j k nd _ hd hk ih=>
  obtain⟨hj,e⟩:=df.1 hd;exact h.shut j hj (aU _) ih k (by rw[e];exact List.mem_append_right _ hk)
theorem TV(w:World)(n:Nat)(hn:n<=1000000):(w.alloc (.cells (madeCells #[Value.bool false] n) 4)).ownsRow w.heap.size 4 1 (.slice (some ⟨w.heap.size,0,none⟩) n n) n ((List.replicate n false).map Value.bool):=by
 have h:=World.ownsRow_lit w (base:=w.heap.size) (madeCells #[Value.bool false] n) n (e:=4) (size:=1) (aJ _) (by unfold maxLen;omega) (by rw[size_madeCells];simp);rw[N9]at h;exact h
theorem EM{w:World}{B e g n cap k:Nat}{l:List Bool}(h:w.ownsRow B e 1 (.slice (some ⟨g,0,none⟩) n cap) n (l.map Value.bool))(hk:k<n)(x:Bool):
 (w.setCell ⟨g,k,none⟩ (.bool x)).ownsRow B e 1 (.slice (some ⟨g,0,none⟩) n cap) n ((l.set k x).map Value.bool):=by
 rw[tq];exact VM h hk _
def RB(F:dh)(r:Nat)(w:World)(e:Ending)(w':World):Prop:=∃(v':Value) (B:List Bool),e=.returned v'/\w'.ownsRow w.heap.size 4 1 v' F.length (B.map Value.bool)/\Ext w w'/\B.length=F.length/\∀i:Nat,B[i]?=some true↔bE.Reach F r i
theorem KA(v:Value)(F:dh)(r:Nat)(w:World)(hf:dI w 0 v F)(hF:bE.WF F)(hl:F.length<=1000000)(hrl:r<F.length):
 Calls prog 105 #[v,.int .i64 (r:Int)] w (RB F r w):=by
 obtain⟨i0,hi0,hz0,hz1,hz2⟩:=info_parts Fp;obtain⟨aF,gH,rfl,hcap,zz,-⟩:=id hf;have hmk:=λw:World=>run_make (P:=prog) w 149 4 i0 (.bool false) underlying149 hi0 hz0 .i64 .i64 (F.length:Int) (F.length:Int) (by omega) (by omega) (by rw[hz2];omega) (by omega)
 simp only[hz1,kT,jB]at hmk;have hown0:=TV w F.length hl;have hx0:Ext w (w.alloc (.cells (madeCells #[Value.bool false] F.length) 4)):=by go_grown
 go_enter Tryz.func105,Tryz.ntmps105
 go_upto_region 2 with fail
 generalize w.alloc (.cells (madeCells #[Value.bool false] F.length) 4)=W0 at *;clear hmk;have hrF:((r:Nat):Int)<(F.length:Int):=by omega
 have hfr:W0.frozen? ⟨w.heap.size,r,none⟩=false:=hown0.frozenAt r;obtain⟨u,hu⟩:∃u,W0.cell? ⟨w.heap.size,r,none⟩=some u:=⟨_,(hown0.cellAt r (by omega)).trans (af (by simp;omega))⟩;have hownS:=EM hown0 (k:=r) (by omega) true;have hU0:=aW (DF.start (F:=F) (at_:=r) hrl);have hxS:Ext w (W0.setCell ⟨w.heap.size,r,none⟩ (.bool true)):=hx0.setCell (p:=⟨w.heap.size,r,none⟩) (aJ _) _;clear hown0 hx0;go_wp2
 go_loopw [6] (λzi wr=>∃(c:Nat) (B:List Bool),c<=F.length/\zi=.int .i64 ((c:Int)-1)/\wr.ownsRow w.heap.size 4 1 (.slice (some ⟨w.heap.size,0,none⟩) F.length F.length) F.length (B.map Value.bool)/\Ext w wr/\Hid (DF F r c B)) (λzi _=>(intOf zi+1).toNat)
 case atStart=>exact⟨r+1,_,by omega,by go_num,hownS,hxS,hU0⟩
 case round=>
  clear hownS hxS hU0 hfr hu;obtain⟨c,B,hc,rfl,hown,hx,HU⟩:=hrel;by_cases hc0:c=0
  .subst hc0
   have h1:¬((0:Int)<=((0:Nat):Int)-1):=(by omega);go_wp2
   go_ret
   exact⟨_,B,rfl,hown,hx,HU.out.len,HU.out.iff⟩
  .obtain⟨i,rfl⟩:∃i,c=i+1:=⟨c-1,by omega⟩
   have hie:(((i+1:Nat):Int)-1)=((i:Nat):Int):=(by omega);rw[hie];have h1:(0:Int)<=((i:Nat):Int):=(by omega);have hlt:i<F.length:=(by omega);have Q9:((i:Nat):Int)<(F.length:Int):=(by omega);have hBl:=HU.out.len;obtain⟨bi,hbi⟩:∃bi,B[i]?=some bi:=⟨_,af (by omega)⟩;have q0:wr.cell? ⟨w.heap.size,i,none⟩=some (.bool bi):=(hown.cellAt i (by omega)).trans (by rw[ek,hbi];rfl);have hwk:wrap64 (((i:Nat):Int)-1)=((i:Nat):Int)-1:=(by unfold wrap64;omega);cases bi with
   |false=>
    have HN:=aW (HU.out.skip hbi);clear hbi HU hc0 hie;go_wp2
    go_roundw
    case rel=>exact⟨i,B,by omega,rfl,hown,hx,HN⟩
    case measure=>simp[intOf]
   |true=>
    obtain⟨bF,cF,aL,cL,aR,cR,he,Nh,cl,cr,vM,vJ⟩:=hf.at hlt;simp only[il]at he;obtain⟨rfl,-,rfl⟩:=he;have cl':=fw hx cl;have hlr:=lt_of_cell cr;obtain⟨Qk,Qj⟩:=hF i _ (af hlt);obtain⟨FL,Zm⟩:=fu ((F[i]).1);obtain⟨FR,Zl⟩:=fu ((F[i]).2);rw[<-Zm]at cl' vM Qk;rw[<-Zl]at cr vJ Qj;have HK:=jm Zm Zl;have HF:=aW hf;obtain⟨a',c',e,-,adA,O8⟩:=vM;simp only[il,bG,true_and]at e adA O8;obtain⟨rfl,rfl⟩:=e;obtain⟨a',c',e,-,adz,O7⟩:=vJ;simp only[il,bG,true_and]at e adz O7;obtain⟨rfl,rfl⟩:=e;have HBI:=aW hbi;have WK1:=aW Qk;have WK2:=aW Qj;have HCL:=aW O8;have HCR:=aW O7;clear Qk Qj O8 O7 Zm Zl cl hf hbi hie hc0;go_wp2
    go_loopw [8,33] (λ_ ii wr=>∃(k:Nat) (B1:List Bool),k<=FL.length/\ii=.int .i64 ((k:Nat):Int)/\wr.ownsRow w.heap.size 4 1 (.slice (some ⟨w.heap.size,0,none⟩) F.length F.length) F.length (B1.map Value.bool)/\Ext w wr/\Hid (yF i B B1 (FL.take k))) (λ_ ii _=>FL.length-(intOf ii).toNat)
    case atStart=>exact⟨0,B,aU _,rfl,hown,hx,aW (yF.refl _ _)⟩
    case round=>
     clear hown hx;obtain⟨k,B1,hk,rfl,hown1,hx1,GZ⟩:=hrel;by_cases hk1:k<FL.length
     .have h2:((k:Nat):Int)<((FL.length:Nat):Int):=by omega
      obtain⟨b,off,rfl,hcell⟩:=HCL.out (by omega);have hck:=hcell k hk1;rw[iA hk1]at hck;have ou:=fw hx1 hck;have hxi:=WK1.out _ (ai hk1);have hB1:=GZ.out.len;have hst:=yF.put GZ.out hxi (by omega);rw[<-bJ hk1]at hst;have HST:=aW hst;obtain⟨x,hxe⟩:=fu (FL[k]);rw[<-hxe]at ou hxi HST;have hfr:wr.frozen? ⟨w.heap.size,x,none⟩=false:=hown1.frozenAt x;obtain⟨u,hu⟩:∃u,wr.cell? ⟨w.heap.size,x,none⟩=some u:=⟨_,(hown1.cellAt x (by omega)).trans (af (by simp;omega))⟩;have hxF:((x:Nat):Int)<(F.length:Int):=(by omega);have HO:=aW (EM hown1 (k:=x) (by omega) true);clear hcell hck hxe hxi hown1 hst;go_wp2
      go_roundw
      case rel=>exact⟨k+1,_,by omega,by go_num,HO.out,hx1.setCell (p:=⟨w.heap.size,x,none⟩) (aJ _) _,HST⟩
      case measure=>simp[intOf];omega
     .have h2:¬(((k:Nat):Int)<((FL.length:Nat):Int)):=by omega
      have hke:k=FL.length:=(by omega);subst hke;rw[dZ]at GZ;have cr1:=(hx1.cell hlr).trans cr;go_wp2
      go_loopw [10,47] (λ_ ii wr=>∃(k:Nat) (B1:List Bool),k<=FR.length/\ii=.int .i64 ((k:Nat):Int)/\wr.ownsRow w.heap.size 4 1 (.slice (some ⟨w.heap.size,0,none⟩) F.length F.length) F.length (B1.map Value.bool)/\Ext w wr/\Hid (yF i B B1 (FL++FR.take k))) (λ_ ii _=>FR.length-(intOf ii).toNat)
      case atStart=>exact⟨0,B1,aU _,rfl,hown1,hx1,by rw[List.take_zero,gN];exact GZ⟩
      case round=>
       clear hown1 hx1;obtain⟨k,B2,hk,rfl,hown2,hx2,HS2⟩:=hrel;by_cases hk1:k<FR.length
       .have h2:((k:Nat):Int)<((FR.length:Nat):Int):=by omega
        obtain⟨b,off,rfl,hcell⟩:=HCR.out (by omega);have hck:=hcell k hk1;rw[iA hk1]at hck;have ou:=fw hx2 hck;have hxi:=WK2.out _ (ai hk1);have hB1:=HS2.out.len;have hst:=yF.put HS2.out hxi (by omega);rw[dY,<-bJ hk1]at hst;have HST:=aW hst;obtain⟨x,hxe⟩:=fu (FR[k]);rw[<-hxe]at ou hxi HST;have hfr:wr.frozen? ⟨w.heap.size,x,none⟩=false:=hown2.frozenAt x;obtain⟨u,hu⟩:∃u,wr.cell? ⟨w.heap.size,x,none⟩=some u:=⟨_,(hown2.cellAt x (by omega)).trans (af (by simp;omega))⟩;have hxF:((x:Nat):Int)<(F.length:Int):=(by omega);have HO:=aW (EM hown2 (k:=x) (by omega) true);clear hcell hck hxe hxi hown2 hst;go_wp2
        go_roundw
        case rel=>exact⟨k+1,_,by omega,by go_num,HO.out,hx2.setCell (p:=⟨w.heap.size,x,none⟩) (aJ _) _,HST⟩
        case measure=>simp[intOf];omega
       .have h2:¬(((k:Nat):Int)<((FR.length:Nat):Int)):=by omega
        have hke:k=FR.length:=(by omega);subst hke;rw[dZ]at HS2;have HN:=aW (HU.out.next hlt HBI.out (by rw[<-HK.out.1,<-HK.out.2];exact HS2.out));clear GZ HS2 HU;go_wp2
        go_roundw
        case rel=>exact⟨i,B2,by omega,rfl,hown2,hx2,HN⟩
        case measure=>simp[intOf]
end
section
open Go.RowKit
def Dq(x y z:Int):Int:=if x≠0 then x else orZ y z
theorem KD{k:Nat}(h:k<=3):k=0\/k=1\/k=2\/k=3:=by omega
theorem FP(b:Nat)(x y z:Int)(w:World)(h0:w.cell? ⟨b,0,none⟩=some (.int .i64 x))(h1:w.cell? ⟨b,1,none⟩=some (.int .i64 y))(h2:w.cell? ⟨b,2,none⟩=some (.int .i64 z)):
 Calls prog 101 #[.slice (some ⟨b,0,none⟩) 3 3] w λe w'=>e=.returned (.int .i64 (Dq x y z))/\RD w w':=by
 go_enter Tryz.func101,Tryz.ntmps101
 go_wp2
 go_loopw [5,8] (λ_ ii wr=>∃k:Nat,k<=3/\ii=.int .i64 ((k:Nat):Int)/\RD w wr/\Hid ((1<=k->x=0)/\(2<=k->y=0)/\(3<=k->z=0))) (λ_ ii _=>3-(intOf ii).toNat)
 case atStart=>exact⟨0,aU _,rfl,uX _,by simp[Hid]⟩
 case round=>
  obtain⟨k,hk,rfl,⟨n,rfl⟩,HE⟩:=hrel;rcases KD hk with rfl|rfl|rfl|rfl
  .by_cases hx:x=0
   .subst hx
    go_wp2
    go_roundw
    case rel=>exact⟨1,by omega,by go_num,⟨_,rfl⟩,aW ⟨by simp,λh=>by omega,λh=>by omega⟩⟩
    case measure=>simp[intOf]
   .have hx0:(x == 0)=false:=by simpa using hx
    have HX:=aW hx;clear hx;go_wp2
    go_ret
    exact⟨iW (by unfold Dq;rw[if_pos HX.out]),⟨_,rfl⟩⟩
  .have HX:=aW (HE.out.1 (by omega))
   by_cases hy:y=0
   .subst hy
    go_wp2
    go_roundw
    case rel=>exact⟨2,by omega,by go_num,⟨_,rfl⟩,aW ⟨λ_=>HX.out,by simp,λh=>by omega⟩⟩
    case measure=>simp[intOf]
   .have hy0:(y == 0)=false:=by simpa using hy
    have HY:=aW hy;clear hy;go_wp2
    go_ret
    exact⟨iW (by unfold Dq orZ;rw[if_neg (by simp[HX.out]),if_pos HY.out]),⟨_,rfl⟩⟩
  .have HX:=jm (HE.out.1 (by omega)) (HE.out.2.1 (by omega))
   by_cases hz:z=0
   .subst hz
    go_wp2
    go_roundw
    case rel=>exact⟨3,by omega,by go_num,⟨_,rfl⟩,aW ⟨λ_=>HX.out.1,λ_=>HX.out.2,by simp⟩⟩
    case measure=>simp[intOf]
   .have hz0:(z == 0)=false:=by simpa using hz
    clear hz;go_wp2
    go_ret
    exact⟨iW (by unfold Dq orZ;rw[if_neg (by simp[HX.out.1]),if_neg (by simp[HX.out.2])]),⟨_,rfl⟩⟩
  .have HX:=nY (HE.out.1 (by omega)) (HE.out.2.1 (by omega)) (HE.out.2.2 (by omega))
   go_wp2
   go_ret
   exact⟨iW (by unfold Dq orZ;rw[if_neg (by simp[HX.out.1]),if_neg (by simp[HX.out.2.1]),HX.out.2.2]),⟨_,rfl⟩⟩
end
section
open Go.RowKit
open bE (dh Nd Gm vl bI)
variable {F:dh}
theorem l6(h:dm F=true):1<=F.length/\F.length<=120/\∀i (h:i<F.length),(F[i]).1.length<=24/\(F[i]).2.length<=24:=by
 unfold dm at h;exact of_decide_eq_true h
theorem Yz{F:dh}{i j:Nat}(hi:i<F.length)(hj:j<F.length)(h:bE.Ahead F i j):Dq (Lib.compareInt (bE.born (vl F i):Int) (bE.born (vl F j):Int)) (bE.cl (F[i]).1 (F[j]).1) (bE.cl (F[i]).2 (F[j]).2)<0:=by
 unfold bE.Ahead at h;rw[bE.jM hi,bE.jM hj]at h;rcases h with h|⟨h1,h2⟩
 .have e:Lib.compareInt (bE.born (vl F i):Int) (bE.born (vl F j):Int)=-1:=by unfold Lib.compareInt;rw[if_pos (by omega)]
  rw[e];simp[Dq]
 .have e:Lib.compareInt (bE.born (vl F i):Int) (bE.born (vl F j):Int)=0:=by rw[h1];unfold Lib.compareInt;simp
  rw[e];unfold Dq;rw[if_neg (by simp)];exact h2
theorem Yr{x:Nat}(h:x<F.length):((Zq F F.length).map (Value.int .i64))[x]?=some (.int .i64 (bE.born (vl F x):Int)):=by
 rw[ek,Zq,dN (by simpa using h)];simp[h]
theorem new3_0(w:World)(X:Obj)(x y:Value)(e:TypeId):((w.alloc X).alloc (.cells #[x,y] e)).cell? ⟨w.heap.size+1,0,none⟩=some x:=by
 have:=new2_0 (w.alloc X) x y e;rw[fU]at this;exact this
theorem new3_1(w:World)(X:Obj)(x y:Value)(e:TypeId):((w.alloc X).alloc (.cells #[x,y] e)).cell? ⟨w.heap.size+1,1,none⟩=some y:=by
 have:=new2_1 (w.alloc X) x y e;rw[fU]at this;exact this
theorem newc_0(w:World)(x y z:Value)(e:TypeId):(w.alloc (.cells #[x,y,z] e)).cell? ⟨w.heap.size,0,none⟩=some x:=World.cell?_alloc_at (w:=w) #[x,y,z] e _ 0 rfl
theorem newc_1(w:World)(x y z:Value)(e:TypeId):(w.alloc (.cells #[x,y,z] e)).cell? ⟨w.heap.size,1,none⟩=some y:=World.cell?_alloc_at (w:=w) #[x,y,z] e _ 1 rfl
theorem newc_2(w:World)(x y z:Value)(e:TypeId):(w.alloc (.cells #[x,y,z] e)).cell? ⟨w.heap.size,2,none⟩=some z:=World.cell?_alloc_at (w:=w) #[x,y,z] e _ 2 rfl
end
section
open Go.RowKit
theorem Te(B0:Nat)(B:List Bool)(v:Value)(w:World)(hv:w.ownsRow B0 4 1 v B.length (B.map Value.bool))(hn:B.length<=1000000):
 Calls prog 143 #[v,.bool false] w λe w'=>∃z:Int,e=.returned (.int .i64 z)/\(0<=z↔false∈B)/\RD w w':=by
 obtain⟨a,cap,rfl,hc1,hc2⟩:=bT hv;go_enter Tryz.func143,Tryz.ntmps143
 go_wp2
 go_loopw [5,8] (λ_ ii wr=>∃k:Nat,k<=B.length/\ii=.int .i64 ((k:Nat):Int)/\RD w wr/\Hid (∀j,j<k->B[j]?=some true)) (λ_ ii _=>B.length-(intOf ii).toNat)
 case atStart=>exact⟨0,aU _,rfl,uX _,aW (λj h=>by omega)⟩
 case round=>
  obtain⟨k,hk,rfl,⟨q,rfl⟩,HJ⟩:=hrel;by_cases hlt:k<B.length
  .have h1:((k:Nat):Int)<((B.length:Nat):Int):=by omega
   obtain⟨g,cap',e,hg1,hg2,hg3⟩:=iy hv (by omega);simp only[il,true_and]at e;obtain⟨rfl,rfl⟩:=e;obtain⟨x,hx⟩:=fu (B[k]);have hbk:B[k]?=some x:=(by rw[hx];exact af hlt);have hck:(w.drewN q).cell? ⟨g,k,none⟩=some (.bool x):=(hg3 k (by omega)).trans (by rw[ek,hbk];rfl);have HB:=aW hbk;clear hg3 hv hx hbk;cases x with
   |true=>
    have HN:Hid (∀j,j<k+1->B[j]?=some true):=aW λj hj=>by
     by_cases e:j=k
     .subst e;exact HB.out
     .exact HJ.out j (by omega)
    go_wp2
    go_roundw
    case rel=>exact⟨k+1,by omega,by go_num,⟨_,rfl⟩,HN⟩
    case measure=>simp[intOf];omega
   |false=>
    go_wp2
    go_ret
    exact⟨_,rfl,⟨λ_=>nz HB.out,λ_=>by omega⟩,⟨_,rfl⟩⟩
  .have h1:¬(((k:Nat):Int)<((B.length:Nat):Int)):=by omega
   have HF:Hid (¬false∈B):=aW λhm=>by
    obtain⟨j,hj,e⟩:=aQ.1 hm;have:=HJ.out j (by omega);rw[af hj,e]at this;cases this
   go_wp2
   go_ret
   exact⟨-1,rfl,⟨λh=>by omega,λh=>absurd h HF.out⟩,⟨_,rfl⟩⟩
theorem JP(B0:Nat)(B:List Bool)(v:Value)(w:World)(hv:w.ownsRow B0 4 1 v B.length (B.map Value.bool))(hn:B.length<=1000000):
 Calls prog 104 #[v,.bool false] w λe w'=>∃c:Bool,e=.returned (.bool c)/\(c=true↔false∈B)/\RD w w':=by
 go_enter Tryz.func104,Tryz.ntmps104
 go_wp2_with (go_at_call 143;refine(Te B0 B v _ (by first|exact hv|exact dD hv (dQ ⟨_,rfl⟩)) hn).mono ?_;rintro e w2 ⟨z,rfl,hz,q,rfl⟩)
 go_ret
 exact⟨_,rfl,by first|exact hz|simp,⟨_,rfl⟩⟩
end
section
open Go.RowKit
open bE (dh Nd vl Same plus)
variable {D D' F G:dh} {at_:List Nat} {i k:Nat}
def ug(D F G:dh)(at_:List Nat):Prop:=∀m (h:m<at_.length),at_[m]<D.length/\∀i k,m=i*G.length+k->k<G.length->Same (vl D at_[m]) (plus (vl F i) (vl G k))
def Gr(F G:dh)(at_:List Nat)(i k:Nat):List Nat:=((F.getD i ([],[])).1.map λx=>at_.getD (x*G.length+k) 0)++(G.getD k ([],[])).1.map λy=>at_.getD (i*G.length+y) 0
def Gq(F G:dh)(at_:List Nat)(i k:Nat):List Nat:=((F.getD i ([],[])).2.map λx=>at_.getD (x*G.length+k) 0)++(G.getD k ([],[])).2.map λy=>at_.getD (i*G.length+y) 0
theorem ug.nil(D F G:dh):ug D F G []:=λm h=>absurd h (by simp)
theorem ug.more(h:ug D F G at_)(g:bE.WF D)(g':bE.WF D')(hm:∃E,D'=D++E):ug D' F G at_:=by
 obtain⟨E,rfl⟩:=hm;intro m hm;obtain⟨a,b⟩:=h m hm;exact⟨by simp;omega,λi k e hk=>by rw[bE.jJ g g' _ a];exact b i k e hk⟩
theorem ug.at(h:ug D F G at_)(hk:k<G.length)(hm:i*G.length+k<at_.length):at_.getD (i*G.length+k) 0<D.length/\Same (vl D (at_.getD (i*G.length+k) 0)) (plus (vl F i) (vl G k)):=by
 rw[bD,af hm,kI];exact⟨(h _ hm).1,(h _ hm).2 i k rfl hk⟩
theorem ug.snoc{x:Nat}(h:ug D F G at_)(hl:at_.length=i*G.length+k)(hk:k<G.length)(hx:x<D.length)(hs:Same (vl D x) (plus (vl F i) (vl G k))):ug D F G (at_++[x]):=by
 intro m hm;by_cases c:m<at_.length
 .rw[dM c];exact h m c
 .have e:m=at_.length:=by simp at hm;omega
  subst e;rw[eQ (aJ _)];simp only[qx,jG];refine⟨hx,λi' k' e hk'=>?_⟩;rw[hl]at e;have e1:i=i':=by
   rcases nV i i' with q|q|q
   .have:=jC G.length (show i+1<=i' from q);rw[Nat.succ_mul]at this;omega
   .exact q
   .have:=jC G.length (show i'+1<=i from q);rw[Nat.succ_mul]at this;omega
  subst e1;have e2:k=k':=by omega
  subst e2;exact hs
theorem yR{n h:Nat}(hi:i<h)(hk:k<n):i*n+k<h*n:=by
 have:=jC n (show i+1<=h from hi);rw[Nat.succ_mul]at this;omega
theorem ZH(h:ug D F G at_)(hF:bE.WF F)(hG:bE.WF G)(hi:i<F.length)(hk:k<G.length)(hl:at_.length=i*G.length+k):(∀x,x∈Gr F G at_ i k->x<D.length)/\∀x,x∈Gq F G at_ i k->x<D.length:=by
 have dF:F[i]?=some F[i]:=af hi;have dG:G[k]?=some G[k]:=af hk;have wF:=hF i _ dF;have wG:=hG k _ dG;have eF:F.getD i ([],[])=F[i]:=by rw[bD,dF];rfl
 have eG:G.getD k ([],[])=G[k]:=by rw[bD,dG];rfl
 have kF:∀x,x<i->at_.getD (x*G.length+k) 0<D.length:=λx hx=>(h.at hk (by rw[hl];have:=yR hx hk;omega)).1
 have kG:∀y,y<k->at_.getD (i*G.length+y) 0<D.length:=λy hy=>(h.at (by omega) (by omega)).1
 refine⟨λx hx=>?_,λx hx=>?_⟩
 .unfold Gr at hx;rw[eF,eG]at hx
  rcases bq.1 hx with hx|hx
  .obtain⟨y,hy,rfl⟩:=az.1 hx;exact kF y (wF.1 y hy)
  .obtain⟨y,hy,rfl⟩:=az.1 hx;exact kG y (wG.1 y hy)
 .unfold Gq at hx;rw[eF,eG]at hx
  rcases bq.1 hx with hx|hx
  .obtain⟨y,hy,rfl⟩:=az.1 hx;exact kF y (wF.2 y hy)
  .obtain⟨y,hy,rfl⟩:=az.1 hx;exact kG y (wG.2 y hy)
theorem U9{j:Nat}(g:bE.WF D)(g':bE.WF D')(hF:bE.WF F)(hG:bE.WF G)(hi:i<F.length)(hk:k<G.length)(h:ug D F G at_)(hl:at_.length=i*G.length+k)
 (hp:jN D (Gr F G at_ i k) (Gq F G at_ i k) D' j):Same (vl D' j) (plus (vl F i) (vl G k)):=by
 have dF:F[i]?=some F[i]:=af hi;have dG:G[k]?=some G[k]:=af hk;have wF:=hF i _ dF;have wG:=hG k _ dG;have eF:F.getD i ([],[])=F[i]:=by rw[bD,dF];rfl
 have eG:G.getD k ([],[])=G[k]:=by rw[bD,dG];rfl
 have kF:∀x,x<i->Same (vl D' (at_.getD (x*G.length+k) 0)) (plus (vl F x) (vl G k)):=λx hx=>by
  have:=h.at (i:=x) hk (by rw[hl];have:=yR hx hk;omega);rw[hp.vl g g' this.1];exact this.2
 have kG:∀y,y<k->Same (vl D' (at_.getD (i*G.length+y) 0)) (plus (vl F i) (vl G y)):=λy hy=>by
  have:=h.at (i:=i) (k:=y) (by omega) (by omega);rw[hp.vl g g' this.1];exact this.2
 rw[bE.same_iff,bE.lI g' hp.1,bE.lH g' hp.1];refine⟨λy hy=>?_,λy hy=>?_,λy hy=>?_,λy hy=>?_⟩
 .obtain⟨x,hx,rfl⟩:=az.1 hy
  have hx:=cz.1 hx;unfold Gr at hx;rw[eF,eG]at hx;rcases bq.1 hx with hx|hx
  .obtain⟨z,hz,rfl⟩:=az.1 hx
   exact⟨_,bE.ja.2 (.inl ⟨_,by rw[bE.lI hF dF];exact aV hz,rfl⟩),kF z (wF.1 z hz)⟩
  .obtain⟨z,hz,rfl⟩:=az.1 hx
   exact⟨_,bE.ja.2 (.inr ⟨_,by rw[bE.lI hG dG];exact aV hz,rfl⟩),kG z (wG.1 z hz)⟩
 .rcases bE.ja.1 hy with⟨u,hu,rfl⟩|⟨u,hu,rfl⟩
  .rw[bE.lI hF dF]at hu
   obtain⟨z,hz,rfl⟩:=az.1 hu;exact⟨_,aV (cz.2 (by unfold Gr;rw[eF,eG];exact bq.2 (.inl (aV hz)))),kF z (wF.1 z hz)⟩
  .rw[bE.lI hG dG]at hu
   obtain⟨z,hz,rfl⟩:=az.1 hu;exact⟨_,aV (cz.2 (by unfold Gr;rw[eF,eG];exact bq.2 (.inr (aV hz)))),kG z (wG.1 z hz)⟩
 .obtain⟨x,hx,rfl⟩:=az.1 hy
  have hx:=cz.1 hx;unfold Gq at hx;rw[eF,eG]at hx;rcases bq.1 hx with hx|hx
  .obtain⟨z,hz,rfl⟩:=az.1 hx
   exact⟨_,bE.iX.2 (.inl ⟨_,by rw[bE.lH hF dF];exact aV hz,rfl⟩),kF z (wF.2 z hz)⟩
  .obtain⟨z,hz,rfl⟩:=az.1 hx
   exact⟨_,bE.iX.2 (.inr ⟨_,by rw[bE.lH hG dG];exact aV hz,rfl⟩),kG z (wG.2 z hz)⟩
 .rcases bE.iX.1 hy with⟨u,hu,rfl⟩|⟨u,hu,rfl⟩
  .rw[bE.lH hF dF]at hu
   obtain⟨z,hz,rfl⟩:=az.1 hu;exact⟨_,aV (cz.2 (by unfold Gq;rw[eF,eG];exact bq.2 (.inl (aV hz)))),kF z (wF.2 z hz)⟩
  .rw[bE.lH hG dG]at hu
   obtain⟨z,hz,rfl⟩:=az.1 hu;exact⟨_,aV (cz.2 (by unfold Gq;rw[eF,eG];exact bq.2 (.inr (aV hz)))),kG z (wG.2 z hz)⟩
end
section
open Go.RowKit
open bE (dh Nd vl Same plus)
variable {wo wr w5:World} {lv rv v5:Value} {l r:List Nat} {x:Nat} {X:Obj}
structure LR(wo wr:World)(lv rv:Value)(l r:List Nat):Prop where
 el:wr.ownsRow wo.heap.size 3 1 lv l.length ((dB l).map (Value.int .i64))
 er:wr.ownsRow wo.heap.size 3 1 rv r.length ((dB r).map (Value.int .i64))
 ap:∀b,lv.ownBlock=some b->rv.ownBlock≠some b
 ext:Ext wo wr
theorem LR.afR(h:LR wo wr lv rv l r)(ho:w5.ownsRow wo.heap.size 3 1 v5 (l.length+1) ((dB l).map (Value.int .i64)++[.int .i64 ((x:Nat):Int)]))(hg:(wr.alloc X).grownBy w5 lv.ownBlock)(hl:pX (wr.alloc X) lv v5):LR wo w5 v5 rv (l++[x]) r:=by
 have hz:(wr.alloc X).heap.size=wr.heap.size+1:=fU _ _;have hk:fJ (λb=>lv.ownBlock=some b) (wr.alloc X) w5:=⟨hg.os,hg.tape,hg.output,hg.size,λk hk hn=>hg.block k hk (λe=>hn e.symm)⟩;refine⟨by rw[bu];simpa [dB]using ho,bS (h.er.alloc X) hk (λb hb e=>h.ap b e hb),λb hb e=>?_,eU (bY h.ext X) hg (λk hk=>(h.el.lt k hk).1)⟩;rcases hl with q|⟨c,q,k⟩
 .exact h.ap b (by rw[<-q];exact hb) e
 .rw[q]at hb;injection hb with hb
  have:=(h.er.lt b e).2;omega
theorem LR.afQ(h:LR wo wr lv rv l r)(ho:w5.ownsRow wo.heap.size 3 1 v5 (r.length+1) ((dB r).map (Value.int .i64)++[.int .i64 ((x:Nat):Int)]))(hg:(wr.alloc X).grownBy w5 rv.ownBlock)(hl:pX (wr.alloc X) rv v5):LR wo w5 lv v5 l (r++[x]):=by
 have hz:(wr.alloc X).heap.size=wr.heap.size+1:=fU _ _;have hk:fJ (λb=>rv.ownBlock=some b) (wr.alloc X) w5:=⟨hg.os,hg.tape,hg.output,hg.size,λk hk hn=>hg.block k hk (λe=>hn e.symm)⟩;refine⟨bS (h.el.alloc X) hk (λb hb e=>h.ap b hb e),by rw[bu];simpa [dB]using ho,λb hb e=>?_,eU (bY h.ext X) hg (λk hk=>(h.er.lt k hk).1)⟩;rcases hl with q|⟨c,q,k⟩
 .exact h.ap b hb (by rw[<-q];exact e)
 .rw[q]at e;injection e with e
  have:=(h.el.lt b hb).2;omega
structure SM(w we wr:World)(vf vg av vn vb:Value)(D:dh)(at_:List Nat):Prop where
 bk:fB wr (w.heap.size+3) vn vb D
 go:fO we wr (w.heap.size+3) (.slice none 0 0) (.slice none 0 0) [] vn vb D
 b0:wr.heap[w.heap.size]?=some (.cells #[vf] 30 (0,0))
 b1:wr.heap[w.heap.size+1]?=some (.cells #[vg] 30 (0,0))
 b2:wr.heap[w.heap.size+2]?=some (.cells #[.slice none 0 0] 30 (0,0))
 own:wr.ownsRow we.heap.size 3 1 av at_.length ((dB at_).map (Value.int .i64))
 sep:∀b,av.ownBlock=some b->we.heap.size<=b/\Beside wr (w.heap.size+3) vn vb D b
 side:∀b,b<w.heap.size+3->Beside wr (w.heap.size+3) vn vb D b
 ext:Ext w wr
 len:D.length<=at_.length
section
variable {w we wr w2:World} {vf vg av vn vb:Value} {D:dh} {at_:List Nat}
theorem SM.ext'(m:SM w we wr vf vg av vn vb D at_)(hx:Ext wr w2):SM w we w2 vf vg av vn vb D at_:=
 ⟨m.bk.ext hx,m.go.trans (fO.ext m.bk hx),ik hx m.b0,ik hx m.b1,ik hx m.b2,dD m.own hx,λb hb=>⟨(m.sep b hb).1,(m.sep b hb).2.Ki m.bk hx⟩,λb hb=>(m.side b hb).Ki m.bk hx,ah m.ext hx,m.len⟩
theorem SM.push{w3 w5:World}{l r:List Nat}{i2:Nat}{zS qE v5:Value}{D2:dh}{X:Obj}(m:SM w we wr vf vg av vn vb D at_)
 (hB3:fB w3 (w.heap.size+3) zS qE D2) (hgo:fO wr w3 (w.heap.size+3) vn vb D zS qE D2) (hP:jN D l r D2 i2) (Uz:w.heap.size+3<we.heap.size)
 (ho:w5.ownsRow we.heap.size 3 1 v5 (at_.length+1) ((dB at_).map (Value.int .i64)++[.int .i64 ((i2:Nat):Int)])) (hg:(w3.alloc X).grownBy w5 av.ownBlock) (hl:pX (w3.alloc X) av v5):SM w we w5 vf vg v5 zS qE D2 (at_++[i2]):=by
 have hx4:Ext w3 (w3.alloc X):=bY (gz _ _) _;have Tg:(w3.alloc X).heap.size=w3.heap.size+1:=fU _ _;have hz3:=hgo.keep.size;have hG3:=m.go.trans hgo;have hs3:∀b,av.ownBlock=some b->we.heap.size<=b/\Beside w3 (w.heap.size+3) zS qE D2 b:=λb hb=>⟨(m.sep b hb).1,(m.sep b hb).2.go (m.own.lt b hb).2 hgo⟩
 obtain⟨Cc,FB,yn,hside⟩:=Beside.row hG3 hB3 hs3 hx4 hg hl;have Wy:∀b v T,b<w.heap.size+3->wr.heap[b]?=some (.cells #[v] T (0,0))->w5.heap[b]?=some (.cells #[v] T (0,0)):=λb v T hb h=>by
  have hbl:=bW h;rw[hg.block b (by omega) (λe=>by have:=(m.sep b e.symm).1;omega),hx4.block b (by omega),hgo.keep.block b hbl (m.side b hb).ins];exact h
 have hlen:=hP.len;refine⟨Cc,FB,Wy _ _ _ (by omega) m.b0,Wy _ _ _ (by omega) m.b1,Wy _ _ _ (by omega) m.b2,by rw[bu];simpa [dB]using ho,yn,λb hb=>hside _ ((m.side b hb).go (by have:=m.go.keep.size;omega) hgo),?_,by rw[bu];have:=m.len;simp;omega⟩;have h1:Ext w w3:=TM m.ext hgo.keep λb hb=>by
  have:=m.go.ins b hb;rcases this with k|k
  .rcases k with k|k|k
   .omega
   .simp[Value.ownBlock]at k
   .simp[Value.ownBlock]at k
  .omega
 exact eU (bY h1 X) hg λb hb=>by have:=(m.sep b hb).1;omega
end
end
