/-
  Contract of the program's GoodForm, at a valid form: true. (3 texts.)
-/
import Derived.Test.YteknjeohbcgpdaaGreatDoorK23
import Derived.Test.YteknjeohbcgpdaaGreatDoorK36
set_option maxRecDepth 100000
namespace Go.Proofs.YteknjeohbcgpdaaGreatDoor
open Tryz
section
open Go.RowKit
open bz (dC Nd Gm vl)
variable {i at_:Nat} {B B':List Bool} {F:dC}
structure Bp(F:dC)(at_ c:Nat)(B:List Bool):Prop where
 len:B.length=F.length
 root:B[at_]?=some true
 shut:∀p (hp:p<F.length),c<=p->B[p]?=some true->∀x,x∈(F[p]).1++(F[p]).2->B[x]?=some true
structure vk(i:Nat)(B B':List Bool)(O:List Nat):Prop where
 len:B'.length=B.length
 up:∀p:Nat,i<=p->B'[p]?=B[p]?
 mono:∀p:Nat,B[p]?=some true->B'[p]?=some true
 set:∀x:Nat,x∈O->B'[x]?=some true
theorem vk.refl(i:Nat)(B:List Bool):vk i B B []:=⟨rfl,λ_ _=>rfl,λ_ h=>h,λ_ h=>absurd h (by simp)⟩
theorem vk.put{O:List Nat}{x:Nat}(h:vk i B B' O)(hx:x<i)(hl:x<B.length):vk i B (B'.set x true) (O++[x]):=by
 have hlen:=h.len;refine⟨by rw[gH];exact hlen,λp hp=>?_,λp hp=>?_,λy hy=>?_⟩
 .rw[List.getElem?_set_ne (by omega)];exact h.up p hp
 .by_cases e:x=p
  .subst e;rw[List.getElem?_set_self (by omega)]
  .rw[List.getElem?_set_ne e];exact h.mono p hp
 .by_cases e:x=y
  .subst e;rw[List.getElem?_set_self (by omega)]
  .rw[List.getElem?_set_ne e]
   rcases aK.1 hy with hy|hy
   .exact h.set y hy
   .simp at hy;exact absurd hy.symm e
theorem Bp.next(h:Bp F at_ (i+1) B)(hi:i<F.length)(k:vk i B B' ((F[i]).1++(F[i]).2)):Bp F at_ i B':=by
 refine⟨by rw[k.len];exact h.len,k.mono _ h.root,λp hp hc hb x hx=>?_⟩;by_cases e:p=i
 .subst e;exact k.set x hx
 .rw[k.up p hc]at hb
  exact k.mono x (h.shut p hp (by omega) hb x hx)
theorem Bp.skip(h:Bp F at_ (i+1) B)(hn:B[i]?=some false):Bp F at_ i B:=by
 refine⟨h.len,h.root,λp hp hc hb x hx=>?_⟩;by_cases e:p=i
 .subst e;rw[hn]at hb;cases hb
 .exact h.shut p hp (by omega) hb x hx
theorem Bp.start(h:at_<F.length)(hc:at_+1=F.length):Bp F at_ (at_+1) ((List.replicate F.length false).set at_ true):=by
 refine⟨by simp,by rw[List.getElem?_set_self (by simpa using h)],λp hp hcp _=>by omega⟩
theorem Bp.all(h:Bp F at_ 0 B)(hr:∀i,i<F.length->bz.Reach F at_ i):B=List.replicate F.length true:=by
 have key:∀i,bz.Reach F at_ i->B[i]?=some true:=by
  intro i hi
  induction hi with
  |here=>exact h.root
  | @left j k nd _ hd hk ih=>
   obtain⟨hj,e⟩:=dI.1 hd;exact h.shut j hj (az _) ih k (by rw[e];exact sJ _ hk)
  | @right j k nd _ hd hk ih=>
   obtain⟨hj,e⟩:=dI.1 hd;exact h.shut j hj (az _) ih k (by rw[e];exact nJ _ hk)
 refine ui (by rw[h.len,List.length_replicate]) λi h1 h2=>?_
 have:=key i (hr i (by rw[<-h.len];exact h1));rw[aa h1]at this;rw[List.getElem_replicate];injection this
theorem PZ(w:World)(n:Nat)(hn:n<=1000000):(w.alloc (.cells (madeCells #[Value.bool false] n) 4)).ownsRow w.heap.size 4 1 (.slice (some ⟨w.heap.size,0,none⟩) n n) n ((List.replicate n false).map Value.bool):=by
 have h:=World.ownsRow_lit w (base:=w.heap.size) (madeCells #[Value.bool false] n) n (e:=4) (size:=1) (ai _) (by unfold maxLen;omega) (by rw[size_madeCells];simp);rw[Ld]at h;exact h
theorem Cy{w:World}{B e g n cap k:Nat}{l:List Bool}(h:w.ownsRow B e 1 (.slice (some ⟨g,0,none⟩) n cap) n (l.map Value.bool))(hk:k<n)(x:Bool):
 (w.setCell ⟨g,k,none⟩ (.bool x)).ownsRow B e 1 (.slice (some ⟨g,0,none⟩) n cap) n ((l.set k x).map Value.bool):=by
 rw[List.map_set];exact Ry h hk _
def J3(F:dC)(w:World)(e:Ending)(w':World):Prop:=∃v',e=.returned v'/\w'.ownsRow w.heap.size 4 1 v' F.length ((List.replicate F.length true).map Value.bool)/\Ext w w'
set_option maxHeartbeats 4000000 in
theorem QJ(v:Value)(F:dC)(w:World)(hf:eX w 0 v F)(hF:bz.WF F)(hl:F.length<=1000000)(h0:0<F.length)(hr:∀i,i<F.length->bz.Reach F (F.length-1) i):
 Calls prog 116 #[v,.int .i64 ((F.length-1:Nat):Int)] w (J3 F w):=by
 obtain⟨i0,hi0,hz0,hz1,hz2⟩:=info_parts Lx;obtain⟨aF,iJ,rfl,hcap,xP,-⟩:=id hf;obtain⟨r,hrr⟩:∃r,r=F.length-1:=⟨_,rfl⟩;rw[<-hrr]at hr ⊢;have hrl:r+1=F.length:=by omega
 have HR:=aH hr;clear hr hrr h0;have hmk:=λw:World=>run_make (P:=prog) w 106 4 i0 (.bool false) underlying106 hi0 hz0 .i64 .i64 (F.length:Int) (F.length:Int) (by omega) (by omega) (by rw[hz2];omega) (by omega)
 simp only[hz1,jM,kV]at hmk;have hown0:=PZ w F.length hl;have hx0:Ext w (w.alloc (.cells (madeCells #[Value.bool false] F.length) 4)):=by go_grown
 go_enter Tryz.func116,Tryz.ntmps116
 go_upto_region 2 with fail
 generalize w.alloc (.cells (madeCells #[Value.bool false] F.length) 4)=W0 at *;clear hmk;have hrF:((r:Nat):Int)<(F.length:Int):=by omega
 have hfr:W0.frozen? ⟨w.heap.size,r,none⟩=false:=hown0.frozenAt r;obtain⟨u,hu⟩:∃u,W0.cell? ⟨w.heap.size,r,none⟩=some u:=⟨_,(hown0.cellAt r (by omega)).trans (aa (by simp;omega))⟩;have hownS:=Cy hown0 (k:=r) (by omega) true;have hU0:=aH (Bp.start (F:=F) (at_:=r) (by omega) hrl);have hxS:Ext w (W0.setCell ⟨w.heap.size,r,none⟩ (.bool true)):=hx0.setCell (p:=⟨w.heap.size,r,none⟩) (ai _) _;clear hown0 hx0;go_wp2
 go_loopw [6] (λzi wr=>∃(c:Nat) (B:List Bool),c<=F.length/\zi=.int .i64 ((c:Int)-1)/\wr.ownsRow w.heap.size 4 1 (.slice (some ⟨w.heap.size,0,none⟩) F.length F.length) F.length (B.map Value.bool)/\Ext w wr/\Hid (Bp F r c B)) (λzi _=>(intOf zi+1).toNat)
 case atStart=>exact⟨r+1,_,by omega,by go_num,hownS,hxS,hU0⟩
 case round=>
  clear hownS hxS hU0 hfr hu;obtain⟨c,B,hc,rfl,hown,hx,HU⟩:=hrel;by_cases hc0:c=0
  .subst hc0
   have h1:¬((0:Int)<=((0:Nat):Int)-1):=(by omega);go_wp2
   go_ret
   have:=HU.out.all HR.out;subst this;exact⟨_,rfl,hown,hx⟩
  .obtain⟨i,rfl⟩:∃i,c=i+1:=⟨c-1,by omega⟩
   have hie:(((i+1:Nat):Int)-1)=((i:Nat):Int):=(by omega);rw[hie];have h1:(0:Int)<=((i:Nat):Int):=(by omega);have hlt:i<F.length:=(by omega);have Ve:((i:Nat):Int)<(F.length:Int):=(by omega);have hBl:=HU.out.len;obtain⟨bi,hbi⟩:∃bi,B[i]?=some bi:=⟨_,aa (by omega)⟩;have q0:wr.cell? ⟨w.heap.size,i,none⟩=some (.bool bi):=(hown.cellAt i (by omega)).trans (by rw[dB,hbi];rfl);have hwk:wrap64 (((i:Nat):Int)-1)=((i:Nat):Int)-1:=(by unfold wrap64;omega);cases bi with
   |false=>
    have HN:=aH (HU.out.skip hbi);clear hbi HU hc0 hie;go_wp2
    go_roundw
    case rel=>exact⟨i,B,by omega,rfl,hown,hx,HN⟩
    case measure=>simp[intOf]
   |true=>
    obtain⟨bF,cF,aL,cL,aR,cR,he,NI,cl,cr,E9,E8⟩:=hf.at hlt;simp only[Value.slice.injEq]at he;obtain⟨rfl,-,rfl⟩:=he;have cl':=(hx.cell (lt_of_cell cl)).trans cl;have hlr:=lt_of_cell cr;obtain⟨QF,QD⟩:=hF i _ (aa hlt);obtain⟨FL,NN⟩:∃l,l=(F[i]).1:=⟨_,rfl⟩;obtain⟨FR,Kh⟩:∃l,l=(F[i]).2:=⟨_,rfl⟩;rw[<-NN]at cl' E9 QF;rw[<-Kh]at cr E8 QD;have HK:=aH (And.intro NN Kh);have HF:=aH hf;obtain⟨a',c',e,-,Y3,L9⟩:=E9;simp only[Value.slice.injEq,bu,true_and]at e Y3 L9;obtain⟨rfl,rfl⟩:=e;obtain⟨a',c',e,-,Y2,L8⟩:=E8;simp only[Value.slice.injEq,bu,true_and]at e Y2 L8;obtain⟨rfl,rfl⟩:=e;have WK1:=aH QF;have WK2:=aH QD;have Xt:=aH L9;have Qv:=aH L8;clear QF QD L9 L8 NN Kh cl hf hbi hie hc0;go_wp2
    go_loopw [8,33] (λ_ ii wr=>∃(k:Nat) (B1:List Bool),k<=FL.length/\ii=.int .i64 ((k:Nat):Int)/\wr.ownsRow w.heap.size 4 1 (.slice (some ⟨w.heap.size,0,none⟩) F.length F.length) F.length (B1.map Value.bool)/\Ext w wr/\Hid (vk i B B1 (FL.take k))) (λ_ ii _=>FL.length-(intOf ii).toNat)
    case atStart=>exact⟨0,B,az _,rfl,hown,hx,aH (vk.refl _ _)⟩
    case round=>
     clear hown hx;obtain⟨k,B1,hk,rfl,hown1,hx1,ou⟩:=hrel;by_cases hk1:k<FL.length
     .have h2:((k:Nat):Int)<((FL.length:Nat):Int):=by omega
      obtain⟨b,off,rfl,hcell⟩:=Xt.out (by omega);have hck:=hcell k hk1;rw[fT hk1]at hck;have nz:=(hx1.cell (lt_of_cell hck)).trans hck;have hxi:=WK1.out _ (ah hk1);have hB1:=ou.out.len;have hst:=vk.put ou.out hxi (by omega);rw[<-bg hk1]at hst;have HST:=aH hst;obtain⟨x,hxe⟩:∃x,x=FL[k]:=⟨_,rfl⟩;rw[<-hxe]at nz hxi HST;have hfr:wr.frozen? ⟨w.heap.size,x,none⟩=false:=hown1.frozenAt x;obtain⟨u,hu⟩:∃u,wr.cell? ⟨w.heap.size,x,none⟩=some u:=⟨_,(hown1.cellAt x (by omega)).trans (aa (by simp;omega))⟩;have hxF:((x:Nat):Int)<(F.length:Int):=(by omega);have HO:=aH (Cy hown1 (k:=x) (by omega) true);clear hcell hck hxe hxi hown1 hst;go_wp2
      go_roundw
      case rel=>exact⟨k+1,_,by omega,by go_num,HO.out,hx1.setCell (p:=⟨w.heap.size,x,none⟩) (ai _) _,HST⟩
      case measure=>simp[intOf];omega
     .have h2:¬(((k:Nat):Int)<((FL.length:Nat):Int)):=by omega
      have hke:k=FL.length:=(by omega);subst hke;rw[dz]at ou;have cr1:=(hx1.cell hlr).trans cr;go_wp2
      go_loopw [10,47] (λ_ ii wr=>∃(k:Nat) (B1:List Bool),k<=FR.length/\ii=.int .i64 ((k:Nat):Int)/\wr.ownsRow w.heap.size 4 1 (.slice (some ⟨w.heap.size,0,none⟩) F.length F.length) F.length (B1.map Value.bool)/\Ext w wr/\Hid (vk i B B1 (FL++FR.take k))) (λ_ ii _=>FR.length-(intOf ii).toNat)
      case atStart=>exact⟨0,B1,az _,rfl,hown1,hx1,by rw[sD,bq];exact ou⟩
      case round=>
       clear hown1 hx1;obtain⟨k,B2,hk,rfl,hown2,hx2,HS2⟩:=hrel;by_cases hk1:k<FR.length
       .have h2:((k:Nat):Int)<((FR.length:Nat):Int):=by omega
        obtain⟨b,off,rfl,hcell⟩:=Qv.out (by omega);have hck:=hcell k hk1;rw[fT hk1]at hck;have nz:=(hx2.cell (lt_of_cell hck)).trans hck;have hxi:=WK2.out _ (ah hk1);have hB1:=HS2.out.len;have hst:=vk.put HS2.out hxi (by omega);rw[bY,<-bg hk1]at hst;have HST:=aH hst;obtain⟨x,hxe⟩:∃x,x=FR[k]:=⟨_,rfl⟩;rw[<-hxe]at nz hxi HST;have hfr:wr.frozen? ⟨w.heap.size,x,none⟩=false:=hown2.frozenAt x;obtain⟨u,hu⟩:∃u,wr.cell? ⟨w.heap.size,x,none⟩=some u:=⟨_,(hown2.cellAt x (by omega)).trans (aa (by simp;omega))⟩;have hxF:((x:Nat):Int)<(F.length:Int):=(by omega);have HO:=aH (Cy hown2 (k:=x) (by omega) true);clear hcell hck hxe hxi hown2 hst;go_wp2
        go_roundw
        case rel=>exact⟨k+1,_,by omega,by go_num,HO.out,hx2.setCell (p:=⟨w.heap.size,x,none⟩) (ai _) _,HST⟩
        case measure=>simp[intOf];omega
       .have h2:¬(((k:Nat):Int)<((FR.length:Nat):Int)):=by omega
        have hke:k=FR.length:=(by omega);subst hke;rw[dz]at HS2;have HN:=aH (HU.out.next hlt (by rw[<-HK.out.1,<-HK.out.2];exact HS2.out));clear ou HS2 HU;go_wp2
        go_roundw
        case rel=>exact⟨i,B2,by omega,rfl,hown2,hx2,HN⟩
        case measure=>simp[intOf]
end
section
open Go.RowKit
variable {k:Nat}
theorem QL{n:Nat}(h:k<n):((List.replicate n true).map Value.bool)[k]?=some (.bool true):=by simp[h]
theorem Jp(B n:Nat)(v:Value)(w:World)(hv:w.ownsRow B 4 1 v n ((List.replicate n true).map Value.bool))(hn:n<=1000000):
 Calls prog 162 #[v,.bool false] w λe w'=>e=.returned (.int .i64 (-1))/\RD w w':=by
 obtain⟨a,cap,rfl,hc1,hc2⟩:=bD hv;go_enter Tryz.func162,Tryz.ntmps162
 go_wp2
 go_loopw [5,8] (λ_ ii wr=>∃k:Nat,k<=n/\ii=.int .i64 ((k:Nat):Int)/\RD w wr) (λ_ ii _=>n-(intOf ii).toNat)
 case atStart=>exact⟨0,az _,rfl,su _⟩
 case round=>
  obtain⟨k,hk,rfl,⟨q,rfl⟩⟩:=hrel;by_cases hlt:k<n
  .have h1:((k:Nat):Int)<((n:Nat):Int):=by omega
   obtain⟨g,cap',e,hg1,hg2,hg3⟩:=iB hv (by omega);simp only[Value.slice.injEq,true_and]at e;obtain⟨rfl,rfl⟩:=e;have hck:(w.drewN q).cell? ⟨g,k,none⟩=some (.bool true):=(hg3 k (by omega)).trans (QL hlt);clear hg3 hv;go_wp2
   go_roundw
   case rel=>exact⟨k+1,by omega,by go_num,⟨_,rfl⟩⟩
   case measure=>simp[intOf];omega
  .have h1:¬(((k:Nat):Int)<((n:Nat):Int)):=by omega
   go_wp2
   go_ret
   exact⟨rfl,⟨_,rfl⟩⟩
theorem Dk(B n:Nat)(v:Value)(w:World)(hv:w.ownsRow B 4 1 v n ((List.replicate n true).map Value.bool))(hn:n<=1000000):
 Calls prog 115 #[v,.bool false] w λe w'=>e=.returned (.bool false)/\RD w w':=by
 go_enter Tryz.func115,Tryz.ntmps115
 go_wp2_with (go_at_call 162;refine(Jp B n v _ (by first|exact hv|exact dn hv (bS ⟨_,rfl⟩)) hn).mono ?_;rintro e w2 ⟨rfl,q,rfl⟩)
 go_ret
 exact⟨rfl,⟨_,rfl⟩⟩
def FY(x y z:Int):Int:=if x≠0 then x else XD y z
theorem Ie(h:k<=3):k=0\/k=1\/k=2\/k=3:=by omega
theorem Mo(b:Nat)(x y z:Int)(w:World)(h0:w.cell? ⟨b,0,none⟩=some (.int .i64 x))(h1:w.cell? ⟨b,1,none⟩=some (.int .i64 y))(h2:w.cell? ⟨b,2,none⟩=some (.int .i64 z)):
 Calls prog 112 #[.slice (some ⟨b,0,none⟩) 3 3] w λe w'=>e=.returned (.int .i64 (FY x y z))/\RD w w':=by
 go_enter Tryz.func112,Tryz.ntmps112
 go_wp2
 go_loopw [5,8] (λ_ ii wr=>∃k:Nat,k<=3/\ii=.int .i64 ((k:Nat):Int)/\RD w wr/\Hid ((1<=k->x=0)/\(2<=k->y=0)/\(3<=k->z=0))) (λ_ ii _=>3-(intOf ii).toNat)
 case atStart=>exact⟨0,az _,rfl,su _,by simp[Hid]⟩
 case round=>
  obtain⟨k,hk,rfl,⟨n,rfl⟩,HE⟩:=hrel;rcases Ie hk with rfl|rfl|rfl|rfl
  .by_cases hx:x=0
   .subst hx
    go_wp2
    go_roundw
    case rel=>exact⟨1,by omega,by go_num,⟨_,rfl⟩,aH ⟨by simp,λh=>by omega,λh=>by omega⟩⟩
    case measure=>simp[intOf]
   .have hx0:(x == 0)=false:=by simpa using hx
    have HX:=aH hx;clear hx;go_wp2
    go_ret
    exact⟨kK (by unfold FY;rw[if_pos HX.out]),⟨_,rfl⟩⟩
  .have HX:=aH (HE.out.1 (by omega))
   by_cases hy:y=0
   .subst hy
    go_wp2
    go_roundw
    case rel=>exact⟨2,by omega,by go_num,⟨_,rfl⟩,aH ⟨λ_=>HX.out,by simp,λh=>by omega⟩⟩
    case measure=>simp[intOf]
   .have hy0:(y == 0)=false:=by simpa using hy
    have HY:=aH hy;clear hy;go_wp2
    go_ret
    exact⟨kK (by unfold FY XD;rw[if_neg (by simp[HX.out]),if_pos HY.out]),⟨_,rfl⟩⟩
  .have HX:=aH (And.intro (HE.out.1 (by omega)) (HE.out.2.1 (by omega)))
   by_cases hz:z=0
   .subst hz
    go_wp2
    go_roundw
    case rel=>exact⟨3,by omega,by go_num,⟨_,rfl⟩,aH ⟨λ_=>HX.out.1,λ_=>HX.out.2,by simp⟩⟩
    case measure=>simp[intOf]
   .have hz0:(z == 0)=false:=by simpa using hz
    clear hz;go_wp2
    go_ret
    exact⟨kK (by unfold FY XD;rw[if_neg (by simp[HX.out.1]),if_neg (by simp[HX.out.2])]),⟨_,rfl⟩⟩
  .have HX:=aH (And.intro (HE.out.1 (by omega)) (And.intro (HE.out.2.1 (by omega)) (HE.out.2.2 (by omega))))
   go_wp2
   go_ret
   exact⟨kK (by unfold FY XD;rw[if_neg (by simp[HX.out.1]),if_neg (by simp[HX.out.2.1]),HX.out.2.2]),⟨_,rfl⟩⟩
end
section
open Go.RowKit
open bz (dC Nd Gm vl fq)
variable {F:dC}
theorem oG(h:gQ F=true):1<=F.length/\F.length<=120/\∀i (h:i<F.length),(F[i]).1.length<=24/\(F[i]).2.length<=24:=by
 unfold gQ at h;exact of_decide_eq_true h
theorem UF{i j:Nat}(hi:i<F.length)(hj:j<F.length)(h:bz.Ahead F i j):FY (Lib.compareInt (bz.born (vl F i):Int) (bz.born (vl F j):Int)) (bz.cl (F[i]).1 (F[j]).1) (bz.cl (F[i]).2 (F[j]).2)<0:=by
 unfold bz.Ahead at h;rw[bz.qF hi,bz.qF hj]at h;rcases h with h|⟨h1,h2⟩
 .have e:Lib.compareInt (bz.born (vl F i):Int) (bz.born (vl F j):Int)=-1:=by unfold Lib.compareInt;rw[if_pos (by omega)]
  rw[e];simp[FY]
 .have e:Lib.compareInt (bz.born (vl F i):Int) (bz.born (vl F j):Int)=0:=by rw[h1];unfold Lib.compareInt;simp
  rw[e];unfold FY;rw[if_neg (by simp)];exact h2
theorem Uv{x:Nat}(h:x<F.length):((Vi F F.length).map (Value.int .i64))[x]?=some (.int .i64 (bz.born (vl F x):Int)):=by
 rw[dB,Vi,dN (by simpa using h)];simp[h]
theorem new3_0(w:World)(X:Obj)(x y:Value)(e:TypeId):((w.alloc X).alloc (.cells #[x,y] e)).cell? ⟨w.heap.size+1,0,none⟩=some x:=by
 have:=new2_0 (w.alloc X) x y e;rw[fw]at this;exact this
theorem new3_1(w:World)(X:Obj)(x y:Value)(e:TypeId):((w.alloc X).alloc (.cells #[x,y] e)).cell? ⟨w.heap.size+1,1,none⟩=some y:=by
 have:=new2_1 (w.alloc X) x y e;rw[fw]at this;exact this
theorem newc_0(w:World)(x y z:Value)(e:TypeId):(w.alloc (.cells #[x,y,z] e)).cell? ⟨w.heap.size,0,none⟩=some x:=World.cell?_alloc_at (w:=w) #[x,y,z] e _ 0 rfl
theorem newc_1(w:World)(x y z:Value)(e:TypeId):(w.alloc (.cells #[x,y,z] e)).cell? ⟨w.heap.size,1,none⟩=some y:=World.cell?_alloc_at (w:=w) #[x,y,z] e _ 1 rfl
theorem newc_2(w:World)(x y z:Value)(e:TypeId):(w.alloc (.cells #[x,y,z] e)).cell? ⟨w.heap.size,2,none⟩=some z:=World.cell?_alloc_at (w:=w) #[x,y,z] e _ 2 rfl
def Rh:List Row:=[⟨0,[],51,[1]⟩,⟨1,[0],52,[50]⟩,⟨2,[],53,[6]⟩,⟨3,[2],54,[52]⟩,⟨4,[1,3],55,[51,53]⟩,⟨5,[4],56,[54]⟩,⟨6,[],57,[1]⟩,⟨7,[6],58,[56]⟩,⟨8,[],59,[6]⟩,⟨9,[7,8],60,[57,58]⟩,⟨10,[9],61,[59]⟩,⟨11,[],8,[]⟩,⟨12,[],9,[]⟩,⟨13,[11,5,0,1,2,3,4,5,11,12],0,[7,55]⟩,⟨14,[12,10,13,0,1,2,3,4,5,6,7,8,9,10,11,12,13],0,[8,60]⟩]
def Rf:List Row:=[⟨0,[],62,[5]⟩,⟨1,[],63,[6]⟩,⟨2,[1],64,[62]⟩,⟨3,[0,2],65,[61,63]⟩,⟨4,[3],66,[64]⟩,⟨5,[],67,[5]⟩,⟨6,[],68,[6]⟩,⟨7,[5,6],69,[66,67]⟩,⟨8,[7],70,[68]⟩,⟨9,[4,8],71,[65,69]⟩,⟨10,[],72,[7]⟩,⟨11,[10],73,[71]⟩,⟨12,[],74,[8]⟩,⟨13,[12],75,[73]⟩,⟨14,[11,13,9],76,[72,74]⟩,⟨15,[],77,[7]⟩,⟨16,[15],78,[76]⟩,⟨17,[],79,[8]⟩,⟨18,[17],80,[78]⟩,⟨19,[16,18,14],81,[77,79]⟩,⟨20,[9,14,19],82,[70,75,80]⟩,⟨21,[20,19],83,[81]⟩,⟨22,[21],84,[82]⟩]
set_option maxHeartbeats 1000000 in
theorem qO(v:Value)(F:dC)(w:World)(hf:eX w 0 v F)(hF:fq F)(hfit:gQ F=true):Calls prog 67 #[.agg #[v]] w λe w'=>e=.returned (.bool true)/\Ext w w':=by
 obtain⟨aF,iJ,rfl,hcap,xP,-⟩:=id hf;obtain⟨l1,l2,C9⟩:=oG hfit;have HO:=aH C9;clear C9 hfit;have hxb:Ext w (w.alloc (.cells #[.slice aF F.length iJ] 28)):=by go_grown
 have hbx:=cell_of_row (w.alloc (.cells #[.slice aF F.length iJ] 28)) w.heap.size 0 _ _ _ (heap_alloc_new w _);have g1:¬((F.length:Int)<1):=by omega
 have g2:¬((120:Int)<(F.length:Int)):=by omega
 go_enter Tryz.func67,Tryz.ntmps67
 go_upto_region 1 with fail
 simp only[gE]at hbx;generalize w.alloc (.cells #[.slice aF F.length iJ] 28)=W0 at *;go_wp2
 go_loopw [3,4,22] (λ_ _ ii wr=>∃k:Nat,k<=F.length/\ii=.int .i64 ((k:Nat):Int)/\Ext W0 wr) (λ_ _ ii _=>F.length-(intOf ii).toNat)
 case atStart=>exact⟨0,az _,rfl,Below.refl _ _⟩
 case round=>
  obtain⟨k,hk,rfl,hx⟩:=hrel;by_cases hlt:k<F.length
  .have h1:((k:Nat):Int)<((F.length:Nat):Int):=by omega
   obtain⟨bF,cF,aL,cL,aR,cR,he,NI,cl,cr,E9,E8⟩:=hf.at hlt;simp only[Value.slice.injEq]at he;obtain⟨rfl,-,rfl⟩:=he;have hE:=ay hxb hx;have cl':=(hE.cell (lt_of_cell cl)).trans cl;have NV:=(hE.cell (lt_of_cell cr)).trans cr;have dk:F[k]?=some F[k]:=aa hlt;have HW:=aH (hF.good.wf k _ dk);have HA:=aH (hF.good.BP _ (ah hlt));have HK:=aH (HO.out k hlt);have Sc:Ext wr (wr.alloc (.cells #[.slice aL (F[k]).1.length cL,.slice aR (F[k]).2.length cR] 89)):=(by go_grown);have hbW:=heap_alloc_new wr (.cells #[.slice aL (F[k]).1.length cL,.slice aR (F[k]).2.length cR] 89);have HI:=aH (And.intro (E9.ext (ay hE Sc)) (E8.ext (ay hE Sc)));clear cl cr hf dk E9 E8;go_upto_region 6 with fail
   generalize wr.alloc (.cells #[.slice aL (F[k]).1.length cL,.slice aR (F[k]).2.length cR] 89)=W at *;have c0:=cell_of_row W wr.heap.size 0 _ _ _ hbW;have c1:=cell_of_row W wr.heap.size 1 _ _ _ hbW;simp only[gE]at c0 c1
   go_wp2_with (first
    |(go_at_call 110;refine(ug _ (F[k]).2 k _ (HI.out.2.ext hx2) HK.out.2 HA.out.2 HW.out.2).mono ?_;rintro e w3 ⟨rfl,hx3⟩)
    |(go_at_call 110;refine(ug _ (F[k]).1 k _ HI.out.1 HK.out.1 HA.out.1 HW.out.1).mono ?_;rintro e w2 ⟨rfl,hx2⟩;have d1:=(hx2.cell (lt_of_cell c1)).trans c1))
   go_roundw
   case rel=>exact⟨k+1,by omega,by go_num,ay (ay hx Sc) (ay hx2 hx3)⟩
   case measure=>simp[intOf];omega
  .have h1:¬(((k:Nat):Int)<((F.length:Nat):Int)):=by omega
   have hbr:=(hx.cell (lt_of_cell hbx)).trans hbx;have HB:=aH (Mx (.slice aF F.length iJ) F wr (hf.ext (ay hxb hx)) hF.good.wf (by omega));go_upto_region 10 with(go_at_call 111;refine HB.out.mono ?_;rintro e wb ⟨vb,rfl,hob,YN⟩)
   have hE:=ay (ay hxb hx) YN;have hbb:=(YN.cell (lt_of_cell hbr)).trans hbr;obtain⟨ab,cb,rfl,acj,al8⟩:=bD hob;have HFI:=aH hF;clear hbr hbx hx hxb YN HB h1 hk;obtain⟨wz,hwz⟩:∃z,z=wr.heap.size:=⟨_,rfl⟩;rw[<-hwz]at hob;clear hwz;go_wp2
   go_loopw [6,7,8] (λzi _ _ wr=>∃k:Nat,1<=k/\k<=F.length/\zi=.int .i64 ((k:Nat):Int)/\Ext wb wr) (λzi _ _ _=>F.length-(intOf zi).toNat)
   case atStart=>exact⟨1,ai _,l1,by go_num,Below.refl _ _⟩
   case round=>
    obtain⟨k,hk1,hk,rfl,hx⟩:=hrel;have hbr:=(hx.cell (lt_of_cell hbb)).trans hbb;by_cases hlt:k<F.length
    .have h1:((k:Nat):Int)<((F.length:Nat):Int):=by omega
     obtain⟨j,rfl⟩:∃j,k=j+1:=⟨k-1,by omega⟩;have hj:j<F.length:=(by omega);obtain⟨bF,cF,aL,cL,aR,cR,he,NI,cl,cr,E9,E8⟩:=hf.at hj;obtain⟨bF2,PW,Ko,Kn,MG,Mv,he2,Zm,cl2,cr2,aca,ab8⟩:=hf.at hlt;simp only[Value.slice.injEq]at he;obtain⟨rfl,-,rfl⟩:=he;simp only[Value.slice.injEq,bJ,Addr.mk.injEq,and_true,true_and]at he2;obtain⟨rfl,rfl⟩:=he2;have hEr:=ay hE hx;have cl':=(hEr.cell (lt_of_cell cl)).trans cl;have NV:=(hEr.cell (lt_of_cell cr)).trans cr;have JQ:=(hEr.cell (lt_of_cell cl2)).trans cl2;have JJ:=(hEr.cell (lt_of_cell cr2)).trans cr2;have HI:=aH (And.intro (And.intro (E9.ext hEr) (E8.ext hEr)) (And.intro (aca.ext hEr) (ab8.ext hEr)));have hwk:wrap64 ((j:Nat):Int)=((j:Nat):Int):=(by unfold wrap64;omega);have alg:IntKind.i64.wrap ((j:Nat):Int)=((j:Nat):Int):=(Go.IntWalk.i64_left _).trans hwk;have hj0:(0:Int)<=((j:Nat):Int)+1:=(by omega);have hjF:((j:Nat):Int)<(F.length:Int):=(by omega);have HF:=aH hf;clear cl cr cl2 cr2 E9 E8 aca ab8 hf;go_upto_region 13 with fail
     go_cut [7,8] (λx y wc=>∃pa pb,x=.pointer (some ⟨pa,0,none⟩)/\y=.pointer (some ⟨pb,0,none⟩)/\Ext wr wc/\wc.cell? ⟨pa,0,none⟩=some (.slice aL (F[j]).1.length cL)/\wc.cell? ⟨pa,1,none⟩=some (.slice aR (F[j]).2.length cR)/\wc.cell? ⟨pb,0,none⟩=some (.slice Ko (F[j+1]).1.length Kn)/\wc.cell? ⟨pb,1,none⟩=some (.slice MG (F[j+1]).2.length Mv))
     case first=>
      refine bW (λV=>V.cell? ⟨w.heap.size,0,none⟩=some (.slice (some ⟨bF,0,none⟩) F.length iJ)/\V.cell? ⟨bF,j*2,none⟩=some (.slice aL (F[j]).1.length cL)/\V.cell? ⟨bF,j*2+1,none⟩=some (.slice aR (F[j]).2.length cR)/\V.cell? ⟨bF,(j+1)*2,none⟩=some (.slice Ko (F[j+1]).1.length Kn)/\V.cell? ⟨bF,(j+1)*2+1,none⟩=some (.slice MG (F[j+1]).2.length Mv)) [14] Rh (by kernel_rfl) ⟨by kernel_rfl,by kernel_rfl,by kernel_rfl⟩ ⟨hbr,cl',NV,JQ,JJ⟩ (λax ae=>?_);(refine bT 0 ax ae ?_;refine bT 1 ax ae ?_;refine bT 2 ax ae ?_;refine bT 3 ax ae ?_;refine bT 4 ax ae ?_;refine bT 5 ax ae ?_;refine bT 6 ax ae ?_;refine bT 7 ax ae ?_;refine bT 8 ax ae ?_;refine bT 9 ax ae ?_;refine bT 10 ax ae ?_);refine lK ax (i:=11) (j:=12) (by kernel_rfl) ?_ ?_
      ·(refine G8 (i:=11) λK hK=>?_;go_simp)
       (refine hK.out _ _ (λ_=>?_) ?_)
       .exact⟨bI hbr _,bI cl' _,bI NV _,bI JQ _,bI JJ _⟩
       clear hK K;(try simp only[nP]);(refine oZ ax (i:=12) λK hK=>?_;go_simp);(refine hK.out _ _ (λ_=>?_) ?_)
       .exact⟨bI (bI hbr _) _,bI (bI cl' _) _,bI (bI NV _) _,bI (bI JQ _) _,bI (bI JJ _) _⟩
       clear hK K;(try simp only[nP]);(refine oZ ax (i:=13) λK hK=>?_;go_simp);(refine hK.out _ _ (λ_=>?_) ?_)
       .exact⟨bI (bI hbr _) _,bI (bI cl' _) _,bI (bI NV _) _,bI (bI JQ _) _,bI (bI JJ _) _⟩
       clear hK K;(try simp only[nP]);refine ow ax [14] [_] ?_;clear ax ae;go_wp2
       go_meet
       exact⟨wr.heap.size,wr.heap.size+1,rfl,rfl,ay (bK (bK (Below.refl _ _) _) _) (bS ⟨1,rfl⟩),bI (new2_0 wr _ _ _) _,bI (new2_1 wr _ _ _) _,new3_0 wr _ _ _ _,new3_1 wr _ _ _ _⟩
      ·(refine G8 (i:=12) λK hK=>?_;go_simp)
       (refine hK.out _ _ (λ_=>?_) ?_)
       .exact⟨bI hbr _,bI cl' _,bI NV _,bI JQ _,bI JJ _⟩
       clear hK K;(try simp only[nP]);(refine oZ ax (i:=11) λK hK=>?_;go_simp);(refine hK.out _ _ (λ_=>?_) ?_)
       .exact⟨bI (bI hbr _) _,bI (bI cl' _) _,bI (bI NV _) _,bI (bI JQ _) _,bI (bI JJ _) _⟩
       clear hK K;(try simp only[nP]);(refine oZ ax (i:=13) λK hK=>?_;go_simp);(refine hK.out _ _ (λ_=>?_) ?_)
       .exact⟨bI (bI hbr _) _,bI (bI cl' _) _,bI (bI NV _) _,bI (bI JQ _) _,bI (bI JJ _) _⟩
       clear hK K;(try simp only[nP]);refine ow ax [14] [_] ?_;clear ax ae;go_wp2
       go_meet
       exact⟨wr.heap.size+1,wr.heap.size,rfl,rfl,ay (bK (bK (Below.refl _ _) _) _) (bS ⟨1,rfl⟩),new3_0 wr _ _ _ _,new3_1 wr _ _ _ _,bI (new2_0 wr _ _ _) _,bI (new2_1 wr _ _ _) _⟩
     case rest=>
      obtain⟨pa,pb,rfl,rfl,NA,p0,p1,q0,q1⟩:=hcut;have YM:=ay hx NA;obtain⟨gb,cb',e,al7,al6,Zl⟩:=iB hob (by omega);simp only[Value.slice.injEq,true_and]at e;obtain⟨rfl,rfl⟩:=e;have b0:=(Zl j (by omega)).trans (Uv hj);have b1:=(Zl (j+1) (by omega)).trans (Uv hlt);replace b0:=(YM.cell (lt_of_cell b0)).trans b0;replace b1:=(YM.cell (lt_of_cell b1)).trans b1;have HN:=aH (UF hj hlt (HFI.out.sorted j (j+1) (by omega) hlt));have HC:=aH (And.intro (And.intro (HI.out.1.1.ext NA) (HI.out.1.2.ext NA)) (And.intro (HI.out.2.1.ext NA) (HI.out.2.2.ext NA)));have HW1:=aH (HFI.out.good.wf j _ (aa hj));have HW2:=aH (HFI.out.good.wf (j+1) _ (aa hlt));have hs:∀x:Nat,x<j+1->x<900000000:=λx hx=>by omega
      have HS:=aH hs;obtain⟨ba,hba⟩:∃b,b=bz.born (vl F j):=⟨_,rfl⟩;obtain⟨bb,Ea⟩:∃b,b=bz.born (vl F (j+1)):=⟨_,rfl⟩;rw[<-hba]at b0 HN;rw[<-Ea]at b1 HN;clear hba Ea Zl hob cl' NV JQ JJ hs;go_upto_region 14 with fail
      refine bW (λV=>(V.cell? ⟨gb,j,none⟩=some (.int .i64 (ba:Int))/\V.cell? ⟨gb,j+1,none⟩=some (.int .i64 (bb:Int)))/\V.cell? ⟨pa,0,none⟩=some (.slice aL (F[j]).1.length cL)/\V.cell? ⟨pa,1,none⟩=some (.slice aR (F[j]).2.length cR)/\V.cell? ⟨pb,0,none⟩=some (.slice Ko (F[j+1]).1.length Kn)/\V.cell? ⟨pb,1,none⟩=some (.slice MG (F[j+1]).2.length Mv)) [20,21,22] Rf (by kernel_rfl) ⟨by kernel_rfl,by kernel_rfl,by kernel_rfl⟩ ⟨⟨b0,b1⟩,p0,p1,q0,q1⟩ (λax ae=>?_);(refine bT 0 ax ae ?_;refine bT 1 ax ae ?_;refine bT 2 ax ae ?_;refine bT 3 ax ae ?_;refine bT 4 ax ae ?_;refine bT 5 ax ae ?_;refine bT 6 ax ae ?_;refine bT 7 ax ae ?_;refine bT 8 ax ae ?_;refine bT 10 ax ae ?_;refine bT 11 ax ae ?_;refine bT 12 ax ae ?_;refine bT 13 ax ae ?_;refine bT 15 ax ae ?_;refine bT 16 ax ae ?_;refine bT 17 ax ae ?_;refine bT 18 ax ae ?_);(refine oZ ax (i:=9) λK hK=>?_;go_simp);refine(Tryz.cmp_Compare_int _ _ _).mono ?_;rintro e w2 ⟨rfl,hw2⟩;subst hw2;(refine hK.out _ _ (λ_=>?_) ?_)
      .exact ae
      clear hK K;(try simp only[nP]);(refine oZ ax (i:=14) λK hK=>?_;go_simp);refine(l8 _ _ (F[j]).1 (F[j+1]).1 _ (HC.out.1.1.ext (bS ⟨1,rfl⟩)) (HC.out.2.1.ext (bS ⟨1,rfl⟩)) (λx hx=>HS.out x (by have:=HW1.out.1 x hx;omega)) (λx hx=>HS.out x (by have:=HW2.out.1 x hx;omega))).mono ?_;rintro e w2 ⟨rfl,n2,rfl⟩;(refine hK.out _ _ (λ_=>?_) ?_)
      .exact ae
      clear hK K;(try simp only[nP]);(refine oZ ax (i:=19) λK hK=>?_;go_simp);refine(l8 _ _ (F[j]).2 (F[j+1]).2 _ (HC.out.1.2.ext (bS ⟨1+n2,by rw[<-World.drewN_drewN]⟩)) (HC.out.2.2.ext (bS ⟨1+n2,by rw[<-World.drewN_drewN]⟩)) (λx hx=>HS.out x (by have:=HW1.out.2 x hx;omega)) (λx hx=>HS.out x (by have:=HW2.out.2 x hx;omega))).mono ?_;rintro e w3 ⟨rfl,n3,rfl⟩;(refine hK.out _ _ (λ_=>?_) ?_)
      .exact ae
      clear hK K;(try simp only[nP]);refine ow ax [20,21,22] [_,_,_] ?_;clear ax ae;have hneg:¬((0:Int)<=FY (Lib.compareInt (ba:Int) (bb:Int)) (bz.cl (F[j]).1 (F[j+1]).1) (bz.cl (F[j]).2 (F[j+1]).2)):=Int.not_le.2 HN.out;go_wp2_with (go_at_call 112;refine(Mo _ (Lib.compareInt (ba:Int) (bb:Int)) (bz.cl (F[j]).1 (F[j+1]).1) (bz.cl (F[j]).2 (F[j+1]).2) _ (newc_0 _ _ _ _ _) (newc_1 _ _ _ _ _) (newc_2 _ _ _ _ _)).mono ?_;rintro e w5 ⟨rfl,n5,rfl⟩)
      go_roundw
      case rel=>exact⟨j+1+1,by omega,by omega,by go_num,fZ (bK (ay YM (bS ⟨1+n2+n3,by rw[<-World.drewN_drewN,<-World.drewN_drewN]⟩)) _) _⟩
      case measure=>simp[intOf];omega
    .have h1:¬(((k:Nat):Int)<((F.length:Nat):Int)):=by omega
     have hEr:=ay hE hx;have HU:Hid (∀V,Ext w V->Calls prog 116 #[.slice aF F.length iJ,.int .i64 ((F.length:Int)-1)] V (J3 F V)):=λV hV=>by
      have:=QJ (.slice aF F.length iJ) F V (hf.ext hV) hF.good.wf (by omega) (by omega) hF.reach;rw[show((F.length-1:Nat):Int)=(F.length:Int)-1 by omega]at this;exact this
     have HE:=aH hEr;clear hf hF hEr hE hx HFI
     go_wp2_with (first
      |(go_at_call 115;refine(Dk _ F.length _ _ ho2 (by omega)).mono ?_;rintro e w4 ⟨rfl,q,rfl⟩)
      |(go_at_call 116;refine(HU.out _ HE.out).mono ?_;rintro e w3 ⟨v3,rfl,ho2,hx3⟩;have hz3:=ay HE.out hx3))
     go_ret
     exact⟨rfl,fZ hz3 _⟩
end
end Go.Proofs.YteknjeohbcgpdaaGreatDoor