/- 12 -/
import Derived.Test.YtplgooajigigkaaGreatDoorQ11
set_option maxRecDepth 100000
set_option maxHeartbeats 4000000
namespace Go.Proofs.YtplgooajigigkaaGreatDoor
open Tryz
section
open Go.RowKit
open aZ (cZ Nd vl WF)
variable {D:cZ} {root i x k base e g n cap:Nat} {side:Bool} {bs:List Bool} {w:World} {l:List Nat}
theorem Pb:(prog.info? 4).map (λi=>(i.zero,i.size,i.bytes))=some (some (.bool false),1,1):=by kernel_rfl
structure RInv(D:cZ)(root:Nat)(bs:List Bool)(m:Nat):Prop where
 len:bs.length=root+1
 top:bs[root]?=some true
 sound:∀j:Nat,bs[j]?=some true->aZ.Reach D root j
 done:∀i:Nat,m<=i->bs[i]?=some true->∀side x,x∈opt D side i->bs[x]?=some true
theorem vk(h:aZ.Reach D root i)(hx:x∈opt D side i):aZ.Reach D root x:=by
 unfold opt at hx;cases e:D[i]? with
 |none=>rw[e]at hx;simp at hx
 |some nd=>
  rw[e]at hx;cases side
  .exact h.right e (by simpa using hx)
  .exact h.left e (by simpa using hx)
theorem RInv.start(D:cZ)(root:Nat):RInv D root ((List.replicate (root+1) false).set root true) (root+1):=by
 refine⟨by simp,by simp,λj h=>?_,λi hi h=>?_⟩
 .rw[jR]at h
  split at h
  .rename_i e;subst e;exact .here
  .rw[List.getElem?_replicate]at h
   split at h <;> simp at h
 .have h1:i<((List.replicate (root+1) false).set root true).length:=(cK.1 h).1
  simp at h1;omega
theorem RInv.mark(hD:WF D)(h:RInv D root bs (k+1))(hk:bs[k]?=some true)(hx:x∈opt D side k):
 RInv D root (bs.set x true) (k+1)/\(bs.set x true)[k]?=some true/\∀j:Nat,bs[j]?=some true->(bs.set x true)[j]?=some true:=by
 have mono:∀j:Nat,bs[j]?=some true->(bs.set x true)[j]?=some true:=λj hj=>by
  rw[jR];split
  .rename_i e;subst e;simp[(cK.1 hj).1]
  .exact hj
 have hxk:=jU hD hx;refine⟨⟨by simpa using h.len,mono _ h.top,λj hj=>?_,λi hi hm sd y hy=>?_⟩,mono k hk,mono⟩
 .rw[jR]at hj
  split at hj
  .rename_i e;subst e;exact vk (h.sound k hk) hx
  .exact h.sound j hj
 .rw[jR,if_neg (by omega)]at hm
  exact mono _ (h.done i hi hm sd y hy)
theorem RInv.down(h:RInv D root bs (k+1))(hk:bs[k]?=some true->∀side x,x∈opt D side k->bs[x]?=some true):RInv D root bs k:=
 ⟨h.len,h.top,h.sound,λi hi hm=>by
  by_cases e:i=k
  .subst e;exact hk hm
  .exact h.done i (by omega) hm⟩
theorem RInv.all(h:RInv D root bs 0)(j:Nat):bs[j]?=some true↔aZ.Reach D root j:=by
 refine⟨h.sound j,λhr=>?_⟩
 induction hr with
 |here=>exact h.top
 |left _ hd hk ih=>exact h.done _ (az _) ih true _ (by simp[opt,hd];exact hk)
 |right _ hd hk ih=>exact h.done _ (az _) ih false _ (by simp[opt,hd];exact hk)
theorem dK.RF{pb:Nat}{vn vb:Value}(h:dK w pb vn vb D)(hi:i<D.length):
 ∃g cap aL cL aR cR,vn=.slice (some ⟨g,0,none⟩) D.length cap/\∀W,Ext w W->W.cell? ⟨pb,0,none⟩=some (.slice (some ⟨g,0,none⟩) D.length cap)/\W.cell? ⟨g,i*2,none⟩=some (.slice aL (D[i]).1.length cL)/\W.cell? ⟨g,i*2+1,none⟩=some (.slice aR (D[i]).2.length cR)/\
  Ints W (.slice aL (D[i]).1.length cL) (bV (D[i]).1)/\Ints W (.slice aR (D[i]).2.length cR) (bV (D[i]).2):=by
 obtain⟨g,cap,L,R,rfl,h2,h3,h4,h5,h6,h7⟩:=h.qW hi;obtain⟨aL,cL,rfl,-⟩:=id h6;obtain⟨aR,cR,rfl,-⟩:=id h7;rw[aP]at h4 h5 h6 h7;exact⟨g,cap,aL,cL,aR,cR,rfl,λW hW=>⟨(h.ext hW).cell0,dP hW h4,dP hW h5,h6.ext hW,h7.ext hW⟩⟩
theorem pY(h:i<D.length):opt D true i=(D[i]).1:=by simp[opt,h]
theorem nU(h:i<D.length):opt D false i=(D[i]).2:=by simp[opt,h]
theorem Hy{W:World}{aL:Option Addr}{cL:Nat}(h:Ints W (.slice aL l.length cL) (bV l))(hi:i<l.length):∃b off,aL=some ⟨b,off,none⟩/\W.cell? ⟨b,off+i,none⟩=some (.int .i64 ((l[i]:Nat):Int)):=by
 obtain⟨a,c,he,_,_,hc⟩:=h;simp only[gz]at he;obtain⟨rfl,-,rfl⟩:=he;rw[aP]at hc;obtain⟨b,off,rfl,hcell⟩:=hc (by omega);have:=hcell i hi;rw[fD hi]at this;exact⟨b,off,rfl,this⟩
theorem RInv.go(hD:WF D)(hl:opt D side k=l)(h:RInv D root bs (k+1))(hk:bs[k]?=some true)(hi:i<l.length)(hp:∀j (h:j<l.length),j<i->bs[l[j]]?=some true):
 RInv D root (bs.set l[i] true) (k+1)/\(bs.set l[i] true)[k]?=some true/\(∀j:Nat,bs[j]?=some true->(bs.set l[i] true)[j]?=some true)/\(∀j (h:j<l.length),j<i+1->(bs.set l[i] true)[l[j]]?=some true):=by
 have hx:l[i]∈opt D side k:=by rw[hl];exact aj hi
 obtain⟨h1,h2,h3⟩:=h.mark hD hk hx;refine⟨h1,h2,h3,λj hj hji=>?_⟩;by_cases e:j=i
 .subst e
  have hkl:k<bs.length:=(cK.1 hk).1;have:=jU hD hx;rw[jR,if_pos rfl,if_pos (by omega)]
 .exact h3 _ (hp j hj (by omega))
theorem yA(h:w.ownsRow base e 1 (.slice (some ⟨g,0,none⟩) n cap) n (bs.map Value.bool)){b:Bool}(hk:k<n)(hb:bs[k]?=some b):w.cell? ⟨g,k,none⟩=some (.bool b):=by
 rw[h.cellAt k (by omega)];simp[hb]
theorem NH(h:w.ownsRow base e 1 (.slice (some ⟨g,0,none⟩) n cap) n (bs.map Value.bool))(k:Nat)(b:Bool):
 (w.setCell ⟨g,k,none⟩ (.bool b)).ownsRow base e 1 (.slice (some ⟨g,0,none⟩) n cap) n ((bs.set k b).map Value.bool):=by
 have:=(h.stored k (.bool b)).1;rw[uf];exact this
theorem He(pb:Nat)(vn vb:Value)(D:cZ)(root:Nat)(w:World)(hB:dK w pb vn vb D)(hr:root<D.length):
 Calls prog 119 #[.pointer (some ⟨pb,0,none⟩),.int .i64 root] w λe w'=>∃v' bs,e=.returned v'/\RInv D root bs 0/\w'.ownsRow w.heap.size 4 1 v' (root+1) (bs.map Value.bool)/\Ext w w':=by
 have hds:=hB.small;have hD:=aI hB.good.wf;obtain⟨i0,hi,hz0,hz1,hz2⟩:=info_parts Pb;obtain⟨w1,hmk,ho1,hg1⟩:=run_make_full (P:=prog) w w.heap.size 149 4 i0 (.bool false) 1 underlying149 hi hz0 hz1 .i64 .i64 (root+1) (by rw[hz2];omega) (by unfold maxLen;omega) (ax _);rw[show(((root+1:Nat)):Int)=(root:Int)+1 by omega]at hmk;have ho1:w1.ownsRow w.heap.size 4 1 (.slice (some ⟨w.heap.size,0,none⟩) (root+1) (root+1)) (root+1) ((List.replicate (root+1) false).map Value.bool):=by
  rw[jo]at ho1;rw[List.map_replicate,<-toList_madeCells_one];exact ho1
 have c1:=ho1.cellAt root (by omega);have f1:=ho1.frozenAt root;rw[show((List.replicate (root+1) false).map Value.bool)[root]?=some (.bool false) by simp]at c1;have ho2:=ho1.stored root (.bool true);have hw:IntKind.i64.wrap ((root:Int)+1)=(root:Int)+1:=by rw[IntKind.wrap_i64];omega
 go_enter Tryz.func119,Tryz.ntmps119
 go_wp2
 have hB':=aI hB;have hE2:Ext w (w1.setCell ⟨w.heap.size,root,none⟩ (.bool true)):=(dw (fJ _ _) hg1 (by simp)).grown ho2.2 hg1.size (λk hk=>by injection hk with hk;omega);rw[<-uf]at ho2;have hst:=RInv.start D root;obtain⟨ho3,-⟩:=ho2;generalize hW:w1.setCell ⟨w.heap.size,root,none⟩ (.bool true)=W at *;generalize (List.replicate (root+1) false).set root true=bs0 at *;clear hmk ho1 hg1 c1 f1 hW hB;go_loopw [6,7,8] (λkk _ _ wr=>∃m bs,m<=root+1/\kk=.int .i64 ((m:Int)-1)/\wr.ownsRow w.heap.size 4 1 (.slice (some ⟨w.heap.size,0,none⟩) (root+1) (root+1)) (root+1) (bs.map Value.bool)/\RInv D root bs m/\Ext w wr) (λkk _ _ _=>(intOf kk+1).toNat)
 case atStart=>exact⟨root+1,bs0,ax _,by go_num,ho3,hst,hE2⟩
 case round=>
  obtain⟨m,bs,hm,rfl,hown,hinv,hE⟩:=hrel;cases m with
  |zero=>
   go_wp2
   go_ret
   exact⟨_,bs,rfl,hinv,hown,hE⟩
  |succ k=>
   have hk1:((k+1:Nat):Int)-1=(k:Int):=(by omega);rw[hk1];have hkr:k<root+1:=(by omega);obtain⟨bv,hbk⟩:∃b,bs[k]?=some b:=⟨_,ae (by rw[hinv.len];omega)⟩;have hck:=yA hown hkr hbk;have HV:=aI hinv;have HE:=aI hE;have HO:=aI hown;have hkm:IntKind.i64.wrap ((k:Int)-1)=(k:Int)-1:=(by rw[IntKind.wrap_i64];omega);clear hinv hE hown hst ho3;cases bv with
   |false=>
    go_wp2
    go_roundw
    case rel=>exact⟨k,bs,by omega,by go_num,HO.out,HV.out.down (λh=>by rw[hbk]at h;cases h),HE.out⟩
    case measure=>simp[intOf]
   |true=>
    have Qe:k<D.length:=(by omega);obtain⟨gn,cn,aL,cL,aR,cR,rfl,hN⟩:=hB'.out.RF Qe
    have hX:Hid (∀W,Ext w W->W.cell? ⟨pb,0,none⟩=some (.slice (some ⟨gn,0,none⟩) D.length cn)/\W.cell? ⟨gn,k*2,none⟩=some (.slice aL (D[k]).1.length cL)/\W.cell? ⟨gn,k*2+1,none⟩=some (.slice aR (D[k]).2.length cR)/\
     Ints W (.slice aL (D[k]).1.length cL) (bV (D[k]).1)/\Ints W (.slice aR (D[k]).2.length cR) (bV (D[k]).2)):=hN
    clear hN;go_wp2
    have Vz:(D[k]).1.length<=1152921504606846976:=(by have:=(hX.out w (fJ _ _)).2.2.2.1;obtain⟨_,_,_,_,h,_⟩:=this;rw[aP]at h;exact h);have hRl:(D[k]).2.length<=1152921504606846976:=(by have:=(hX.out w (fJ _ _)).2.2.2.2;obtain⟨_,_,_,_,h,_⟩:=this;rw[aP]at h;exact h);go_loopw [7] (λii wr=>∃i bs,i<=(D[k]).1.length/\ii=.int .i64 (i:Int)/\wr.ownsRow w.heap.size 4 1 (.slice (some ⟨w.heap.size,0,none⟩) (root+1) (root+1)) (root+1) (bs.map Value.bool)/\RInv D root bs (k+1)/\bs[k]?=some true/\Hid (∀j (h:j<(D[k]).1.length),j<i->bs[(D[k]).1[j]]?=some true)/\Ext w wr) (λii _=>(D[k]).1.length-(intOf ii).toNat)
    case atStart=>exact⟨0,bs,az _,rfl,HO.out,HV.out,hbk,λj _ h=>absurd h (by omega),HE.out⟩
    case round=>
     clear HO HV HE hck hbk;obtain⟨i,bs,hi,rfl,hown,hinv,hbk,HP,hE⟩:=hrel;obtain⟨x0,x1,x2,x3,x4⟩:=hX.out _ hE;have HV:=aI hinv;have HE:=aI hE;have HO:=aI hown;by_cases hlt:i<(D[k]).1.length
     .obtain⟨b,off,rfl,hci⟩:=Hy x3 hlt
      obtain⟨v1,v2,v3,v4⟩:=RInv.go hD.out (pY Qe) hinv hbk hlt HP.out;have hxl:(D[k]).1[i]<root+1:=(by have:=jU hD.out (show(D[k]).1[i]∈opt D true k by rw[pY Qe];exact aj hlt);omega);obtain⟨bx,hbx⟩:∃b,bs[(D[k]).1[i]]?=some b:=⟨_,ae (by rw[hinv.len];omega)⟩;have hcx:=yA hown hxl hbx;have hfx:=hown.frozenAt ((D[k]).1[i]);have V:=aI v1;have V3:=aI v3;have V4:=aI v4;clear hinv hE hown v1 v3 v4 x3 x4;generalize hx:(D[k]).1[i]=x at *;go_wp2
      go_roundw
      case rel=>exact⟨i+1,bs.set x true,by omega,by go_num,NH HO.out _ _,V.out,v2,λj hj hji=>V4.out j hj hji,HE.out.grown (HO.out.stored x (.bool true)).2 HE.out.size (λk hk=>by injection hk with hk;omega)⟩
      case measure=>simp[intOf];omega
     .have hil:i=(D[k]).1.length:=by omega
      subst hil;clear hinv hE hown;go_wp2
      have HPL:Hid (∀x,x∈opt D true k->bs[x]?=some true):=λx hx=>by
       rw[pY Qe]at hx;obtain⟨j,hj,rfl⟩:=aH.1 hx;exact HP.out j hj hj
      go_loopw [8] (λii wr=>∃i bs,i<=(D[k]).2.length/\ii=.int .i64 (i:Int)/\wr.ownsRow w.heap.size 4 1 (.slice (some ⟨w.heap.size,0,none⟩) (root+1) (root+1)) (root+1) (bs.map Value.bool)/\RInv D root bs (k+1)/\bs[k]?=some true/\Hid (∀j (h:j<(D[k]).2.length),j<i->bs[(D[k]).2[j]]?=some true)/\Hid (∀x,x∈opt D true k->bs[x]?=some true)/\Ext w wr) (λii _=>(D[k]).2.length-(intOf ii).toNat)
      case atStart=>exact⟨0,bs,az _,rfl,HO.out,HV.out,hbk,λj _ h=>absurd h (by omega),HPL,HE.out⟩
      case round=>
       clear HO HV HE hbk HP HPL x0 x1 x2 x3 x4;obtain⟨i,bs,hi,rfl,hown,hinv,hbk,HP,HPL,hE⟩:=hrel;obtain⟨x0,x1,x2,x3,x4⟩:=hX.out _ hE;have HV:=aI hinv;have HE:=aI hE;have HO:=aI hown;by_cases hlt:i<(D[k]).2.length
       .obtain⟨b,off,rfl,hci⟩:=Hy x4 hlt
        obtain⟨v1,v2,v3,v4⟩:=RInv.go hD.out (nU Qe) hinv hbk hlt HP.out;have hxl:(D[k]).2[i]<root+1:=(by have:=jU hD.out (show(D[k]).2[i]∈opt D false k by rw[nU Qe];exact aj hlt);omega);obtain⟨bx,hbx⟩:∃b,bs[(D[k]).2[i]]?=some b:=⟨_,ae (by rw[hinv.len];omega)⟩;have hcx:=yA hown hxl hbx;have hfx:=hown.frozenAt ((D[k]).2[i]);have V:=aI v1;have V3:=aI v3;have V4:=aI v4;clear hinv hE hown v1 v3 v4 x3 x4;generalize hx:(D[k]).2[i]=x at *;go_wp2
        go_roundw
        case rel=>exact⟨i+1,bs.set x true,by omega,by go_num,NH HO.out _ _,V.out,v2,λj hj hji=>V4.out j hj hji,λy hy=>V3.out y (HPL.out y hy),HE.out.grown (HO.out.stored x (.bool true)).2 HE.out.size (λk hk=>by injection hk with hk;omega)⟩
        case measure=>simp[intOf];omega
       .have hil:i=(D[k]).2.length:=by omega
        subst hil;clear hinv hE hown;go_wp2
        go_roundw
        case rel=>exact⟨k,bs,by omega,by go_num,HO.out,HV.out.down (λ_ side x hx=>by
         cases side
         .rw[nU Qe]at hx
          obtain⟨j,hj,rfl⟩:=aH.1 hx;exact HP.out j hj hj
         .exact HPL.out x hx),HE.out⟩
        case measure=>simp[intOf]
end
section
open aZ
variable {D F:cZ} {side:Bool} {i x j root b k m:Nat} {idx at_ from_ at2:List Nat}
def Xn(D:cZ)(at_:List Nat)(k:Nat):Nd:=(aS ((opt D true k).map λx=>at_.getD x 0),aS ((opt D false k).map λx=>at_.getD x 0))
structure mU(D:cZ)(root:Nat)(F:cZ)(idx at_:List Nat)(b:Nat):Prop where
 len:idx.length=F.length
 atl:at_.length=root+1
 nd:idx.Nodup
 mem:∀j,j∈idx↔aZ.Reach D root j/\born (vl D j)<b
 place:∀i (h:i<idx.length),at_[idx[i]]?=some i
 node:∀i (h:i<idx.length),F[i]?=some (Xn D at_ idx[i])
 sorted:idx.Pairwise (λj k=>born (vl D j)<born (vl D k)\/born (vl D j)=born (vl D k)/\nc (Xn D at_ j) (Xn D at_ k)<0)
theorem mZ(hD:WF D)(h:x∈opt D side i):born (vl D x)<born (vl D i):=by
 cases side
 .exact FU (DR hD h)
 .exact FV (DT hD h)
theorem Bc(hD:WF D)(h:aZ.Reach D i j):j=i\/born (vl D j)<born (vl D i):=by
 induction h with
 |here=>exact .inl rfl
 | @left j k nd _ hd hk ih=>
  have:=mZ hD (show k∈opt D true j by simp[opt,hd];exact hk);rcases ih with rfl|h
  .exact .inr this
  .exact .inr (by omega)
 | @right j k nd _ hd hk ih=>
  have:=mZ hD (show k∈opt D false j by simp[opt,hd];exact hk);rcases ih with rfl|h
  .exact .inr this
  .exact .inr (by omega)
theorem mU.pos(hD:WF D)(h:mU D root F idx at_ b)(hj:aZ.Reach D root j)(hb:born (vl D j)<=b)(hx:x∈opt D side j):
 ∃p,∃hp:p<idx.length,idx[p]=x/\at_.getD x 0=p:=by
 have hx1:=mZ hD hx;obtain⟨p,hp,e⟩:=aH.1 ((h.mem x).2 ⟨vk hj hx,by omega⟩);refine⟨p,hp,e,?_⟩;have:=h.place p hp;rw[e]at this;rw[aO,this];rfl
theorem oq{y:Nat}:(y∈(Xn D at_ k).1↔∃x,x∈opt D true k/\at_.getD x 0=y)/\(y∈(Xn D at_ k).2↔∃x,x∈opt D false k/\at_.getD x 0=y):=by
 unfold Xn;simp[bU]
theorem mU.inj(g:aZ.Good D)(h:mU D root F idx at_ b)(hj:aZ.Reach D root j)(hjb:born (vl D j)<=b)(hk:aZ.Reach D root k)(hkb:born (vl D k)<=b)(hjD:j<D.length)(Qe:k<D.length)
 (e:Xn D at_ j=Xn D at_ k):j=k:=by
 have key:∀{j k:Nat},aZ.Reach D root j->born (vl D j)<=b->aZ.Reach D root k->born (vl D k)<=b->Xn D at_ j=Xn D at_ k->∀side x,x∈opt D side j->x∈opt D side k:=by
  intro j k hj hjb hk hkb e side x hx;obtain⟨p,hp,e1,e2⟩:=h.pos g.wf hj hjb hx;have hm:∃z,z∈opt D side k/\at_.getD z 0=p:=by
   cases side
   .have:p∈(Xn D at_ j).2:=oq.2.2 ⟨x,hx,e2⟩
    rw[e]at this;exact oq.2.1 this
   .have:p∈(Xn D at_ j).1:=oq.1.2 ⟨x,hx,e2⟩
    rw[e]at this;exact oq.1.1 this
  obtain⟨z,hz,ez⟩:=hm;obtain⟨q,hq,e3,e4⟩:=h.pos g.wf hk hkb hz;have:q=p:=by rw[<-e4,ez]
  subst this;rw[<-e1,e3];exact hz
 have s1:=key hj hjb hk hkb e;have s2:=key hk hkb hj hjb e.symm;refine ma g j k hjD Qe ?_;have dj:D[j]?=some D[j]:=ae hjD;have dk:D[k]?=some D[k]:=ae Qe;rw[mK g.wf dj,mK g.wf dk];rw[<-pY hjD,<-pY Qe,<-nU hjD,<-nU Qe];refine yP (λy=>?_) (λy=>?_)
 .simp only[ay]
  exact⟨λ⟨x,hx,e⟩=>⟨x,s1 true x hx,e⟩,λ⟨x,hx,e⟩=>⟨x,s2 true x hx,e⟩⟩
 .simp only[ay]
  exact⟨λ⟨x,hx,e⟩=>⟨x,s1 false x hx,e⟩,λ⟨x,hx,e⟩=>⟨x,s2 false x hx,e⟩⟩
structure vX(D:cZ)(root:Nat)(at_:List Nat)(b:Nat)(from_:List Nat)(m:Nat):Prop where
 mem:∀j,j∈from_↔j<m/\aZ.Reach D root j/\born (vl D j)=b
 sorted:from_.Pairwise (λj k=>nc (Xn D at_ j) (Xn D at_ k)<0)
theorem vX.start(D:cZ)(root:Nat)(at_:List Nat)(b:Nat):vX D root at_ b [] 0:=⟨by simp,List.Pairwise.nil⟩
theorem vX.skip(h:vX D root at_ b from_ m)(hn:¬(aZ.Reach D root m/\born (vl D m)=b)):vX D root at_ b from_ (m+1):=by
 refine⟨λj=>?_,h.sorted⟩;rw[h.mem];constructor
 .rintro⟨a,c⟩;exact⟨by omega,c⟩
 .rintro⟨a,c⟩
  refine⟨?_,c⟩;rcases fe j m with h1|h1
  .exact h1
  .have:j=m:=by omega
   subst this;exact absurd c hn
theorem vX.nd(h:vX D root at_ b from_ m):from_.Nodup:=h.sorted.imp (λ{a c} h e=>by subst e;rw[AA]at h;omega)
theorem vX.put(g:aZ.Good D)(hF:mU D root F idx at_ b)(hr:root<D.length)(h:vX D root at_ b from_ m)(hm:aZ.Reach D root m)(hb:born (vl D m)=b)
 (hi:i<=from_.length) (h1:∀j (hj:j<from_.length),j<i->nc (Xn D at_ from_[j]) (Xn D at_ m)<0) (h2:∀hl:i<from_.length,¬nc (Xn D at_ from_[i]) (Xn D at_ m)<0):
 vX D root at_ b (from_.take i++m :: from_.drop i) (m+1):=by
 have hlt:∀j,aZ.Reach D root j->j<D.length:=λj hj=>by have:=mf g.wf hj;omega
 refine⟨λj=>?_,?_⟩
 .have e:j∈from_.take i++m :: from_.drop i↔j=m\/j∈from_:=by
   conv=>rhs;rw[<-jw i from_]
   simp only[aM,dZ];constructor <;> (intro h;rcases h with h|h|h <;> simp[h])
  rw[e,h.mem];constructor
  .rintro(rfl|⟨a,c⟩)
   .exact⟨by omega,hm,hb⟩
   .exact⟨by omega,c⟩
  .rintro⟨a,c⟩
   rcases fe j m with h1|h1
   .exact .inr ⟨h1,c⟩
   .exact .inl (by omega)
 .have hs:=h.sorted
  have hA:∀x,x∈from_.take i->nc (Xn D at_ x) (Xn D at_ m)<0:=λx hx=>by
   obtain⟨j,hj,rfl⟩:=aH.1 hx;rw[gZ]at hj;rw[List.getElem_take];exact h1 j (by omega) (by omega)
  have hB:∀x,x∈from_.drop i->nc (Xn D at_ m) (Xn D at_ x)<0:=λx hx=>by
   obtain⟨j,hj,rfl⟩:=aH.1 hx;rw[ug]at hj;rw[List.getElem_drop];have hil:i<from_.length:=(by omega);have h3:=h2 hil;have hmem:=(h.mem from_[i]).1 (aj hil);have hne:nc (Xn D at_ from_[i]) (Xn D at_ m)≠0:=λe0=>by
    have:=hF.inj g hmem.2.1 (by omega) hm (by omega) (hlt _ hmem.2.1) (hlt _ hm) (xQ e0);omega
   have h4:nc (Xn D at_ m) (Xn D at_ from_[i])<0:=(by rw[yZ];omega);by_cases e:j=0
   .subst e;exact h4
   .exact qY h4 (bP.1 hs i (i+j) hil (by omega) (by omega))
  rw[rM];refine⟨hs.sublist (List.take_sublist _ _),?_,λa ha c hc=>?_⟩
  .rw[mE];exact⟨hB,hs.sublist (List.drop_sublist _ _)⟩
  .rcases dZ.1 hc with rfl|hc
   .exact hA a ha
   .exact qY (hA a ha) (hB c hc)
theorem Qu{at1:List Nat}(h:∀side x,x∈opt D side k->at1[x]?=at2[x]?):Xn D at1 k=Xn D at2 k:=by
 unfold Xn;have e:∀side,(opt D side k).map (λx=>at1.getD x 0)=(opt D side k).map (λx=>at2.getD x 0):=λside=>bE λx hx=>by
  rw[aO,aO,h side x hx]
 rw[e true,e false]
theorem mU.next(g:aZ.Good D)(h:mU D root F idx at_ b)(hL:vX D root at_ b from_ (root+1))(hl:at2.length=root+1)
 (p1:∀j (hj:j<from_.length),at2[from_[j]]?=some (F.length+j)) (p2:∀y,y ∉ from_->at2[y]?=at_[y]?):mU D root (F++from_.map (Xn D at_)) (idx++from_) at2 (b+1):=by
 have hx:∀j,born (vl D j)<=b->Xn D at2 j=Xn D at_ j:=λj hj=>Qu λside x hx=>p2 x λhm=>by
  have h1:=((hL.mem x).1 hm).2.2;have h2:=mZ g.wf hx;omega
 have hi:∀j,j∈idx->born (vl D j)<b:=λj hj=>((h.mem j).1 hj).2
 have hf:∀j,j∈from_->born (vl D j)=b:=λj hj=>((hL.mem j).1 hj).2.2
 have hd:∀j,j∈idx->j ∉ from_:=λj h1 h2=>by have:=hi j h1;have:=hf j h2;omega
 refine⟨by simp[h.len],hl,?_,λj=>?_,λi hlt=>?_,λi hlt=>?_,?_⟩
 .rw[jq]
  exact⟨h.nd,hL.nd,λa ha c hc e=>by subst e;exact hd a ha hc⟩
 .rw[aM,h.mem,hL.mem]
  constructor
  .rintro(⟨a,c⟩|⟨a,c,d⟩)
   .exact⟨a,by omega⟩
   .exact⟨c,by omega⟩
  .rintro⟨a,c⟩
   by_cases e:born (vl D j)<b
   .exact .inl ⟨a,e⟩
   .exact .inr ⟨by have:=mf g.wf a;omega,a,by omega⟩
 .by_cases c:i<idx.length
  .rw[dN c,p2 _ (hd _ (aj c))];exact h.place i c
  .rw[fO (by omega)]
   rw[p1 _ (by simp at hlt;omega),<-h.len];congr 1;omega
 .by_cases c:i<idx.length
  .rw[dN c,bQ (by rw[<-h.len];exact c),hx _ (by have:=hi _ (aj c);omega)]
   exact h.node i c
  .rw[fO (by omega),dC (by rw[<-h.len];omega)]
   have hl2:i-idx.length<from_.length:=(by simp at hlt;omega);rw[hx _ (kQ (hf _ (aj hl2)))];rw[<-h.len];simp[hl2]
 .rw[rM]
  refine⟨?_,?_,λa ha c hc=>?_⟩
  .refine fu ?_ h.sorted
   intro a c ha hc hac;rw[hx a (by have:=hi a ha;omega),hx c (by have:=hi c hc;omega)];exact hac
  .refine fu ?_ hL.sorted
   intro a c ha hc hac;rw[hx a (kQ (hf a ha)),hx c (kQ (hf c hc))];exact .inr ⟨by rw[hf a ha,hf c hc],hac⟩
  .exact .inl (by have:=hi a ha;have:=hf c hc;omega)
theorem mU.start(D:cZ)(root:Nat):mU D root [] [] (List.replicate (root+1) 0) 0:=
 ⟨rfl,by simp,List.nodup_nil,by simp,by simp,by simp,List.Pairwise.nil⟩
theorem mU.wf{D:cZ}(g:aZ.Good D){root b:Nat}{F:cZ}{idx at_:List Nat}(h:mU D root F idx at_ b):WF F:=by
 intro i nd hi;have hlt:i<idx.length:=by rw[h.len];exact(cK.1 hi).1
 have hn:=h.node i hlt;rw[hi]at hn;injection hn with hn;have hm:=(h.mem _).1 (aj hlt);have key:∀side x,x∈opt D side idx[i]->at_.getD x 0<i:=λside x hx=>by
  obtain⟨p,hp,e1,e2⟩:=h.pos g.wf hm.1 (by omega) hx;rw[e2];have hb:=mZ g.wf hx;rcases Nat.lt_trichotomy p i with c|c|c
  .exact c
  .subst c;rw[e1]at hb;omega
  .have:=bP.1 h.sorted i p hlt hp c
   rw[e1]at this;omega
 subst hn;exact⟨λk hk=>by obtain⟨x,hx,rfl⟩:=oq.1.1 hk;exact key true x hx,λk hk=>by obtain⟨x,hx,rfl⟩:=oq.2.1 hk;exact key false x hx⟩
theorem mU.same(g:aZ.Good D)(hr:root<D.length)(h:mU D root F idx at_ b):∀i (hi:i<idx.length),Same (vl F i) (vl D idx[i]):=by
 intro i
 induction i using Nat.strongRecOn with
 |_ i ih=>
  intro hi;have hm:=(h.mem _).1 (aj hi);have hD:idx[i]<D.length:=by have:=mf g.wf hm.1;omega
  have dj:D[idx[i]]?=some D[idx[i]]:=ae hD;have hw:=h.wf g;have hn:=h.node i hi;rw[same_iff,oN hw hn,oK hw hn,oN g.wf dj,oK g.wf dj,<-pY hD,<-nU hD];have key:∀side x,x∈opt D side idx[i]->at_.getD x 0<i->Same (vl F (at_.getD x 0)) (vl D x):=λside x hx hlt=>by
   obtain⟨p,hp,e1,e2⟩:=h.pos g.wf hm.1 (by omega) hx;rw[e2]at hlt ⊢;have:=ih p hlt hp;rw[e1]at this;exact this
  have lt1:∀x,x∈opt D true idx[i]->at_.getD x 0<i:=λx hx=>(hw i _ hn).1 _ (oq.1.2 ⟨x,hx,rfl⟩)
  have KI:∀x,x∈opt D false idx[i]->at_.getD x 0<i:=λx hx=>(hw i _ hn).2 _ (oq.2.2 ⟨x,hx,rfl⟩)
  refine⟨λy hy=>?_,λy hy=>?_,λy hy=>?_,λy hy=>?_⟩
  .obtain⟨k,hk,rfl⟩:=ay.1 hy
   obtain⟨x,hx,rfl⟩:=oq.1.1 hk;exact⟨_,bD hx,key true x hx (lt1 x hx)⟩
  .obtain⟨x,hx,rfl⟩:=ay.1 hy
   exact⟨_,bD (oq.1.2 ⟨x,hx,rfl⟩),key true x hx (lt1 x hx)⟩
  .obtain⟨k,hk,rfl⟩:=ay.1 hy
   obtain⟨x,hx,rfl⟩:=oq.2.1 hk;exact⟨_,bD hx,key false x hx (KI x hx)⟩
  .obtain⟨x,hx,rfl⟩:=ay.1 hy
   exact⟨_,bD (oq.2.2 ⟨x,hx,rfl⟩),key false x hx (KI x hx)⟩
theorem mU.ahead(g:aZ.Good D)(hr:root<D.length)(h:mU D root F idx at_ b):∀i j,i<j->j<F.length->Ahead F i j:=by
 intro i j hij hj;have hj':j<idx.length:=by rw[h.len];exact hj
 have hi':i<idx.length:=by omega
 have hs:=bP.1 h.sorted i j hi' hj' hij;have e1:=kT (h.same g hr i hi');have e2:=kT (h.same g hr j hj');have n1:F.getD i ([],[])=Xn D at_ idx[i]:=by rw[aO,h.node i hi'];rfl
 have n2:F.getD j ([],[])=Xn D at_ idx[j]:=by rw[aO,h.node j hj'];rfl
 unfold Ahead;rw[e1,e2,n1,n2];exact hs
theorem mU.good(g:aZ.Good D)(hr:root<D.length)(h:mU D root F idx at_ b):aZ.Good F:=by
 refine⟨h.wf g,?_,?_⟩
 .intro nd hnd
  obtain⟨i,hi0,e⟩:=aH.1 hnd;have hi:F[i]?=some nd:=by rw[ae hi0,e]
  have hlt:i<idx.length:=by rw[h.len];exact hi0
  have hn:=h.node i hlt;rw[hi]at hn;injection hn with hn;subst hn;exact⟨iP _,iP _⟩
 .rw[List.Nodup,bP]
  intro i j hi hj hij e;have ha:=h.ahead g hr i j hij hj;have hw:=h.wf g;have v:vl F i=vl F j:=by
   rw[mK hw (ae hi),mK hw (ae hj),e]
  unfold Ahead at ha;rw[v,mD hi,mD hj,e,AA]at ha;omega
theorem mU.last(g:aZ.Good D)(hr:root<D.length)(h:mU D root F idx at_ (born (vl D root)+1)):eD F/\Same (eQ F) (vl D root):=by
 have hm:root∈idx:=(h.mem root).2 ⟨.here,by omega⟩;obtain⟨p,hp,e⟩:=aH.1 hm;have hpl:p=F.length-1:=by
  rcases fe p (F.length-1)with c|c
  .have hq:F.length-1<idx.length:=by rw[h.len];omega
   have hs:=bP.1 h.sorted p (F.length-1) hp hq c;have hm2:=(h.mem _).1 (aj hq);rw[e]at hs;rcases Bc g.wf hm2.1 with e2|lt
   .have:=yX h.nd hp hq (by rw[e,e2]);omega
   .omega
  .have:=h.len;omega
 have hlen:=h.len;have hF:0<F.length:=by omega
 have hs:=h.same g hr p hp;rw[e,hpl]at hs;refine⟨⟨h.good g hr,List.ne_nil_of_length_pos hF,h.ahead g hr,λi hi=>?_⟩,hs⟩;have hi':i<idx.length:=by omega
 have hri:=((h.mem _).1 (aj hi')).1;obtain⟨c,hc,rc,sc⟩:=rT g (h.good g hr) (a:=F.length-1) (by omega) (iF hs) hri;have:i=c:=ma (h.good g hr) i c hi hc (fE (h.same g hr i hi') sc);rw[this];exact rc
end
