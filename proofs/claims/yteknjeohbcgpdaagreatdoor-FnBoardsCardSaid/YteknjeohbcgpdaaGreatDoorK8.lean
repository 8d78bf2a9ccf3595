/-
  Plain law: stage by stage, each stage in order, the nodes met from a root are laid out as the form of its game. (2 texts.)
-/
import Derived.Test.YteknjeohbcgpdaaGreatDoorK7
set_option maxRecDepth 100000
namespace Go.Proofs.YteknjeohbcgpdaaGreatDoor
open Tryz
section
open Go.RowKit
open bO (dH Nd vl WF)
variable {D:dH} {root i x k base e g n cap:Nat} {side:Bool} {bs:List Bool} {w:World} {l:List Nat}
theorem QK:(prog.info? 4).map (λi=>(i.zero,i.size,i.bytes))=some (some (.bool false),1,1):=by kernel_rfl
structure RInv(D:dH)(root:Nat)(bs:List Bool)(m:Nat):Prop where
 len:bs.length=root+1
 top:bs[root]?=some true
 sound:∀j:Nat,bs[j]?=some true->bO.Reach D root j
 done:∀i:Nat,m<=i->bs[i]?=some true->∀side x,x∈opt D side i->bs[x]?=some true
theorem wP(h:bO.Reach D root i)(hx:x∈opt D side i):bO.Reach D root x:=by
 unfold opt at hx;cases e:D[i]? with
 |none=>rw[e]at hx;simp at hx
 |some nd=>
  rw[e]at hx;cases side
  .exact h.right e (by simpa using hx)
  .exact h.left e (by simpa using hx)
theorem RInv.start(D:dH)(root:Nat):RInv D root ((List.replicate (root+1) false).set root true) (root+1):=by
 refine⟨by simp,by simp,λj h=>?_,λi hi h=>?_⟩
 .rw[eX]at h
  split at h
  .rename_i e;subst e;exact .here
  .rw[List.getElem?_replicate]at h
   split at h <;> simp at h
 .have h1:i<((List.replicate (root+1) false).set root true).length:=(cK.1 h).1
  simp at h1;omega
theorem RInv.mark(hD:WF D)(h:RInv D root bs (k+1))(hk:bs[k]?=some true)(hx:x∈opt D side k):
 RInv D root (bs.set x true) (k+1)/\(bs.set x true)[k]?=some true/\∀j:Nat,bs[j]?=some true->(bs.set x true)[j]?=some true:=by
 have mono:∀j:Nat,bs[j]?=some true->(bs.set x true)[j]?=some true:=λj hj=>by
  rw[eX];split
  .rename_i e;subst e;simp[(cK.1 hj).1]
  .exact hj
 have hxk:=ku hD hx;refine⟨⟨by simpa using h.len,mono _ h.top,λj hj=>?_,λi hi hm sd y hy=>?_⟩,mono k hk,mono⟩
 .rw[eX]at hj
  split at hj
  .rename_i e;subst e;exact wP (h.sound k hk) hx
  .exact h.sound j hj
 .rw[eX,if_neg (by omega)]at hm
  exact mono _ (h.done i hi hm sd y hy)
theorem RInv.down(h:RInv D root bs (k+1))(hk:bs[k]?=some true->∀side x,x∈opt D side k->bs[x]?=some true):RInv D root bs k:=
 ⟨h.len,h.top,h.sound,λi hi hm=>by
  by_cases e:i=k
  .subst e;exact hk hm
  .exact h.done i (by omega) hm⟩
theorem RInv.all(h:RInv D root bs 0)(j:Nat):bs[j]?=some true↔bO.Reach D root j:=by
 refine⟨h.sound j,λhr=>?_⟩
 induction hr with
 |here=>exact h.top
 |left _ hd hk ih=>exact h.done _ (aJ _) ih true _ (by simp[opt,hd];exact hk)
 |right _ hd hk ih=>exact h.done _ (aJ _) ih false _ (by simp[opt,hd];exact hk)
theorem eH.Ub{pb:Nat}{vn vb:Value}(h:eH w pb vn vb D)(hi:i<D.length):
 ∃g cap aL cL aR cR,vn=.slice (some ⟨g,0,none⟩) D.length cap/\∀W,Ext w W->W.cell? ⟨pb,0,none⟩=some (.slice (some ⟨g,0,none⟩) D.length cap)/\W.cell? ⟨g,i*2,none⟩=some (.slice aL (D[i]).1.length cL)/\W.cell? ⟨g,i*2+1,none⟩=some (.slice aR (D[i]).2.length cR)/\
  Ints W (.slice aL (D[i]).1.length cL) (dD (D[i]).1)/\Ints W (.slice aR (D[i]).2.length cR) (dD (D[i]).2):=by
 obtain⟨g,cap,L,R,rfl,h2,h3,h4,h5,h6,h7⟩:=h.rY hi;obtain⟨aL,cL,rfl,-⟩:=id h6;obtain⟨aR,cR,rfl,-⟩:=id h7;rw[bJ]at h4 h5 h6 h7;exact⟨g,cap,aL,cL,aR,cR,rfl,λW hW=>⟨(h.ext hW).cell0,(hW.cell (lt_of_cell h4)).trans h4,(hW.cell (lt_of_cell h5)).trans h5,h6.ext hW,h7.ext hW⟩⟩
theorem oV(h:i<D.length):opt D true i=(D[i]).1:=by simp[opt,h]
theorem nJ(h:i<D.length):opt D false i=(D[i]).2:=by simp[opt,h]
theorem JJ{W:World}{aL:Option Addr}{cL:Nat}(h:Ints W (.slice aL l.length cL) (dD l))(hi:i<l.length):∃b off,aL=some ⟨b,off,none⟩/\W.cell? ⟨b,off+i,none⟩=some (.int .i64 ((l[i]:Nat):Int)):=by
 obtain⟨a,c,he,_,_,hc⟩:=h;simp only[Value.slice.injEq]at he;obtain⟨rfl,-,rfl⟩:=he;rw[bJ]at hc;obtain⟨b,off,rfl,hcell⟩:=hc (by omega);have:=hcell i hi;rw[gy hi]at this;exact⟨b,off,rfl,this⟩
theorem RInv.go(hD:WF D)(hl:opt D side k=l)(h:RInv D root bs (k+1))(hk:bs[k]?=some true)(hi:i<l.length)(hp:∀j (h:j<l.length),j<i->bs[l[j]]?=some true):
 RInv D root (bs.set l[i] true) (k+1)/\(bs.set l[i] true)[k]?=some true/\(∀j:Nat,bs[j]?=some true->(bs.set l[i] true)[j]?=some true)/\(∀j (h:j<l.length),j<i+1->(bs.set l[i] true)[l[j]]?=some true):=by
 have hx:l[i]∈opt D side k:=by rw[hl];exact ai hi
 obtain⟨h1,h2,h3⟩:=h.mark hD hk hx;refine⟨h1,h2,h3,λj hj hji=>?_⟩;by_cases e:j=i
 .subst e
  have hkl:k<bs.length:=(cK.1 hk).1;have:=ku hD hx;rw[eX,if_pos rfl,if_pos (by omega)]
 .exact h3 _ (hp j hj (by omega))
theorem zZ(h:w.ownsRow base e 1 (.slice (some ⟨g,0,none⟩) n cap) n (bs.map Value.bool)){b:Bool}(hk:k<n)(hb:bs[k]?=some b):w.cell? ⟨g,k,none⟩=some (.bool b):=by
 rw[h.cellAt k (by omega)];simp[hb]
theorem Pz(h:w.ownsRow base e 1 (.slice (some ⟨g,0,none⟩) n cap) n (bs.map Value.bool))(k:Nat)(b:Bool):
 (w.setCell ⟨g,k,none⟩ (.bool b)).ownsRow base e 1 (.slice (some ⟨g,0,none⟩) n cap) n ((bs.set k b).map Value.bool):=by
 have:=(h.stored k (.bool b)).1;rw[oq];exact this
set_option maxHeartbeats 2000000 in
theorem Jw(pb:Nat)(vn vb:Value)(D:dH)(root:Nat)(w:World)(hB:eH w pb vn vb D)(hr:root<D.length):
 Calls prog 177 #[.pointer (some ⟨pb,0,none⟩),.int .i64 root] w λe w'=>∃v' bs,e=.returned v'/\RInv D root bs 0/\w'.ownsRow w.heap.size 4 1 v' (root+1) (bs.map Value.bool)/\Ext w w':=by
 have hds:=hB.small;have hD:=aQ hB.good.wf;obtain⟨i0,hi,hz0,hz1,hz2⟩:=info_parts QK;obtain⟨w1,hmk,ho1,hg1⟩:=run_make_full (P:=prog) w w.heap.size 106 4 i0 (.bool false) 1 underlying106 hi hz0 hz1 .i64 .i64 (root+1) (by rw[hz2];omega) (by unfold maxLen;omega) (ay _);rw[show(((root+1:Nat)):Int)=(root:Int)+1 by omega]at hmk;have ho1:w1.ownsRow w.heap.size 4 1 (.slice (some ⟨w.heap.size,0,none⟩) (root+1) (root+1)) (root+1) ((List.replicate (root+1) false).map Value.bool):=by
  rw[jZ]at ho1;rw[List.map_replicate,<-toList_madeCells_one];exact ho1
 have c1:=ho1.cellAt root (by omega);have f1:=ho1.frozenAt root;rw[show((List.replicate (root+1) false).map Value.bool)[root]?=some (.bool false) by simp]at c1;have ho2:=ho1.stored root (.bool true);have hw:IntKind.i64.wrap ((root:Int)+1)=(root:Int)+1:=by rw[IntKind.wrap_i64];omega
 go_enter Tryz.func177,Tryz.ntmps177
 go_wp2
 have hB':=aQ hB;have hE2:Ext w (w1.setCell ⟨w.heap.size,root,none⟩ (.bool true)):=(dS (Below.refl _ _) hg1 (by simp)).grown ho2.2 hg1.size (λk hk=>by injection hk with hk;omega);rw[<-oq]at ho2;have hst:=RInv.start D root;obtain⟨ho3,-⟩:=ho2;generalize hW:w1.setCell ⟨w.heap.size,root,none⟩ (.bool true)=W at *;generalize (List.replicate (root+1) false).set root true=bs0 at *;clear hmk ho1 hg1 c1 f1 hW hB;go_loopw [6,7,8] (λkk _ _ wr=>∃m bs,m<=root+1/\kk=.int .i64 ((m:Int)-1)/\wr.ownsRow w.heap.size 4 1 (.slice (some ⟨w.heap.size,0,none⟩) (root+1) (root+1)) (root+1) (bs.map Value.bool)/\RInv D root bs m/\Ext w wr) (λkk _ _ _=>(intOf kk+1).toNat)
 case atStart=>exact⟨root+1,bs0,ay _,by go_num,ho3,hst,hE2⟩
 case round=>
  obtain⟨m,bs,hm,rfl,hown,hinv,hE⟩:=hrel;cases m with
  |zero=>
   go_wp2
   go_ret
   exact⟨_,bs,rfl,hinv,hown,hE⟩
  |succ k=>
   have hk1:((k+1:Nat):Int)-1=(k:Int):=(by omega);rw[hk1];have hkr:k<root+1:=(by omega);obtain⟨bv,hbk⟩:∃b,bs[k]?=some b:=⟨_,aa (by rw[hinv.len];omega)⟩;have hck:=zZ hown hkr hbk;have HV:=aQ hinv;have HE:=aQ hE;have HO:=aQ hown;have hkm:IntKind.i64.wrap ((k:Int)-1)=(k:Int)-1:=(by rw[IntKind.wrap_i64];omega);clear hinv hE hown hst ho3;cases bv with
   |false=>
    go_wp2
    go_roundw
    case rel=>exact⟨k,bs,by omega,by go_num,HO.out,HV.out.down (λh=>by rw[hbk]at h;cases h),HE.out⟩
    case measure=>simp[intOf]
   |true=>
    have RP:k<D.length:=(by omega);obtain⟨gn,cn,aL,cL,aR,cR,rfl,hN⟩:=hB'.out.Ub RP
    have hX:Hid (∀W,Ext w W->W.cell? ⟨pb,0,none⟩=some (.slice (some ⟨gn,0,none⟩) D.length cn)/\W.cell? ⟨gn,k*2,none⟩=some (.slice aL (D[k]).1.length cL)/\W.cell? ⟨gn,k*2+1,none⟩=some (.slice aR (D[k]).2.length cR)/\
     Ints W (.slice aL (D[k]).1.length cL) (dD (D[k]).1)/\Ints W (.slice aR (D[k]).2.length cR) (dD (D[k]).2)):=hN
    clear hN;go_wp2
    have VA:(D[k]).1.length<=1152921504606846976:=(by have:=(hX.out w (Below.refl _ _)).2.2.2.1;obtain⟨_,_,_,_,h,_⟩:=this;rw[bJ]at h;exact h);have hRl:(D[k]).2.length<=1152921504606846976:=(by have:=(hX.out w (Below.refl _ _)).2.2.2.2;obtain⟨_,_,_,_,h,_⟩:=this;rw[bJ]at h;exact h);go_loopw [7] (λii wr=>∃i bs,i<=(D[k]).1.length/\ii=.int .i64 (i:Int)/\wr.ownsRow w.heap.size 4 1 (.slice (some ⟨w.heap.size,0,none⟩) (root+1) (root+1)) (root+1) (bs.map Value.bool)/\RInv D root bs (k+1)/\bs[k]?=some true/\Hid (∀j (h:j<(D[k]).1.length),j<i->bs[(D[k]).1[j]]?=some true)/\Ext w wr) (λii _=>(D[k]).1.length-(intOf ii).toNat)
    case atStart=>exact⟨0,bs,aJ _,rfl,HO.out,HV.out,hbk,λj _ h=>absurd h (by omega),HE.out⟩
    case round=>
     clear HO HV HE hck hbk;obtain⟨i,bs,hi,rfl,hown,hinv,hbk,HP,hE⟩:=hrel;obtain⟨x0,x1,x2,x3,x4⟩:=hX.out _ hE;have HV:=aQ hinv;have HE:=aQ hE;have HO:=aQ hown;by_cases hlt:i<(D[k]).1.length
     .obtain⟨b,off,rfl,hci⟩:=JJ x3 hlt
      obtain⟨v1,v2,v3,v4⟩:=RInv.go hD.out (oV RP) hinv hbk hlt HP.out;have hxl:(D[k]).1[i]<root+1:=(by have:=ku hD.out (show(D[k]).1[i]∈opt D true k by rw[oV RP];exact ai hlt);omega);obtain⟨bx,hbx⟩:∃b,bs[(D[k]).1[i]]?=some b:=⟨_,aa (by rw[hinv.len];omega)⟩;have hcx:=zZ hown hxl hbx;have hfx:=hown.frozenAt ((D[k]).1[i]);have V:=aQ v1;have V3:=aQ v3;have V4:=aQ v4;clear hinv hE hown v1 v3 v4 x3 x4;generalize hx:(D[k]).1[i]=x at *;go_wp2
      go_roundw
      case rel=>exact⟨i+1,bs.set x true,by omega,by go_num,Pz HO.out _ _,V.out,v2,λj hj hji=>V4.out j hj hji,HE.out.grown (HO.out.stored x (.bool true)).2 HE.out.size (λk hk=>by injection hk with hk;omega)⟩
      case measure=>simp[intOf];omega
     .have hil:i=(D[k]).1.length:=by omega
      subst hil;clear hinv hE hown;go_wp2
      have PK:Hid (∀x,x∈opt D true k->bs[x]?=some true):=λx hx=>by
       rw[oV RP]at hx;obtain⟨j,hj,rfl⟩:=aW.1 hx;exact HP.out j hj hj
      go_loopw [8] (λii wr=>∃i bs,i<=(D[k]).2.length/\ii=.int .i64 (i:Int)/\wr.ownsRow w.heap.size 4 1 (.slice (some ⟨w.heap.size,0,none⟩) (root+1) (root+1)) (root+1) (bs.map Value.bool)/\RInv D root bs (k+1)/\bs[k]?=some true/\Hid (∀j (h:j<(D[k]).2.length),j<i->bs[(D[k]).2[j]]?=some true)/\Hid (∀x,x∈opt D true k->bs[x]?=some true)/\Ext w wr) (λii _=>(D[k]).2.length-(intOf ii).toNat)
      case atStart=>exact⟨0,bs,aJ _,rfl,HO.out,HV.out,hbk,λj _ h=>absurd h (by omega),PK,HE.out⟩
      case round=>
       clear HO HV HE hbk HP PK x0 x1 x2 x3 x4;obtain⟨i,bs,hi,rfl,hown,hinv,hbk,HP,PK,hE⟩:=hrel;obtain⟨x0,x1,x2,x3,x4⟩:=hX.out _ hE;have HV:=aQ hinv;have HE:=aQ hE;have HO:=aQ hown;by_cases hlt:i<(D[k]).2.length
       .obtain⟨b,off,rfl,hci⟩:=JJ x4 hlt
        obtain⟨v1,v2,v3,v4⟩:=RInv.go hD.out (nJ RP) hinv hbk hlt HP.out;have hxl:(D[k]).2[i]<root+1:=(by have:=ku hD.out (show(D[k]).2[i]∈opt D false k by rw[nJ RP];exact ai hlt);omega);obtain⟨bx,hbx⟩:∃b,bs[(D[k]).2[i]]?=some b:=⟨_,aa (by rw[hinv.len];omega)⟩;have hcx:=zZ hown hxl hbx;have hfx:=hown.frozenAt ((D[k]).2[i]);have V:=aQ v1;have V3:=aQ v3;have V4:=aQ v4;clear hinv hE hown v1 v3 v4 x3 x4;generalize hx:(D[k]).2[i]=x at *;go_wp2
        go_roundw
        case rel=>exact⟨i+1,bs.set x true,by omega,by go_num,Pz HO.out _ _,V.out,v2,λj hj hji=>V4.out j hj hji,λy hy=>V3.out y (PK.out y hy),HE.out.grown (HO.out.stored x (.bool true)).2 HE.out.size (λk hk=>by injection hk with hk;omega)⟩
        case measure=>simp[intOf];omega
       .have hil:i=(D[k]).2.length:=by omega
        subst hil;clear hinv hE hown;go_wp2
        go_roundw
        case rel=>exact⟨k,bs,by omega,by go_num,HO.out,HV.out.down (λ_ side x hx=>by
         cases side
         .rw[nJ RP]at hx
          obtain⟨j,hj,rfl⟩:=aW.1 hx;exact HP.out j hj hj
         .exact PK.out x hx),HE.out⟩
        case measure=>simp[intOf]
end
section
open bO
variable {D F:dH} {side:Bool} {i x j root b k m:Nat} {idx at_ from_ at2:List Nat}
def Xn(D:dH)(at_:List Nat)(k:Nat):Nd:=(bQ ((opt D true k).map λx=>at_.getD x 0),bQ ((opt D false k).map λx=>at_.getD x 0))
structure nO(D:dH)(root:Nat)(F:dH)(idx at_:List Nat)(b:Nat):Prop where
 len:idx.length=F.length
 atl:at_.length=root+1
 nd:idx.Nodup
 mem:∀j,j∈idx↔bO.Reach D root j/\born (vl D j)<b
 place:∀i (h:i<idx.length),at_[idx[i]]?=some i
 node:∀i (h:i<idx.length),F[i]?=some (Xn D at_ idx[i])
 sorted:idx.Pairwise (λj k=>born (vl D j)<born (vl D k)\/born (vl D j)=born (vl D k)/\nc (Xn D at_ j) (Xn D at_ k)<0)
theorem nV(hD:WF D)(h:x∈opt D side i):born (vl D x)<born (vl D i):=by
 cases side
 .exact Ii (Bv hD h)
 .exact Ij (Bw hD h)
theorem C8(hD:WF D)(h:bO.Reach D i j):j=i\/born (vl D j)<born (vl D i):=by
 induction h with
 |here=>exact .inl rfl
 | @left j k nd _ hd hk ih=>
  have:=nV hD (show k∈opt D true j by simp[opt,hd];exact hk);rcases ih with rfl|h
  .exact .inr this
  .exact .inr (by omega)
 | @right j k nd _ hd hk ih=>
  have:=nV hD (show k∈opt D false j by simp[opt,hd];exact hk);rcases ih with rfl|h
  .exact .inr this
  .exact .inr (by omega)
theorem nO.pos(hD:WF D)(h:nO D root F idx at_ b)(hj:bO.Reach D root j)(hb:born (vl D j)<=b)(hx:x∈opt D side j):
 ∃p,∃hp:p<idx.length,idx[p]=x/\at_.getD x 0=p:=by
 have hx1:=nV hD hx;obtain⟨p,hp,e⟩:=aW.1 ((h.mem x).2 ⟨wP hj hx,by omega⟩);refine⟨p,hp,e,?_⟩;have:=h.place p hp;rw[e]at this;rw[aj,this];rfl
theorem o8{y:Nat}:(y∈(Xn D at_ k).1↔∃x,x∈opt D true k/\at_.getD x 0=y)/\(y∈(Xn D at_ k).2↔∃x,x∈opt D false k/\at_.getD x 0=y):=by
 unfold Xn;simp[bZ]
theorem nO.inj(g:bO.Good D)(h:nO D root F idx at_ b)(hj:bO.Reach D root j)(hjb:born (vl D j)<=b)(hk:bO.Reach D root k)(hkb:born (vl D k)<=b)(hjD:j<D.length)(RP:k<D.length)
 (e:Xn D at_ j=Xn D at_ k):j=k:=by
 have key:∀{j k:Nat},bO.Reach D root j->born (vl D j)<=b->bO.Reach D root k->born (vl D k)<=b->Xn D at_ j=Xn D at_ k->∀side x,x∈opt D side j->x∈opt D side k:=by
  intro j k hj hjb hk hkb e side x hx;obtain⟨p,hp,e1,e2⟩:=h.pos g.wf hj hjb hx;have hm:∃z,z∈opt D side k/\at_.getD z 0=p:=by
   cases side
   .have:p∈(Xn D at_ j).2:=o8.2.2 ⟨x,hx,e2⟩
    rw[e]at this;exact o8.2.1 this
   .have:p∈(Xn D at_ j).1:=o8.1.2 ⟨x,hx,e2⟩
    rw[e]at this;exact o8.1.1 this
  obtain⟨z,hz,ez⟩:=hm;obtain⟨q,hq,e3,e4⟩:=h.pos g.wf hk hkb hz;have:q=p:=by rw[<-e4,ez]
  subst this;rw[<-e1,e3];exact hz
 have s1:=key hj hjb hk hkb e;have s2:=key hk hkb hj hjb e.symm;refine mO g j k hjD RP ?_;have dj:D[j]?=some D[j]:=aa hjD;have dk:D[k]?=some D[k]:=aa RP;rw[nT g.wf dj,nT g.wf dk];rw[<-oV hjD,<-oV RP,<-nJ hjD,<-nJ RP];refine Ag (λy=>?_) (λy=>?_)
 .simp only[aH]
  exact⟨λ⟨x,hx,e⟩=>⟨x,s1 true x hx,e⟩,λ⟨x,hx,e⟩=>⟨x,s2 true x hx,e⟩⟩
 .simp only[aH]
  exact⟨λ⟨x,hx,e⟩=>⟨x,s1 false x hx,e⟩,λ⟨x,hx,e⟩=>⟨x,s2 false x hx,e⟩⟩
structure xM(D:dH)(root:Nat)(at_:List Nat)(b:Nat)(from_:List Nat)(m:Nat):Prop where
 mem:∀j,j∈from_↔j<m/\bO.Reach D root j/\born (vl D j)=b
 sorted:from_.Pairwise (λj k=>nc (Xn D at_ j) (Xn D at_ k)<0)
theorem xM.start(D:dH)(root:Nat)(at_:List Nat)(b:Nat):xM D root at_ b [] 0:=⟨by simp,List.Pairwise.nil⟩
theorem xM.skip(h:xM D root at_ b from_ m)(hn:¬(bO.Reach D root m/\born (vl D m)=b)):xM D root at_ b from_ (m+1):=by
 refine⟨λj=>?_,h.sorted⟩;rw[h.mem];constructor
 .rintro⟨a,c⟩;exact⟨by omega,c⟩
 .rintro⟨a,c⟩
  refine⟨?_,c⟩;rcases fI j m with h1|h1
  .exact h1
  .have:j=m:=by omega
   subst this;exact absurd c hn
theorem xM.nd(h:xM D root at_ b from_ m):from_.Nodup:=h.sorted.imp (λ{a c} h e=>by subst e;rw[GV]at h;omega)
theorem xM.put(g:bO.Good D)(hF:nO D root F idx at_ b)(hr:root<D.length)(h:xM D root at_ b from_ m)(hm:bO.Reach D root m)(hb:born (vl D m)=b)
 (hi:i<=from_.length) (h1:∀j (hj:j<from_.length),j<i->nc (Xn D at_ from_[j]) (Xn D at_ m)<0) (h2:∀hl:i<from_.length,¬nc (Xn D at_ from_[i]) (Xn D at_ m)<0):
 xM D root at_ b (from_.take i++m :: from_.drop i) (m+1):=by
 have hlt:∀j,bO.Reach D root j->j<D.length:=λj hj=>by have:=mP g.wf hj;omega
 refine⟨λj=>?_,?_⟩
 .have e:j∈from_.take i++m :: from_.drop i↔j=m\/j∈from_:=by
   conv=>rhs;rw[<-iV i from_]
   simp only[bq,eT];constructor <;> (intro h;rcases h with h|h|h <;> simp[h])
  rw[e,h.mem];constructor
  .rintro(rfl|⟨a,c⟩)
   .exact⟨by omega,hm,hb⟩
   .exact⟨by omega,c⟩
  .rintro⟨a,c⟩
   rcases fI j m with h1|h1
   .exact .inr ⟨h1,c⟩
   .exact .inl (by omega)
 .have hs:=h.sorted
  have hA:∀x,x∈from_.take i->nc (Xn D at_ x) (Xn D at_ m)<0:=λx hx=>by
   obtain⟨j,hj,rfl⟩:=aW.1 hx;rw[dI]at hj;rw[List.getElem_take];exact h1 j (by omega) (by omega)
  have hB:∀x,x∈from_.drop i->nc (Xn D at_ m) (Xn D at_ x)<0:=λx hx=>by
   obtain⟨j,hj,rfl⟩:=aW.1 hx;rw[iB]at hj;rw[rT];have hil:i<from_.length:=(by omega);have h3:=h2 hil;have hmem:=(h.mem from_[i]).1 (ai hil);have hne:nc (Xn D at_ from_[i]) (Xn D at_ m)≠0:=λe0=>by
    have:=hF.inj g hmem.2.1 (by omega) hm (by omega) (hlt _ hmem.2.1) (hlt _ hm) (zl e0);omega
   have h4:nc (Xn D at_ m) (Xn D at_ from_[i])<0:=(by rw[Aq];omega);by_cases e:j=0
   .subst e;exact h4
   .exact ve h4 (dx.1 hs i (i+j) hil (by omega) (by omega))
  rw[oo];refine⟨hs.sublist (List.take_sublist _ _),?_,λa ha c hc=>?_⟩
  .rw[ql];exact⟨hB,hs.sublist (List.drop_sublist _ _)⟩
  .rcases eT.1 hc with rfl|hc
   .exact hA a ha
   .exact ve (hA a ha) (hB c hc)
theorem Sj{at1:List Nat}(h:∀side x,x∈opt D side k->at1[x]?=at2[x]?):Xn D at1 k=Xn D at2 k:=by
 unfold Xn;have e:∀side,(opt D side k).map (λx=>at1.getD x 0)=(opt D side k).map (λx=>at2.getD x 0):=λside=>df λx hx=>by
  rw[aj,aj,h side x hx]
 rw[e true,e false]
theorem nO.next(g:bO.Good D)(h:nO D root F idx at_ b)(hL:xM D root at_ b from_ (root+1))(hl:at2.length=root+1)
 (p1:∀j (hj:j<from_.length),at2[from_[j]]?=some (F.length+j)) (p2:∀y,y ∉ from_->at2[y]?=at_[y]?):nO D root (F++from_.map (Xn D at_)) (idx++from_) at2 (b+1):=by
 have hx:∀j,born (vl D j)<=b->Xn D at2 j=Xn D at_ j:=λj hj=>Sj λside x hx=>p2 x λhm=>by
  have h1:=((hL.mem x).1 hm).2.2;have h2:=nV g.wf hx;omega
 have hi:∀j,j∈idx->born (vl D j)<b:=λj hj=>((h.mem j).1 hj).2
 have hf:∀j,j∈from_->born (vl D j)=b:=λj hj=>((hL.mem j).1 hj).2.2
 have hd:∀j,j∈idx->j ∉ from_:=λj h1 h2=>by have:=hi j h1;have:=hf j h2;omega
 refine⟨by simp[h.len],hl,?_,λj=>?_,λi hlt=>?_,λi hlt=>?_,?_⟩
 .rw[l5]
  exact⟨h.nd,hL.nd,λa ha c hc e=>by subst e;exact hd a ha hc⟩
 .rw[bq,h.mem,hL.mem]
  constructor
  .rintro(⟨a,c⟩|⟨a,c,d⟩)
   .exact⟨a,by omega⟩
   .exact⟨c,by omega⟩
  .rintro⟨a,c⟩
   by_cases e:born (vl D j)<b
   .exact .inl ⟨a,e⟩
   .exact .inr ⟨by have:=mP g.wf a;omega,a,by omega⟩
 .by_cases c:i<idx.length
  .rw[dw c,p2 _ (hd _ (ai c))];exact h.place i c
  .rw[dU (by omega)]
   rw[p1 _ (by simp at hlt;omega),<-h.len];congr 1;omega
 .by_cases c:i<idx.length
  .rw[dw c,dN (by rw[<-h.len];exact c),hx _ (by have:=hi _ (ai c);omega)]
   exact h.node i c
  .rw[dU (by omega),dW (by rw[<-h.len];omega)]
   have hl2:i-idx.length<from_.length:=(by simp at hlt;omega);rw[hx _ (Nat.le_of_eq (hf _ (ai hl2)))];rw[<-h.len];simp[hl2]
 .rw[oo]
  refine⟨?_,?_,λa ha c hc=>?_⟩
  .refine iq ?_ h.sorted
   intro a c ha hc hac;rw[hx a (by have:=hi a ha;omega),hx c (by have:=hi c hc;omega)];exact hac
  .refine iq ?_ hL.sorted
   intro a c ha hc hac;rw[hx a (Nat.le_of_eq (hf a ha)),hx c (Nat.le_of_eq (hf c hc))];exact .inr ⟨by rw[hf a ha,hf c hc],hac⟩
  .exact .inl (by have:=hi a ha;have:=hf c hc;omega)
theorem nO.start(D:dH)(root:Nat):nO D root [] [] (List.replicate (root+1) 0) 0:=
 ⟨rfl,by simp,List.nodup_nil,by simp,by simp,by simp,List.Pairwise.nil⟩
theorem nO.wf{D:dH}(g:bO.Good D){root b:Nat}{F:dH}{idx at_:List Nat}(h:nO D root F idx at_ b):WF F:=by
 intro i nd hi;have hlt:i<idx.length:=by rw[h.len];exact(cK.1 hi).1
 have hn:=h.node i hlt;rw[hi]at hn;injection hn with hn;have hm:=(h.mem _).1 (ai hlt);have key:∀side x,x∈opt D side idx[i]->at_.getD x 0<i:=λside x hx=>by
  obtain⟨p,hp,e1,e2⟩:=h.pos g.wf hm.1 (by omega) hx;rw[e2];have hb:=nV g.wf hx;rcases Nat.lt_trichotomy p i with c|c|c
  .exact c
  .subst c;rw[e1]at hb;omega
  .have:=dx.1 h.sorted i p hlt hp c
   rw[e1]at this;omega
 subst hn;exact⟨λk hk=>by obtain⟨x,hx,rfl⟩:=o8.1.1 hk;exact key true x hx,λk hk=>by obtain⟨x,hx,rfl⟩:=o8.2.1 hk;exact key false x hx⟩
theorem nO.same(g:bO.Good D)(hr:root<D.length)(h:nO D root F idx at_ b):∀i (hi:i<idx.length),Same (vl F i) (vl D idx[i]):=by
 intro i
 induction i using Nat.strongRecOn with
 |_ i ih=>
  intro hi;have hm:=(h.mem _).1 (ai hi);have hD:idx[i]<D.length:=by have:=mP g.wf hm.1;omega
  have dj:D[idx[i]]?=some D[idx[i]]:=aa hD;have hw:=h.wf g;have hn:=h.node i hi;rw[same_iff,ow hw hn,ou hw hn,ow g.wf dj,ou g.wf dj,<-oV hD,<-nJ hD];have key:∀side x,x∈opt D side idx[i]->at_.getD x 0<i->Same (vl F (at_.getD x 0)) (vl D x):=λside x hx hlt=>by
   obtain⟨p,hp,e1,e2⟩:=h.pos g.wf hm.1 (by omega) hx;rw[e2]at hlt ⊢;have:=ih p hlt hp;rw[e1]at this;exact this
  have lt1:∀x,x∈opt D true idx[i]->at_.getD x 0<i:=λx hx=>(hw i _ hn).1 _ (o8.1.2 ⟨x,hx,rfl⟩)
  have ME:∀x,x∈opt D false idx[i]->at_.getD x 0<i:=λx hx=>(hw i _ hn).2 _ (o8.2.2 ⟨x,hx,rfl⟩)
  refine⟨λy hy=>?_,λy hy=>?_,λy hy=>?_,λy hy=>?_⟩
  .obtain⟨k,hk,rfl⟩:=aH.1 hy
   obtain⟨x,hx,rfl⟩:=o8.1.1 hk;exact⟨_,bE hx,key true x hx (lt1 x hx)⟩
  .obtain⟨x,hx,rfl⟩:=aH.1 hy
   exact⟨_,bE (o8.1.2 ⟨x,hx,rfl⟩),key true x hx (lt1 x hx)⟩
  .obtain⟨k,hk,rfl⟩:=aH.1 hy
   obtain⟨x,hx,rfl⟩:=o8.2.1 hk;exact⟨_,bE hx,key false x hx (ME x hx)⟩
  .obtain⟨x,hx,rfl⟩:=aH.1 hy
   exact⟨_,bE (o8.2.2 ⟨x,hx,rfl⟩),key false x hx (ME x hx)⟩
theorem nO.ahead(g:bO.Good D)(hr:root<D.length)(h:nO D root F idx at_ b):∀i j,i<j->j<F.length->Ahead F i j:=by
 intro i j hij hj;have hj':j<idx.length:=by rw[h.len];exact hj
 have hi':i<idx.length:=by omega
 have hs:=dx.1 h.sorted i j hi' hj' hij;have e1:=lQ (h.same g hr i hi');have e2:=lQ (h.same g hr j hj');have n1:F.getD i ([],[])=Xn D at_ idx[i]:=by rw[aj,h.node i hi'];rfl
 have n2:F.getD j ([],[])=Xn D at_ idx[j]:=by rw[aj,h.node j hj'];rfl
 unfold Ahead;rw[e1,e2,n1,n2];exact hs
theorem nO.good(g:bO.Good D)(hr:root<D.length)(h:nO D root F idx at_ b):bO.Good F:=by
 refine⟨h.wf g,?_,?_⟩
 .intro nd hnd
  obtain⟨i,hi0,e⟩:=aW.1 hnd;have hi:F[i]?=some nd:=by rw[aa hi0,e]
  have hlt:i<idx.length:=by rw[h.len];exact hi0
  have hn:=h.node i hlt;rw[hi]at hn;injection hn with hn;subst hn;exact⟨jv _,jv _⟩
 .rw[List.Nodup,dx]
  intro i j hi hj hij e;have ha:=h.ahead g hr i j hij hj;have hw:=h.wf g;have v:vl F i=vl F j:=by
   rw[nT hw (aa hi),nT hw (aa hj),e]
  unfold Ahead at ha;rw[v,qX hi,qX hj,e,GV]at ha;omega
theorem nO.last(g:bO.Good D)(hr:root<D.length)(h:nO D root F idx at_ (born (vl D root)+1)):fC F/\Same (dZ F) (vl D root):=by
 have hm:root∈idx:=(h.mem root).2 ⟨.here,by omega⟩;obtain⟨p,hp,e⟩:=aW.1 hm;have hpl:p=F.length-1:=by
  rcases fI p (F.length-1)with c|c
  .have hq:F.length-1<idx.length:=by rw[h.len];omega
   have hs:=dx.1 h.sorted p (F.length-1) hp hq c;have hm2:=(h.mem _).1 (ai hq);rw[e]at hs;rcases C8 g.wf hm2.1 with e2|lt
   .have:=Ap h.nd hp hq (by rw[e,e2]);omega
   .omega
  .have:=h.len;omega
 have hlen:=h.len;have hF:0<F.length:=by omega
 have hs:=h.same g hr p hp;rw[e,hpl]at hs;refine⟨⟨h.good g hr,List.ne_nil_of_length_pos hF,h.ahead g hr,λi hi=>?_⟩,hs⟩;have hi':i<idx.length:=by omega
 have hri:=((h.mem _).1 (ai hi')).1;obtain⟨c,hc,rc,sc⟩:=tK g (h.good g hr) (a:=F.length-1) (by omega) (jH hs) hri;have:i=c:=mO (h.good g hr) i c hi hc (gU (h.same g hr i hi') sc);rw[this];exact rc
end
end Go.Proofs.YteknjeohbcgpdaaGreatDoor