/- 7 -/
import Derived.Test.YtplgooajigigkaaGreatDoorK6
import Derived.Maps.RangeWalk
set_option maxRecDepth 100000
set_option maxHeartbeats 4000000
namespace Go.Proofs.YtplgooajigigkaaGreatDoor
open Tryz
section
open Go.RowKit
open bE (dh Nd vl Ge)
variable {w:World} {po pb kb n i j k x m y:Nat} {vn vb:Value} {D:dh} {kn:List Int} {l:List Nat}
structure kS(w:World)(po pb kb:Nat)(vn vb:Value)(D:dh)(kn:List Int):Prop where
 book:∀w',w.grownBy w' (some kb)->fB w' pb vn vb D
 apart:po≠kb
 cell0:w.cell? ⟨po,0,none⟩=some (.pointer (some ⟨pb,0,none⟩))
 cell1:w.cell? ⟨po,1,none⟩=some (.slice (some ⟨kb,0,none⟩) (D.length*D.length) (D.length*D.length))
 own:w.ownsRow 0 3 1 (.slice (some ⟨kb,0,none⟩) (D.length*D.length) (D.length*D.length)) (D.length*D.length) (kn.map (Value.int .i64))
 lists:∀i (h:i<D.length),∃g cap L R,vn=.slice (some ⟨g,0,none⟩) D.length cap/\(∀w',w.grownBy w' (some kb)->w'.cell? ⟨g,i*2,none⟩=some L/\w'.cell? ⟨g,i*2+1,none⟩=some R/\Ints w' L (dB (D[i]).1)/\Ints w' R (dB (D[i]).2))/\(∀b,L.ownBlock=some b->b≠kb)/\(∀b,R.ownBlock=some b->b≠kb)
theorem kS.at(h:kS w po pb kb vn vb D kn):fB w pb vn vb D:=h.book w (World.grownBy.refl _ _)
theorem kS.len(h:kS w po pb kb vn vb D kn):kn.length=D.length*D.length:=by have:=h.own.1;simpa using this
theorem kS.grown{w':World}{LF:List Int}(h:kS w po pb kb vn vb D kn)(hg:w.grownBy w' (some kb))
 (ho:w'.ownsRow 0 3 1 (.slice (some ⟨kb,0,none⟩) (D.length*D.length) (D.length*D.length)) (D.length*D.length) (LF.map (Value.int .i64))):kS w' po pb kb vn vb D LF:=
 ⟨λw'' g=>h.book w'' (hg.trans g),h.apart,hg.cell h.cell0 (by simpa using h.apart),hg.cell h.cell1 (by simpa using h.apart),ho,λi hi=>by obtain⟨g,cap,L,R,h1,h2,h3⟩:=h.lists i hi;exact⟨g,cap,L,R,h1,λw'' k=>h2 w'' (hg.trans k),h3⟩⟩
theorem WE(hi:i<n)(hj:j<n):i*n+j<n*n:=by
 have:(i+1)*n<=n*n:=jC n hi;rw[rW,Nat.one_mul]at this;omega
theorem BA{i' j':Nat}(hj:j<n)(hj':j'<n)(h:i*n+j=i'*n+j'):i=i'/\j=j':=by
 have h1:(i*n+j) / n=i:=by rw[iY,Nat.mul_add_div (by omega),Nat.div_eq_of_lt hj,qy]
 have h2:(i'*n+j') / n=i':=by rw[iY,Nat.mul_add_div (by omega),Nat.div_eq_of_lt hj',qy]
 have e:i=i':=by rw[<-h1,<-h2,h]
 subst e;omega
theorem kS.known(h:kS w po pb kb vn vb D kn)(hk:k<D.length*D.length):w.cell? ⟨kb,k,none⟩=some (.int .i64 (jl kn k)):=by
 rw[h.own.cellAt k (by omega)];have:k<kn.length:=by rw[h.len];exact hk
 simp[jl,this]
theorem kS.free(h:kS w po pb kb vn vb D kn)(k:Nat):w.frozen? ⟨kb,k,none⟩=false:=h.own.frozenAt k
theorem kS.set{w:World}{po pb kb:Nat}{vn vb:Value}{D:dh}{kn:List Int}(h:kS w po pb kb vn vb D kn)(k:Nat)(x:Int):
 kS (w.setCell ⟨kb,k,none⟩ (.int .i64 x)) po pb kb vn vb D (kn.set k x)/\w.grownBy (w.setCell ⟨kb,k,none⟩ (.int .i64 x)) (some kb):=by
 have hs:=h.own.stored k (.int .i64 x);refine⟨h.grown hs.2 ?_,hs.2⟩;rw[tq];exact hs.1
theorem qa{l:List Int}{x:Int}(hk:k<l.length):jl (l.set k x) j=if k=j then x else jl l j:=by
 unfold jl;rw[l5];split
 .rename_i e;subst e;simp
 .rfl
def Ao(D:dh)(kn:List Int)(m:Nat):Prop:=∀i j,i<D.length->j<D.length->i+j<m->
 jl kn (i*D.length+j)=0\/(jl kn (i*D.length+j)=1/\Ge (vl D i) (vl D j))\/(jl kn (i*D.length+j)=2/\¬Ge (vl D i) (vl D j))
def zQ(D:dh)(kn LF:List Int)(m:Nat):Prop:=∀i j,i<D.length->j<D.length->m<=i+j->jl LF (i*D.length+j)=jl kn (i*D.length+j)
def RJ(po pb kb:Nat)(vn vb:Value)(D:dh)(kn:List Int)(x y M m:Nat)(w:World)(e:Ending)(w':World):Prop:=
 ∃g LF,e=.returned (.bool g)/\(g=true↔Ge (vl D x) (vl D y))/\kS w' po pb kb vn vb D LF/\w.grownBy w' (some kb)/\Ao D LF M/\zQ D kn LF m
def Y3(m:Nat):Prop:=∀(po pb kb:Nat) (vn vb:Value) (D:dh) (kn:List Int) (x y M:Nat) (w:World),kS w po pb kb vn vb D kn->x<D.length->y<D.length->x+y<m->x+y<M->Ao D kn M->
 Calls prog 165 #[.pointer (some ⟨po,0,none⟩),.int .i64 x,.int .i64 y] w (RJ po pb kb vn vb D kn x y M (x+y+1) w)
def YO(m:Nat):Prop:=∀(po pb kb:Nat) (vn vb:Value) (D:dh) (kn:List Int) (x y:Nat) (w:World),kS w po pb kb vn vb D kn->x<D.length->y<D.length->x+y<m->Ao D kn (x+y)->
 Calls prog 199 #[.pointer (some ⟨po,0,none⟩),.int .i64 x,.int .i64 y] w (RJ po pb kb vn vb D kn x y (x+y) (x+y) w)
theorem X3(ach:YO m):Y3 m:=by
 intro po pb kb vn vb D kn x y M w hO hx hy hm hM hH;have hB:=hO.at;have hds:=hB.small;obtain⟨xs,hown,_⟩:=hB.nodes;obtain⟨an,cn,rfl,hn1,hn2⟩:=bT hown;have c0:=hO.cell0;have c1:=hO.cell1;have b0:=hB.cell0;have hidx:=WE hx hy;have hk:=hO.known hidx;have hf:=hO.free (x*D.length+y);have hp:(x:Int)*((D.length:Nat):Int)=((x*D.length:Nat):Int):=by simp
 have hpb:x*D.length<=1000000000000:=bZ (pE (bZ (Nat.le_of_lt hx) hds) hds) (by decide);have hsz:D.length*D.length<=1000000000000:=bZ (pE hds hds) (by decide);go_enter Tryz.func165,Tryz.ntmps165
 generalize hpd:x*D.length=p at *;generalize hqd:D.length*D.length=q at *;have Xj:p+y<D.length*D.length:=by rw[hqd];exact hidx
 by_cases hz:jl kn (p+y)=0
 .have hz0:(jl kn (p+y)== 0)=true:=by simp[hz]
  have hS:=hO.set (p+y) 2;have hl1:p+y<kn.length:=by rw[hO.len];exact Xj
  have hH1:Ao D (kn.set (p+y) 2) (x+y):=by
   intro i j hi hj hij;have hne:¬p+y=i*D.length+j:=(by rw[<-hpd];intro e;have:=BA hy hj e;omega);rw[qa hl1,if_neg hne];exact hH i j hi hj (by omega)
  have HH:=aW hH;have HL:=aW ach;have HP:=aW hpd;have HQ:=aW hqd;have HO:=aW hO;have HI:=aW Xj;clear hH ach hpd hz;clear hqd Xj;by_cases hge:Ge (vl D x) (vl D y)
  .go_wp2_with (go_at_call 199;refine(HL.out _ _ _ _ _ _ _ x y _ hS.1 hx hy hm hH1).mono ?_;rintro e w1 ⟨g,QR,rfl,hg,hO2,hgr,hH2,hA2⟩
                have c1':=hO2.cell1;rw[HQ.out]at c1';have hk2:=hO2.known HI.out;have hf2:=hO2.free (p+y);have hv2:jl QR (p+y)=2:=by
                 have h:=hA2 x y hx hy (aJ _);rw[HP.out,qa hl1,if_pos rfl]at h;exact h
                rw[hv2]at hk2;obtain rfl:g=true:=hg.2 hge;clear hg;have hl2:p+y<QR.length:=(by rw[hO2.len];exact HI.out);have CB:=hO2.set (p+y) 1;have anj:=CB.1.cell1;rw[HQ.out]at anj;have hk3:=CB.1.known HI.out;rw[qa hl2,if_pos rfl]at hk3)
   go_ret
   refine⟨_,QR.set (p+y) 1,rfl,by simp[hge],CB.1,(hS.2.trans hgr).trans CB.2,?_,?_⟩
   .intro i j hi hj hij
    by_cases hne:p+y=i*D.length+j
    .obtain⟨e1,e2⟩:=BA (i:=x) (i':=i) hy hj (by rw[HP.out];exact hne)
     rw[<-hne,<-e1,<-e2,qa hl2,if_pos rfl];exact .inr (.inl ⟨rfl,hge⟩)
    .rw[qa hl2,if_neg hne]
     by_cases hlt:i+j<x+y
     .exact hH2 i j hi hj hlt
     .rw[hA2 i j hi hj (by omega),qa hl1,if_neg hne];exact HH.out i j hi hj hij
   .intro i j hi hj hij
    have hne:¬p+y=i*D.length+j:=(by rw[<-HP.out];intro e;have:=BA hy hj e;omega);rw[qa hl2,if_neg hne,hA2 i j hi hj (by omega),qa hl1,if_neg hne]
  .go_wp2_with (go_at_call 199;refine(HL.out _ _ _ _ _ _ _ x y _ hS.1 hx hy hm hH1).mono ?_;rintro e w1 ⟨g,QR,rfl,hg,hO2,hgr,hH2,hA2⟩
                have c1':=hO2.cell1;rw[HQ.out]at c1';have hk2:=hO2.known HI.out;have hf2:=hO2.free (p+y);have hv2:jl QR (p+y)=2:=by
                 have h:=hA2 x y hx hy (aJ _);rw[HP.out,qa hl1,if_pos rfl]at h;exact h
                rw[hv2]at hk2;obtain rfl:g=false:=(by simpa using(λe=>hge (hg.1 e)));clear hg)
   go_ret
   refine⟨_,QR,rfl,by simp[hge],hO2,hS.2.trans hgr,?_,?_⟩
   .intro i j hi hj hij
    by_cases hne:p+y=i*D.length+j
    .obtain⟨e1,e2⟩:=BA (i:=x) (i':=i) hy hj (by rw[HP.out];exact hne)
     rw[<-hne,<-e1,<-e2];exact .inr (.inr ⟨hv2,hge⟩)
    .by_cases hlt:i+j<x+y
     .exact hH2 i j hi hj hlt
     .rw[hA2 i j hi hj (by omega),qa hl1,if_neg hne];exact HH.out i j hi hj hij
   .intro i j hi hj hij
    have hne:¬p+y=i*D.length+j:=(by rw[<-HP.out];intro e;have:=BA hy hj e;omega);rw[hA2 i j hi hj (by omega),qa hl1,if_neg hne]
 .have hz0:(jl kn (p+y)== 0)=false:=by simpa using hz
  go_wp2
  go_ret
  refine⟨_,kn,rfl,?_,hO,World.grownBy.refl _ _,hH,λ_ _ _ _ _=>rfl⟩;rcases hH x y hx hy hM with h|⟨h,h'⟩|⟨h,h'⟩
  .rw[hpd]at h;exact absurd h hz
  .rw[hpd]at h;simp[h,h']
  .rw[hpd]at h;simp[h,h']
theorem zQ.trans{D:dh}{a b c:List Int}{m:Nat}(h:zQ D a b m)(k:zQ D b c m):zQ D a c m:=λi j hi hj hij=>(k i j hi hj hij).trans (h i j hi hj hij)
theorem zQ.mono{a b:List Int}{m':Nat}(h:zQ D a b m)(hm:m<=m'):zQ D a b m':=λi j hi hj hij=>h i j hi hj (by omega)
theorem Bt(hD:bE.WF D)(hx:x<D.length)(hk:k<(D[x]).2.length)(h:Ge (vl D y) (vl D (D[x]).2[k])):¬Ge (vl D x) (vl D y):=by
 intro g;refine((bE.gu _ _).1 g).1 _ ?_ h;rw[bE.lH hD (af hx)];exact az.2 ⟨_,ai hk,rfl⟩
theorem Bu(hD:bE.WF D)(hy:y<D.length)(hk:k<(D[y]).1.length)(h:Ge (vl D (D[y]).1[k]) (vl D x)):¬Ge (vl D x) (vl D y):=by
 intro g;refine((bE.gu _ _).1 g).2 _ ?_ h;rw[bE.lI hD (af hy)];exact az.2 ⟨_,ai hk,rfl⟩
theorem Io(hD:bE.WF D)(hx:x<D.length)(hy:y<D.length)(hr:∀j (h:j<(D[x]).2.length),¬Ge (vl D y) (vl D (D[x]).2[j]))(hl:∀j (h:j<(D[y]).1.length),¬Ge (vl D (D[y]).1[j]) (vl D x)):Ge (vl D x) (vl D y):=by
 rw[bE.gu,bE.lH hD (af hx),bE.lI hD (af hy)];constructor
 .intro r hr'
  obtain⟨i,hi,rfl⟩:=az.1 hr';obtain⟨j,hj,rfl⟩:=aQ.1 hi;exact hr j hj
 .intro r hr'
  obtain⟨i,hi,rfl⟩:=az.1 hr';obtain⟨j,hj,rfl⟩:=aQ.1 hi;exact hl j hj
theorem Cs(hk:k<l.length)(h:Hid (∀j (h:j<l.length),j<k->¬Ge (vl D y) (vl D l[j])))(hn:¬Ge (vl D y) (vl D l[k])):Hid (∀j (h:j<l.length),j<k+1->¬Ge (vl D y) (vl D l[j])):=by
 intro j hj hjk;by_cases e:j=k
 .subst e;exact hn
 .exact h j hj (by omega)
theorem Ad(hk:k<l.length)(h:Hid (∀j (h:j<l.length),j<k->¬Ge (vl D l[j]) (vl D x)))(hn:¬Ge (vl D l[k]) (vl D x)):Hid (∀j (h:j<l.length),j<k+1->¬Ge (vl D l[j]) (vl D x)):=by
 intro j hj hjk;by_cases e:j=k
 .subst e;exact hn
 .exact h j hj (by omega)
theorem SE(Xo:Y3 m):YO (m+1):=by
 intro po pb kb vn vb D kn x y w hO hx hy hm hH;have hB:=hO.at;have hds:=hB.small;have hD:=hB.good.wf;have HD:=aW hD;have QZ:=hD x _ (af hx);have hyw:=hD y _ (af hy);go_enter Tryz.func199,Tryz.ntmps199
 go_wp2
 go_loopw [7] (λi wr=>∃k LF,k<=(D[x]).2.length/\i=.int .i64 ((k:Nat):Int)/\kS wr po pb kb vn vb D LF/\w.grownBy wr (some kb)/\Ao D LF (x+y)/\zQ D kn LF (x+y)/\Hid (∀j (h:j<(D[x]).2.length),j<k->¬Ge (vl D y) (vl D (D[x]).2[j]))) (λi _=>(D[x]).2.length-(intOf i).toNat)
 case atStart=>exact⟨0,kn,aU _,rfl,hO,World.grownBy.refl _ _,hH,λ_ _ _ _ _=>rfl,λj _ h=>absurd h (by omega)⟩
 case round=>
  obtain⟨k,LF,hk,rfl,Gl,hgr,Zk,hA',HN⟩:=hrel;have hB':=Gl.at;obtain⟨gn,Yn,L,R,rfl,hnl,hnc,hcL,hcR,xg,xe⟩:=hB'.ve hx;have c0:=Gl.cell0;have b0:=hB'.cell0;obtain⟨aR,auy,rfl,hlR,alD,hcells⟩:=xe;rw[bG]at hlR alD hcells;rw[bG]at hcR;by_cases hlt:k<(D[x]).2.length
  .obtain⟨bR,oR,rfl,hcell⟩:=hcells (by omega)
   have hck:=hcell k hlt;rw[iA hlt]at hck;have Gh:=QZ.2 _ (ai hlt);have HO:=aW Gl;have HG:=aW Xo;have HH:=aW Zk;have HA:=aW hA';clear hcell hcells xg Xo Zk hA' hB' hB hO hH hD hyw QZ Gl;by_cases hge:Ge (vl D y) (vl D (D[x]).2[k])
   .go_wp2_with (go_at_call 165;refine(HG.out _ _ _ _ _ _ _ y (D[x]).2[k] (x+y) _ HO.out hy (by omega) (by omega) (by omega) HH.out).mono ?_;rintro e w1 ⟨g,QR,rfl,hg,hO2,qC,hH2,hA2⟩
                 obtain rfl:g=true:=hg.2 hge;clear hg)
    go_ret
    exact⟨false,QR,rfl,by simpa using Bt HD.out hx hlt hge,hO2,hgr.trans qC,hH2,HA.out.trans (hA2.mono (by omega))⟩
   .go_wp2_with (go_at_call 165;refine(HG.out _ _ _ _ _ _ _ y (D[x]).2[k] (x+y) _ HO.out hy (by omega) (by omega) (by omega) HH.out).mono ?_;rintro e w1 ⟨g,QR,rfl,hg,hO2,qC,hH2,hA2⟩
                 obtain rfl:g=false:=(by simpa using(λe=>hge (hg.1 e)));clear hg)
    go_roundw
    case rel=>exact⟨k+1,QR,by omega,by go_num,hO2,hgr.trans qC,hH2,HA.out.trans (hA2.mono (by omega)),Cs hlt HN hge⟩
    case measure=>simp[intOf];omega
  .have hkl:k=(D[x]).2.length:=by omega
   subst hkl;have HA:=aW hA';clear hA' hcells xg;obtain⟨wo,rfl⟩:∃wo:World,wo=wr:=⟨_,rfl⟩;go_wp2
   go_loopw [8] (λi wr=>∃k QR,k<=(D[y]).1.length/\i=.int .i64 ((k:Nat):Int)/\kS wr po pb kb (.slice (some ⟨gn,0,none⟩) D.length Yn) vb D QR/\w.grownBy wr (some kb)/\Ao D QR (x+y)/\zQ D kn QR (x+y)/\Hid (∀j (h:j<(D[y]).1.length),j<k->¬Ge (vl D (D[y]).1[j]) (vl D x))) (λi _=>(D[y]).1.length-(intOf i).toNat)
   case atStart=>exact⟨0,LF,aU _,rfl,Gl,hgr,Zk,HA.out,λj _ h=>absurd h (by omega)⟩
   case round=>
    clear Gl hgr Zk hB' c0 b0 hcL hcR;obtain⟨k,kn3,hk,rfl,Gl,hgr,Zk,hA',Eu⟩:=hrel;have hB':=Gl.at;obtain⟨gn',aqM,L,R,he,Xc,hnc',hcL,hcR,xg,xe⟩:=hB'.ve hy;simp only[il,bU,Addr.mk.injEq,true_and,and_true]at he;obtain⟨rfl,rfl⟩:=he;have c0:=Gl.cell0;have b0:=hB'.cell0;obtain⟨aL,auz,rfl,hlL,alE,hcells⟩:=xg;rw[bG]at hlL alE hcells;rw[bG]at hcL;by_cases hlt:k<(D[y]).1.length
    .obtain⟨bL,oL,rfl,hcell⟩:=hcells (by omega)
     have hck:=hcell k hlt;rw[iA hlt]at hck;have hyl:=hyw.1 _ (ai hlt);have HO:=aW Gl;have HG:=aW Xo;have HH:=aW Zk;have HA2:=aW hA';clear hcell hcells xe Xo Zk hA' hB' hB hO hH hD hyw QZ Gl;by_cases hge:Ge (vl D (D[y]).1[k]) (vl D x)
     .go_wp2_with (go_at_call 165;refine(HG.out _ _ _ _ _ _ _ (D[y]).1[k] x (x+y) _ HO.out (by omega) hx (by omega) (by omega) HH.out).mono ?_;rintro e w1 ⟨g,kn4,rfl,hg,hO2,qC,hH2,hA2⟩
                   obtain rfl:g=true:=hg.2 hge;clear hg)
      go_ret
      exact⟨false,kn4,rfl,by simpa using Bu HD.out hy hlt hge,hO2,hgr.trans qC,hH2,HA2.out.trans (hA2.mono (by omega))⟩
     .go_wp2_with (go_at_call 165;refine(HG.out _ _ _ _ _ _ _ (D[y]).1[k] x (x+y) _ HO.out (by omega) hx (by omega) (by omega) HH.out).mono ?_;rintro e w1 ⟨g,kn4,rfl,hg,hO2,qC,hH2,hA2⟩
                   obtain rfl:g=false:=(by simpa using(λe=>hge (hg.1 e)));clear hg)
      go_roundw
      case rel=>exact⟨k+1,kn4,by omega,by go_num,hO2,hgr.trans qC,hH2,HA2.out.trans (hA2.mono (by omega)),Ad hlt Eu hge⟩
      case measure=>simp[intOf];omega
    .have HA2:=aW hA'
     clear hA' hcells xe Xo;go_wp2
     go_ret
     exact⟨true,kn3,rfl,by simpa using Io HD.out hx hy (λj h=>HN.out j h h) (λj h=>Eu.out j h (by omega)),Gl,hgr,Zk,HA2.out⟩
theorem aie:∀m,Y3 m:=by
 intro m
 induction m with
 |zero=>intro po pb kb vn vb D kn x y M w _ _ _ h;omega
 |succ m ih=>exact X3 (SE ih)
end
section
open Go.RowKit
open bE (dh Nd vl Ge)
variable {w:World}
def Ord(w:World)(po pb kb:Nat)(vn vb:Value)(D:dh):Prop:=∃kn,kS w po pb kb vn vb D kn/\Ao D kn (D.length+D.length)
theorem Ord.grown{w w':World}{po pb kb:Nat}{vn vb:Value}{D:dh}(h:Ord w po pb kb vn vb D)(hg:w.grownBy w' none):Ord w' po pb kb vn vb D:=by
 obtain⟨kn,hO,hH⟩:=h;exact⟨kn,hO.grown (hg.but _) (hO.own.kept hg (.inr (by simp[Value.ownBlock]))),hH⟩
theorem jX{w':World}(h:Ext w w'):w.grownBy w' none:=⟨h.os,h.tape,h.output,h.size,λk hk _=>h.block k hk⟩
theorem BJ(po pb kb:Nat)(vn vb:Value)(D:dh)(x y:Nat)(w:World)(hO:Ord w po pb kb vn vb D)(hx:x<D.length)(hy:y<D.length):
 Calls prog 165 #[.pointer (some ⟨po,0,none⟩),.int .i64 x,.int .i64 y] w λe w'=>∃g,e=.returned (.bool g)/\(g=true↔Ge (vl D x) (vl D y))/\Ord w' po pb kb vn vb D/\w.grownBy w' (some kb):=by
 obtain⟨kn,hO,hH⟩:=hO;refine(aie _ po pb kb vn vb D kn x y (D.length+D.length) w hO hx hy (mO _) (by omega) hH).mono ?_;rintro e w' ⟨g,LF,rfl,hg,Gl,hgr,Zk,_⟩;exact⟨g,rfl,hg,⟨LF,Gl,Zk⟩,hgr⟩
theorem Ord.at{w:World}{po pb kb:Nat}{vn vb:Value}{D:dh}(h:Ord w po pb kb vn vb D):fB w pb vn vb D:=by obtain⟨kn,h,_⟩:=h;exact h.at
theorem Ord.cell0{w:World}{po pb kb:Nat}{vn vb:Value}{D:dh}(h:Ord w po pb kb vn vb D):w.cell? ⟨po,0,none⟩=some (.pointer (some ⟨pb,0,none⟩)):=by obtain⟨kn,h,_⟩:=h;exact h.cell0
theorem Ord.lists{w:World}{po pb kb:Nat}{vn vb:Value}{D:dh}(h:Ord w po pb kb vn vb D){i:Nat}(hi:i<D.length):∃g cap L R,vn=.slice (some ⟨g,0,none⟩) D.length cap/\(∀w',w.grownBy w' (some kb)->w'.cell? ⟨g,i*2,none⟩=some L/\w'.cell? ⟨g,i*2+1,none⟩=some R/\Ints w' L (dB (D[i]).1)/\Ints w' R (dB (D[i]).2))/\(∀b,L.ownBlock=some b->b≠kb)/\(∀b,R.ownBlock=some b->b≠kb):=by obtain⟨kn,h,_⟩:=h;exact h.lists i hi
theorem wS(q:Nat):(madeCells #[Value.int .i64 0] q).toList=(List.replicate q (0:Int)).map (Value.int .i64):=by
 apply qA;intro i;by_cases h:i<q
 .simp[madeCells,h,Nat.mod_one]
 .simp[madeCells,h]
theorem Su{pb:Nat}{vn vb:Value}{D:dh}(hB:fB w pb vn vb D){W:World}(hW:W=((w.alloc (.cells (madeCells #[Value.int .i64 0] (D.length*D.length)) 3)).alloc (.cells #[.pointer (some ⟨pb,0,none⟩),.slice (some ⟨w.heap.size,0,none⟩) (D.length*D.length) (D.length*D.length)] 194)).drew)(po:Nat)(hpo:po=w.heap.size+1):
 Ord W po pb w.heap.size vn vb D:=by
 subst hpo;have hE:Ext w W:=by rw[hW];go_grown
 have hEg:∀w',W.grownBy w' (some w.heap.size)->Ext w w':=λw' hg=>eU hE hg (λk hk=>by injection hk with hk;omega)
 have hds:=hB.small;have hsz:D.length*D.length<=1000000000000:=bZ (pE hds hds) (by decide);refine⟨List.replicate (D.length*D.length) 0,⟨λw' hg=>hB.ext (hEg w' hg),by omega,?_,?_,?_,?_⟩,?_⟩
 .rw[hW];exact World.cell?_alloc_at (w:=w.alloc _) _ _ _ 0 (by simp)
 .rw[hW];exact World.cell?_alloc_at (w:=w.alloc _) _ _ _ 1 (by simp)
 .rw[hW,<-wS]
  exact((World.ownsRow_lit w _ _ (aU _) (by unfold maxLen;omega) (by rw[size_madeCells,kT])).alloc _)
 .intro i hi
  obtain⟨g,cap,L,R,h1,h2,h3,h4,h5,h6,h7,h8,h9⟩:=hB.Ll hi;exact⟨g,cap,L,R,h1,λw' hg=>⟨fw (hEg w' hg) h4,fw (hEg w' hg) h5,h6.ext (hEg w' hg),h7.ext (hEg w' hg)⟩,λb hb=>by have:=(h8 b hb).2;omega,λb hb=>by have:=(h9 b hb).2;omega⟩
 .intro i j hi hj _
  refine .inl ?_;simp[jl,WE hi hj]
theorem LB(pb:Nat)(vn vb:Value)(D:dh)(w:World)(hB:fB w pb vn vb D):
 Calls prog 115 #[.pointer (some ⟨pb,0,none⟩)] w λe w'=>∃po kb,e=.returned (.pointer (some ⟨po,0,none⟩))/\Ord w' po pb kb vn vb D/\Ext w w'/\w.heap.size<=kb:=by
 have hds:=hB.small;obtain⟨xs,hown,_⟩:=hB.nodes;obtain⟨an,cn,rfl,hn1,hn2⟩:=bT hown;have b0:=hB.cell0;have hsz:D.length*D.length<=1000000000000:=bZ (pE hds hds) (by decide);have hp:((D.length:Nat):Int)*((D.length:Nat):Int)=((D.length*D.length:Nat):Int):=by simp
 obtain⟨i0,hi,hz0,hz1,hz2⟩:=info_parts iU;go_enter Tryz.func115,Tryz.ntmps115
 generalize hqd:D.length*D.length=q at *;have hw:IntKind.i64.wrap (q:Int)=q:=by rw[IntKind.wrap_i64];omega
 have hmk:=run_make (P:=prog) w.drew 41 3 i0 (.int .i64 0) underlying41 hi hz0 .i64 .i64 (q:Int) (q:Int) (by omega) (by omega) (by rw[hz2];omega) (by omega);rw[hz1,kT,jB]at hmk;go_wp2
 go_region
 go_wp2
 go_ret
 refine⟨_,w.heap.size,rfl,?_,by go_grown,aJ _⟩;subst hqd;exact Su hB rfl _ rfl
end
section
open Go.RowKit
open bE (dh Nd vl Ge)
def opt(D:dh)(left:Bool)(i:Nat):List Nat:=match D[i]? with
 |some nd=>if left then nd.1 else nd.2
 |none=>[]
def nU(D:dh)(left:Bool)(i j:Nat):Prop:=if left then Ge (vl D i) (vl D j)else Ge (vl D j) (vl D i)
def ano(D:dh)(root x:Nat)(left:Bool)(v:Int):Prop:=
 (v=-1/\∀y,y∈opt D (!left) x->¬nU D left root y)\/∃y,y∈opt D (!left) x/\v=(y:Int)/\nU D left root y
theorem Gz(po pb kb:Nat)(vn vb:Value)(D:dh)(root x:Nat)(left:Bool)(w:World)(hO:Ord w po pb kb vn vb D)(hr:root<D.length)(hx:x<D.length):
 Calls prog 163 #[.pointer (some ⟨po,0,none⟩),.int .i64 root,.int .i64 x,.bool left] w λe w'=>∃v:Int,e=.returned (.int .i64 v)/\ano D root x left v/\Ord w' po pb kb vn vb D/\w.grownBy w' (some kb):=by
 have hds:=hO.at.small;have QZ:=hO.at.good.wf x _ (af hx);go_enter Tryz.func163,Tryz.ntmps163
 cases left
 ·
  obtain⟨gn,cn,L,R,rfl,hG,-,-⟩:=hO.lists hx;obtain⟨gL,gR,iL,iR⟩:=hG w (World.grownBy.refl _ _);have c0:=hO.cell0;have b0:=hO.at.cell0;obtain⟨a,cap,rfl,hlc,hcap,hcw⟩:=iL;have hI:∀w',w.grownBy w' (some kb)->Ints w' (.slice a (dB (D[x]).1).length cap) (dB (D[x]).1):=λw' hg=>(hG w' hg).2.2.1
  rw[bG]at hlc hcap gL hI;have HI:=aW hI;have HW:=aW QZ;clear hcw hG hI;go_wp2
  go_loopw [12] (λi wr=>∃k,k<=(D[x]).1.length/\i=.int .i64 ((k:Nat):Int)/\Ord wr po pb kb (.slice (some ⟨gn,0,none⟩) D.length cn) vb D/\w.grownBy wr (some kb)/\Hid (∀j (h:j<(D[x]).1.length),j<k->¬Ge (vl D (D[x]).1[j]) (vl D root))) (λi _=>(D[x]).1.length-(intOf i).toNat)
  case atStart=>exact⟨0,aU _,rfl,hO,World.grownBy.refl _ _,λj _ h=>absurd h (by omega)⟩
  case round=>
   clear c0 b0;obtain⟨k,hk,rfl,Gl,hgr,HN⟩:=hrel;obtain⟨a0,cap0,he,_,_,hcells⟩:=HI.out _ hgr;simp only[il,bG]at he;obtain⟨rfl,-,rfl⟩:=he;rw[bG]at hcells;by_cases hlt:k<(D[x]).1.length
   .obtain⟨b,o,rfl,hcell⟩:=hcells (by omega)
    have hck:=hcell k hlt;rw[iA hlt]at hck;have Gh:=HW.out.1 _ (ai hlt);clear hcell hcells;by_cases hge:Ge (vl D (D[x]).1[k]) (vl D root)
    .go_wp2_with (go_at_call 165;refine(BJ _ _ _ _ _ _ (D[x]).1[k] root _ Gl (by omega) hr).mono ?_;rintro e w1 ⟨g,rfl,hg,hO2,qC⟩
                  obtain rfl:g=true:=hg.2 hge;have Mc:w1.cell? ⟨b,o+k,none⟩=some (.int .i64 ((D[x]).1[k]:Int)):=by
                   obtain⟨a0,cap0,he,_,_,hcells⟩:=HI.out _ (hgr.trans qC);simp only[il,bG]at he;obtain⟨rfl,-,rfl⟩:=he;rw[bG]at hcells;obtain⟨b',o',he',hcell⟩:=hcells (by omega);simp only[bU,Addr.mk.injEq,and_true]at he';obtain⟨rfl,rfl⟩:=he';rw[hcell k hlt,iA hlt]
                  clear hg)
     go_ret
     exact⟨_,rfl,.inr ⟨(D[x]).1[k],by simp[opt,hx],rfl,by simpa [nU]using hge⟩,hO2,hgr.trans qC⟩
    .go_wp2_with (go_at_call 165;refine(BJ _ _ _ _ _ _ (D[x]).1[k] root _ Gl (by omega) hr).mono ?_;rintro e w1 ⟨g,rfl,hg,hO2,qC⟩
                  obtain rfl:g=false:=(by simpa using(λe=>hge (hg.1 e)));clear hg)
     go_roundw
     case rel=>exact⟨k+1,by omega,by go_num,hO2,hgr.trans qC,Ad hlt HN hge⟩
     case measure=>simp[intOf];omega
   .clear hcells
    go_wp2
    go_ret
    refine⟨-1,rfl,.inl ⟨rfl,λy hy=>?_⟩,Gl,hgr⟩;rw[show opt D (!false) x=(D[x]).1 by simp[opt,hx]]at hy;obtain⟨j,hj,rfl⟩:=aQ.1 hy
    simpa [nU]using HN.out j hj (by omega)
 ·
  obtain⟨gn,cn,L,R,rfl,hG,-,-⟩:=hO.lists hx;obtain⟨gL,gR,iL,iR⟩:=hG w (World.grownBy.refl _ _);have c0:=hO.cell0;have b0:=hO.at.cell0;obtain⟨a,cap,rfl,hlc,hcap,hcw⟩:=iR;have hI:∀w',w.grownBy w' (some kb)->Ints w' (.slice a (dB (D[x]).2).length cap) (dB (D[x]).2):=λw' hg=>(hG w' hg).2.2.2
  rw[bG]at hlc hcap gR hI;have HI:=aW hI;have HW:=aW QZ;clear hcw hG hI;go_wp2
  go_loopw [10] (λi wr=>∃k,k<=(D[x]).2.length/\i=.int .i64 ((k:Nat):Int)/\Ord wr po pb kb (.slice (some ⟨gn,0,none⟩) D.length cn) vb D/\w.grownBy wr (some kb)/\Hid (∀j (h:j<(D[x]).2.length),j<k->¬Ge (vl D root) (vl D (D[x]).2[j]))) (λi _=>(D[x]).2.length-(intOf i).toNat)
  case atStart=>exact⟨0,aU _,rfl,hO,World.grownBy.refl _ _,λj _ h=>absurd h (by omega)⟩
  case round=>
   clear c0 b0;obtain⟨k,hk,rfl,Gl,hgr,HN⟩:=hrel;obtain⟨a0,cap0,he,_,_,hcells⟩:=HI.out _ hgr;simp only[il,bG]at he;obtain⟨rfl,-,rfl⟩:=he;rw[bG]at hcells;by_cases hlt:k<(D[x]).2.length
   .obtain⟨b,o,rfl,hcell⟩:=hcells (by omega)
    have hck:=hcell k hlt;rw[iA hlt]at hck;have Gh:=HW.out.2 _ (ai hlt);clear hcell hcells;by_cases hge:Ge (vl D root) (vl D (D[x]).2[k])
    .go_wp2_with (go_at_call 165;refine(BJ _ _ _ _ _ _ root (D[x]).2[k] _ Gl hr (by omega)).mono ?_;rintro e w1 ⟨g,rfl,hg,hO2,qC⟩
                  obtain rfl:g=true:=hg.2 hge;have Mc:w1.cell? ⟨b,o+k,none⟩=some (.int .i64 ((D[x]).2[k]:Int)):=by
                   obtain⟨a0,cap0,he,_,_,hcells⟩:=HI.out _ (hgr.trans qC);simp only[il,bG]at he;obtain⟨rfl,-,rfl⟩:=he;rw[bG]at hcells;obtain⟨b',o',he',hcell⟩:=hcells (by omega);simp only[bU,Addr.mk.injEq,and_true]at he';obtain⟨rfl,rfl⟩:=he';rw[hcell k hlt,iA hlt]
                  clear hg)
     go_ret
     exact⟨_,rfl,.inr ⟨(D[x]).2[k],by simp[opt,hx],rfl,by simpa [nU]using hge⟩,hO2,hgr.trans qC⟩
    .go_wp2_with (go_at_call 165;refine(BJ _ _ _ _ _ _ root (D[x]).2[k] _ Gl hr (by omega)).mono ?_;rintro e w1 ⟨g,rfl,hg,hO2,qC⟩
                  obtain rfl:g=false:=(by simpa using(λe=>hge (hg.1 e)));clear hg)
     go_roundw
     case rel=>exact⟨k+1,by omega,by go_num,hO2,hgr.trans qC,Cs hlt HN hge⟩
     case measure=>simp[intOf];omega
   .clear hcells
    go_wp2
    go_ret
    refine⟨-1,rfl,.inl ⟨rfl,λy hy=>?_⟩,Gl,hgr⟩;rw[show opt D (!true) x=(D[x]).2 by simp[opt,hx]]at hy;obtain⟨j,hj,rfl⟩:=aQ.1 hy
    simpa [nU]using HN.out j hj (by omega)
end
section
open Go.RowKit
open bE (dh Nd vl Ge)
variable {l:List Nat} {D:dh} {left:Bool} {z:List Int} {i k kb:Nat} {w:World}
theorem abl{l:List Int}(h:l.Pairwise (· < ·)){a:Int}{n:Nat}(hb:∀y,y∈l->a<=y/\y<a+n):l.length<=n:=by
 induction l generalizing a n with
 |nil=>simp
 |cons x l ih=>
  have hx:=hb x (by simp);have hl:=lu.1 h;cases n with
  |zero=>omega
  |succ n=>
   have:=ih hl.2 (a:=a+1) (n:=n) (λy hy=>by have:=hl.1 y hy;have:=hb y (by simp[hy]);omega);simp;omega
def oI(D:dh)(left:Bool)(l:List Nat)(i k:Nat):Prop:=k≠i/\nU D left (l.getD k 0) (l.getD i 0)/\(¬nU D left (l.getD i 0) (l.getD k 0)\/k<i)
def Y7(D:dh)(left:Bool)(l:List Nat)(i:Nat):Prop:=∃k,k<l.length/\oI D left l i k
structure jh(D:dh)(left:Bool)(l:List Nat)(z:List Int)(i k:Nat):Prop where
 xD:z.Pairwise (· < ·)
 bd:∀y,y∈z->0<=y/\y<l.length
 mem:∀j:Nat,(j:Int)∈z↔(j<i/\Y7 D left l j)\/(j=i/\∃k',k'<k/\oI D left l i k')
theorem jh.len(h:jh D left l z i k):z.length<=l.length:=abl h.xD (a:=0) (λy hy=>by have:=h.bd y hy;omega)
theorem jh.nil(D:dh)(left:Bool)(l:List Nat):jh D left l [] 0 0:=⟨List.Pairwise.nil,by simp,by simp⟩
theorem jh.no(h:jh D left l z i k)(hn:¬oI D left l i k):jh D left l z i (k+1):=by
 refine⟨h.xD,h.bd,λj=>?_⟩;rw[h.mem];refine or_congr Iff.rfl (and_congr Iff.rfl ⟨λ⟨k',a,b⟩=>⟨k',by omega,b⟩,λ⟨k',a,b⟩=>⟨k',?_,b⟩⟩);rcases ib k' k with c|c
 .exact c
 .have:k'=k:=by omega
  subst this;exact absurd b hn
theorem jh.yes(h:jh D left l z i k)(hi:i<l.length)(hn:oI D left l i k):jh D left l (um z i) i (k+1):=by
 refine⟨K6 h.xD,λy hy=>?_,λj=>?_⟩
 .rcases EI.1 hy with hy|rfl
  .exact h.bd y hy
  .omega
 .rw[EI,h.mem]
  constructor
  .rintro((a|⟨a,k',b,c⟩)|a)
   .exact .inl a
   .exact .inr ⟨a,k',by omega,c⟩
   .exact .inr ⟨by omega,k,by omega,hn⟩
  .rintro(a|⟨a,k',b,c⟩)
   .exact .inl (.inl a)
   .exact .inr (by omega)
theorem jh.next(h:jh D left l z i l.length):jh D left l z (i+1) 0:=by
 refine⟨h.xD,h.bd,λj=>?_⟩;rw[h.mem];constructor
 .rintro(⟨a,b⟩|⟨rfl,k',b,c⟩)
  .exact .inl ⟨by omega,b⟩
  .exact .inl ⟨by omega,k',b,c⟩
 .rintro(⟨a,b⟩|⟨_,k',b,_⟩)
  .rcases ib j i with c|c
   .exact .inl ⟨c,b⟩
   .have:j=i:=by omega
    subst this;exact .inr ⟨rfl,b⟩
  .omega
theorem wW{w':World}{v:Value}{l:List Int}(h:Ints w v l)(hg:w.grownBy w' (some kb))(hk:∀b,v.ownBlock=some b->b≠kb):Ints w' v l:=
 h.keep (λb hl hb=>hg.block b (h.blk hl hb) (by simpa using hk b hb))
theorem Ord.QT{po pb:Nat}{vn vb:Value}(h:Ord w po pb kb vn vb D):kb<w.heap.size:=by
 obtain⟨kn,hO,_⟩:=h;exact(hO.own.lt kb rfl).2
structure Nc(po pb kb:Nat)(vn vb:Value)(D:dh)(w:World)(row:Option Nat)(w':World):Prop where
 ord:Ord w' po pb kb vn vb D
 gr:w.grownBy w' row
theorem Nc.drew{po pb kb:Nat}{vn vb:Value}{D:dh}{w:World}{row:Option Nat}{w':World}(h:Nc po pb kb vn vb D w row w'):Nc po pb kb vn vb D w row w'.drew:=⟨h.ord.grown ⟨rfl,rfl,rfl,aJ _,λ_ _ _=>rfl⟩,⟨h.gr.os,h.gr.tape,h.gr.output,h.gr.size,h.gr.block⟩⟩
theorem aa2(po pb kb:Nat)(vn vb:Value)(D:dh)(wr:World)(b o1 o2:Nat)(u1 u2:Value)(x y:Nat)(w:World)(hb:b≠kb)(hS:Nc po pb kb vn vb D wr (some kb) w/\w.cell? ⟨b,o1,none⟩=some u1/\w.cell? ⟨b,o2,none⟩=some u2)(hx:x<D.length)(hy:y<D.length)(g:Bool)(hgg:g=true↔Ge (vl D x) (vl D y)):
 Calls prog 165 #[.pointer (some ⟨po,0,none⟩),.int .i64 x,.int .i64 y] w λe w'=>e=.returned (.bool g)/\(Nc po pb kb vn vb D wr (some kb) w'/\w'.cell? ⟨b,o1,none⟩=some u1/\w'.cell? ⟨b,o2,none⟩=some u2):=by
 refine(BJ po pb kb vn vb D x y w hS.1.ord hx hy).mono ?_;rintro e w' ⟨g',rfl,hg,hO,hgr⟩;obtain rfl:g'=g:=uk.2 (hg.trans hgg.symm);exact⟨rfl,⟨hO,hS.1.gr.trans hgr⟩,hgr.cell hS.2.1 (by simpa using hb),hgr.cell hS.2.2 (by simpa using hb)⟩
theorem xC(po pb kb:Nat)(vn vb v:Value)(D:dh)(l:List Nat)(left:Bool)(w:World)(hO:Ord w po pb kb vn vb D)(hv:Ints w v (dB l))(hvk:∀b,v.ownBlock=some b->b≠kb)(hl:∀x,x∈l->x<D.length)(hll:l.length<=1000000):
 Calls prog 118 #[.pointer (some ⟨po,0,none⟩),v,.bool left] w λe w'=>∃v' z,e=.returned v'/\Ints w' v' z/\jh D left l z l.length 0/\Ord w' po pb kb vn vb D/\w.grownBy w' (some kb)/\(∀b,v'.ownBlock=some b->w.heap.size<=b/\b<w'.heap.size):=by
 have hkb:=hO.QT;have HV:=aW hv;obtain⟨a,cap,rfl,hlc,hcap,hcells⟩:=hv;rw[bG]at hlc hcap hcells;rw[bG]at HV ⊢;go_enter Tryz.func118,Tryz.ntmps118
 go_wp2
 go_loopw [7,8] (λo i wr=>∃k z,k<=l.length/\i=.int .i64 ((k:Nat):Int)/\Ints wr o z/\jh D left l z k 0/\Ord wr po pb kb vn vb D/\w.grownBy wr (some kb)/\Hid (∀b,o.ownBlock=some b->w.heap.size<=b/\b<wr.heap.size)) (λ_ i _=>l.length-(intOf i).toNat)
 case atStart=>exact⟨0,[],aU _,rfl,Ints.nil _ _ _,jh.nil _ _ _,hO.grown (jX (by go_grown)),(jX (by go_grown)).but _,λb hb=>by simp[Value.ownBlock]at hb;subst hb;simp⟩
 case round=>
  obtain⟨i,z,hi,rfl,hI,hinv,JF,hgr,HF⟩:=hrel;by_cases hlt:i<l.length
  .obtain⟨wo,rfl⟩:∃wo:World,wo=wr:=⟨_,rfl⟩
   go_wp2
   go_loopw [7,9,10,11] (λo kk u1 u2 wr=>∃k z,k<=l.length/\kk=.int .i64 ((k:Nat):Int)/\Ints wr o z/\jh D left l z i k/\Ord wr po pb kb vn vb D/\w.grownBy wr (some kb)/\Hid (∀b,o.ownBlock=some b->w.heap.size<=b/\b<wr.heap.size)) (λ_ kk _ _ _=>l.length-(intOf kk).toNat)
   case atStart=>exact⟨0,z,aU _,rfl,hI,hinv,JF,hgr,HF⟩
   case round=>
    clear hI hinv JF hgr HF;obtain⟨k,z,hk,rfl,hI,hinv,JF,hgr,HF⟩:=hrel;by_cases hkt:k<l.length
    .obtain⟨b,o,rfl,hcell⟩:=hcells (by omega)
     have hbk:b≠kb:=hvk b rfl;have ck:=hgr.cell (hcell k hkt) (by simpa using hbk);have ci:=hgr.cell (hcell i hlt) (by simpa using hbk);rw[iA hkt]at ck;rw[iA hlt]at ci;have hS0:Nc po pb kb vn vb D wr (some kb) wr/\wr.cell? ⟨b,o+k,none⟩=some (.int .i64 (l[k]:Int))/\wr.cell? ⟨b,o+i,none⟩=some (.int .i64 (l[i]:Int)):=⟨⟨JF,World.grownBy.refl _ _⟩,ck,ci⟩;obtain⟨hS1,hS2,CB⟩:=hS0;clear hcell hcells;have hlk:=hl _ (ai hkt);have hli:=hl _ (ai hlt);obtain⟨g1,hg1⟩:∃g:Bool,g=true↔Ge (vl D l[k]) (vl D l[i]):=(by by_cases h:Ge (vl D l[k]) (vl D l[i]);exact⟨true,by simp[h]⟩;exact⟨false,by simp[h]⟩);obtain⟨g2,hg2⟩:∃g:Bool,g=true↔Ge (vl D l[i]) (vl D l[k]):=(by by_cases h:Ge (vl D l[i]) (vl D l[k]);exact⟨true,by simp[h]⟩;exact⟨false,by simp[h]⟩);go_wp2_with fail
     go_region_held3 (λw'=>Nc po pb kb vn vb D wr (some kb) w'/\w'.cell? ⟨b,o+k,none⟩=some (.int .i64 (l[k]:Int))/\w'.cell? ⟨b,o+i,none⟩=some (.int .i64 (l[i]:Int))) (refine⟨?_,?_,?_⟩ <;> first|assumption|exact Nc.drew (by assumption)) (first
      |(go_at_call 165;refine(aa2 po pb kb vn vb D wr b (o+k) (o+i) _ _ _ _ _ hbk (by first|assumption|exact⟨by assumption,by assumption,by assumption⟩) (by assumption) (by assumption) _ (by first|exact hg1|exact hg2)).mono ?_;rintro e w1 ⟨rfl,hSa,hSb,hSc⟩))
     have hIz:Ints w1 u7 z:=wW hI hSa.gr (λb hb=>by have:=HF.out b hb;omega);have hF1:∀b,u7.ownBlock=some b->w.heap.size<=b/\b<w1.heap.size:=λb hb=>⟨(HF.out b hb).1,bg (HF.out b hb).2 hSa.gr.size⟩
     have hzl:z.length<=1000000000:=(by have:=hinv.len;omega);have hGR:=hgr.trans hSa.gr;have hwz:w.heap.size<=w1.heap.size:=hGR.size;have HD:Hid (oI D left l i k↔(k≠i/\(if left then g1 else g2)=true/\((if left then g2 else g1)=false\/k<i))):=by
      show oI D left l i k↔_;unfold oI nU;simp only[List.getD,af hkt,af hlt,kI];cases left <;> simp[hg1,hg2,<-Bool.not_eq_true]
     have ZA:=aW hF1;have HI:=aW hinv;have HS:=aW hSa;have HG:=aW hGR;clear hF1 hinv hSa hGR hgr hS1 hS2 CB hI JF HF hg1 hg2 ck ci hSb hSc hlk hli;cases left <;> cases g1 <;> cases g2 <;> rcases nV k i with hki|rfl|hki
     all_goals (go_wp2_with (go_at_call 161;refine(vz _ _ _ _ hIz hzl).mono ?_;rintro e w2 ⟨v1,rfl,hI1,hx1,hn1⟩))
     all_goals go_roundw
     any_goals (case measure=>simp[intOf];omega)
     all_goals first
      |exact⟨k+1,z,by omega,by go_num,hIz,HI.out.no (λh=>by have h:=HD.out.1 h;first|(simp at h;done)|(simp at h;omega)),HS.out.ord,HG.out,ZA.out⟩
      |exact⟨k+1,um z i,by omega,by go_num,hI1,HI.out.yes hlt (HD.out.2 (by first|(simp;done)|(simp;omega))),HS.out.ord.grown (jX hx1),HG.out.trans ((jX hx1).but _),vk ZA.out hwz hx1.size hn1⟩
      |trace_state
    .have hkl:k=l.length:=by omega
     subst hkl;go_wp2
     go_roundw
     case rel=>exact⟨i+1,z,by omega,by go_num,hI,hinv.next,JF,hgr,HF⟩
     case measure=>simp[intOf];omega
  .have hil:i=l.length:=by omega
   subst hil;go_wp2
   go_ret
   exact⟨_,z,rfl,hI,hinv,JF,hgr,HF.out⟩
end
