/- 10 -/
import Derived.Test.YtplgooajigigkaaGreatDoorQ9
set_option maxRecDepth 100000
set_option maxHeartbeats 4000000
namespace Go.Proofs.YtplgooajigigkaaGreatDoor
open Tryz
section
open Go.RowKit
open aZ (cZ Nd vl Ge)
variable {w:World} {po pb kb n i j k x m y:Nat} {vn vb:Value} {D:cZ} {kn:List Int} {l:List Nat}
structure jl(w:World)(po pb kb:Nat)(vn vb:Value)(D:cZ)(kn:List Int):Prop where
 book:∀w',w.grownBy w' (some kb)->dK w' pb vn vb D
 apart:po≠kb
 cell0:w.cell? ⟨po,0,none⟩=some (.pointer (some ⟨pb,0,none⟩))
 cell1:w.cell? ⟨po,1,none⟩=some (.slice (some ⟨kb,0,none⟩) (D.length*D.length) (D.length*D.length))
 own:w.ownsRow 0 3 1 (.slice (some ⟨kb,0,none⟩) (D.length*D.length) (D.length*D.length)) (D.length*D.length) (kn.map (Value.int .i64))
 lists:∀i (h:i<D.length),∃g cap L R,vn=.slice (some ⟨g,0,none⟩) D.length cap/\(∀w',w.grownBy w' (some kb)->w'.cell? ⟨g,i*2,none⟩=some L/\w'.cell? ⟨g,i*2+1,none⟩=some R/\Ints w' L (bV (D[i]).1)/\Ints w' R (bV (D[i]).2))/\(∀b,L.ownBlock=some b->b≠kb)/\(∀b,R.ownBlock=some b->b≠kb)
theorem jl.at(h:jl w po pb kb vn vb D kn):dK w pb vn vb D:=h.book w (World.grownBy.refl _ _)
theorem jl.len(h:jl w po pb kb vn vb D kn):kn.length=D.length*D.length:=by have:=h.own.1;simpa using this
theorem jl.grown{w':World}{Iw:List Int}(h:jl w po pb kb vn vb D kn)(hg:w.grownBy w' (some kb))
 (ho:w'.ownsRow 0 3 1 (.slice (some ⟨kb,0,none⟩) (D.length*D.length) (D.length*D.length)) (D.length*D.length) (Iw.map (Value.int .i64))):jl w' po pb kb vn vb D Iw:=
 ⟨λw'' g=>h.book w'' (hg.trans g),h.apart,hg.cell h.cell0 (by simpa using h.apart),hg.cell h.cell1 (by simpa using h.apart),ho,λi hi=>by obtain⟨g,cap,L,R,h1,h2,h3⟩:=h.lists i hi;exact⟨g,cap,L,R,h1,λw'' k=>h2 w'' (hg.trans k),h3⟩⟩
theorem Sc(hi:i<n)(hj:j<n):i*n+j<n*n:=by
 have:(i+1)*n<=n*n:=kV n hi;rw[rJ,Nat.one_mul]at this;omega
theorem xZ{i' j':Nat}(hj:j<n)(hj':j'<n)(h:i*n+j=i'*n+j'):i=i'/\j=j':=by
 have h1:(i*n+j) / n=i:=by rw[kP,Nat.mul_add_div (by omega),Nat.div_eq_of_lt hj,Nat.add_zero]
 have h2:(i'*n+j') / n=i':=by rw[kP,Nat.mul_add_div (by omega),Nat.div_eq_of_lt hj',Nat.add_zero]
 have e:i=i':=by rw[<-h1,<-h2,h]
 subst e;omega
theorem jl.known(h:jl w po pb kb vn vb D kn)(hk:k<D.length*D.length):w.cell? ⟨kb,k,none⟩=some (.int .i64 (dD kn k)):=by
 rw[h.own.cellAt k (by omega)];have:k<kn.length:=by rw[h.len];exact hk
 simp[dD,this]
theorem jl.free(h:jl w po pb kb vn vb D kn)(k:Nat):w.frozen? ⟨kb,k,none⟩=false:=h.own.frozenAt k
theorem jl.set{w:World}{po pb kb:Nat}{vn vb:Value}{D:cZ}{kn:List Int}(h:jl w po pb kb vn vb D kn)(k:Nat)(x:Int):
 jl (w.setCell ⟨kb,k,none⟩ (.int .i64 x)) po pb kb vn vb D (kn.set k x)/\w.grownBy (w.setCell ⟨kb,k,none⟩ (.int .i64 x)) (some kb):=by
 have hs:=h.own.stored k (.int .i64 x);refine⟨h.grown hs.2 ?_,hs.2⟩;rw[uf];exact hs.1
theorem mW{l:List Int}{x:Int}(hk:k<l.length):dD (l.set k x) j=if k=j then x else dD l j:=by
 unfold dD;rw[jR];split
 .rename_i e;subst e;simp
 .rfl
def xu(D:cZ)(kn:List Int)(m:Nat):Prop:=∀i j,i<D.length->j<D.length->i+j<m->
 dD kn (i*D.length+j)=0\/(dD kn (i*D.length+j)=1/\Ge (vl D i) (vl D j))\/(dD kn (i*D.length+j)=2/\¬Ge (vl D i) (vl D j))
def wM(D:cZ)(kn Iw:List Int)(m:Nat):Prop:=∀i j,i<D.length->j<D.length->m<=i+j->dD Iw (i*D.length+j)=dD kn (i*D.length+j)
def NS(po pb kb:Nat)(vn vb:Value)(D:cZ)(kn:List Int)(x y M m:Nat)(w:World)(e:Ending)(w':World):Prop:=
 ∃g Iw,e=.returned (.bool g)/\(g=true↔Ge (vl D x) (vl D y))/\jl w' po pb kb vn vb D Iw/\w.grownBy w' (some kb)/\xu D Iw M/\wM D kn Iw m
def Va(m:Nat):Prop:=∀(po pb kb:Nat) (vn vb:Value) (D:cZ) (kn:List Int) (x y M:Nat) (w:World),jl w po pb kb vn vb D kn->x<D.length->y<D.length->x+y<m->x+y<M->xu D kn M->
 Calls prog 165 #[.pointer (some ⟨po,0,none⟩),.int .i64 x,.int .i64 y] w (NS po pb kb vn vb D kn x y M (x+y+1) w)
def UO(m:Nat):Prop:=∀(po pb kb:Nat) (vn vb:Value) (D:cZ) (kn:List Int) (x y:Nat) (w:World),jl w po pb kb vn vb D kn->x<D.length->y<D.length->x+y<m->xu D kn (x+y)->
 Calls prog 199 #[.pointer (some ⟨po,0,none⟩),.int .i64 x,.int .i64 y] w (NS po pb kb vn vb D kn x y (x+y) (x+y) w)
theorem Tz(YT:UO m):Va m:=by
 intro po pb kb vn vb D kn x y M w hO hx hy hm hM hH;have hB:=hO.at;have hds:=hB.small;obtain⟨xs,hown,_⟩:=hB.nodes;obtain⟨an,cn,rfl,hn1,hn2⟩:=bu hown;have c0:=hO.cell0;have c1:=hO.cell1;have b0:=hB.cell0;have hidx:=Sc hx hy;have hk:=hO.known hidx;have hf:=hO.free (x*D.length+y);have hp:(x:Int)*((D.length:Nat):Int)=((x*D.length:Nat):Int):=by simp
 have hpb:x*D.length<=1000000000000:=df (Nat.mul_le_mul (df (Nat.le_of_lt hx) hds) hds) (by decide);have hsz:D.length*D.length<=1000000000000:=df (Nat.mul_le_mul hds hds) (by decide);go_enter Tryz.func165,Tryz.ntmps165
 generalize hpd:x*D.length=p at *;generalize hqd:D.length*D.length=q at *;have SQ:p+y<D.length*D.length:=by rw[hqd];exact hidx
 by_cases hz:dD kn (p+y)=0
 .have hz0:(dD kn (p+y)== 0)=true:=by simp[hz]
  have hS:=hO.set (p+y) 2;have hl1:p+y<kn.length:=by rw[hO.len];exact SQ
  have hH1:xu D (kn.set (p+y) 2) (x+y):=by
   intro i j hi hj hij;have hne:¬p+y=i*D.length+j:=(by rw[<-hpd];intro e;have:=xZ hy hj e;omega);rw[mW hl1,if_neg hne];exact hH i j hi hj (by omega)
  have HH:=aI hH;have HL:=aI YT;have HP:=aI hpd;have HQ:=aI hqd;have HO:=aI hO;have HI:=aI SQ;clear hH YT hpd hz;clear hqd SQ;by_cases hge:Ge (vl D x) (vl D y)
  .go_wp2_with (go_at_call 199;refine(HL.out _ _ _ _ _ _ _ x y _ hS.1 hx hy hm hH1).mono ?_;rintro e w1 ⟨g,Nf,rfl,hg,hO2,hgr,hH2,hA2⟩
                have c1':=hO2.cell1;rw[HQ.out]at c1';have hk2:=hO2.known HI.out;have hf2:=hO2.free (p+y);have hv2:dD Nf (p+y)=2:=by
                 have h:=hA2 x y hx hy (ax _);rw[HP.out,mW hl1,if_pos rfl]at h;exact h
                rw[hv2]at hk2;obtain rfl:g=true:=hg.2 hge;clear hg;have hl2:p+y<Nf.length:=(by rw[hO2.len];exact HI.out);have Eg:=hO2.set (p+y) 1;have ahV:=Eg.1.cell1;rw[HQ.out]at ahV;have hk3:=Eg.1.known HI.out;rw[mW hl2,if_pos rfl]at hk3)
   go_ret
   refine⟨_,Nf.set (p+y) 1,rfl,by simp[hge],Eg.1,(hS.2.trans hgr).trans Eg.2,?_,?_⟩
   .intro i j hi hj hij
    by_cases hne:p+y=i*D.length+j
    .obtain⟨e1,e2⟩:=xZ (i:=x) (i':=i) hy hj (by rw[HP.out];exact hne)
     rw[<-hne,<-e1,<-e2,mW hl2,if_pos rfl];exact .inr (.inl ⟨rfl,hge⟩)
    .rw[mW hl2,if_neg hne]
     by_cases hlt:i+j<x+y
     .exact hH2 i j hi hj hlt
     .rw[hA2 i j hi hj (by omega),mW hl1,if_neg hne];exact HH.out i j hi hj hij
   .intro i j hi hj hij
    have hne:¬p+y=i*D.length+j:=(by rw[<-HP.out];intro e;have:=xZ hy hj e;omega);rw[mW hl2,if_neg hne,hA2 i j hi hj (by omega),mW hl1,if_neg hne]
  .go_wp2_with (go_at_call 199;refine(HL.out _ _ _ _ _ _ _ x y _ hS.1 hx hy hm hH1).mono ?_;rintro e w1 ⟨g,Nf,rfl,hg,hO2,hgr,hH2,hA2⟩
                have c1':=hO2.cell1;rw[HQ.out]at c1';have hk2:=hO2.known HI.out;have hf2:=hO2.free (p+y);have hv2:dD Nf (p+y)=2:=by
                 have h:=hA2 x y hx hy (ax _);rw[HP.out,mW hl1,if_pos rfl]at h;exact h
                rw[hv2]at hk2;obtain rfl:g=false:=(by simpa using(λe=>hge (hg.1 e)));clear hg)
   go_ret
   refine⟨_,Nf,rfl,by simp[hge],hO2,hS.2.trans hgr,?_,?_⟩
   .intro i j hi hj hij
    by_cases hne:p+y=i*D.length+j
    .obtain⟨e1,e2⟩:=xZ (i:=x) (i':=i) hy hj (by rw[HP.out];exact hne)
     rw[<-hne,<-e1,<-e2];exact .inr (.inr ⟨hv2,hge⟩)
    .by_cases hlt:i+j<x+y
     .exact hH2 i j hi hj hlt
     .rw[hA2 i j hi hj (by omega),mW hl1,if_neg hne];exact HH.out i j hi hj hij
   .intro i j hi hj hij
    have hne:¬p+y=i*D.length+j:=(by rw[<-HP.out];intro e;have:=xZ hy hj e;omega);rw[hA2 i j hi hj (by omega),mW hl1,if_neg hne]
 .have hz0:(dD kn (p+y)== 0)=false:=by simpa using hz
  go_wp2
  go_ret
  refine⟨_,kn,rfl,?_,hO,World.grownBy.refl _ _,hH,λ_ _ _ _ _=>rfl⟩;rcases hH x y hx hy hM with h|⟨h,h'⟩|⟨h,h'⟩
  .rw[hpd]at h;exact absurd h hz
  .rw[hpd]at h;simp[h,h']
  .rw[hpd]at h;simp[h,h']
theorem wM.trans{D:cZ}{a b c:List Int}{m:Nat}(h:wM D a b m)(k:wM D b c m):wM D a c m:=λi j hi hj hij=>(k i j hi hj hij).trans (h i j hi hj hij)
theorem wM.mono{a b:List Int}{m':Nat}(h:wM D a b m)(hm:m<=m'):wM D a b m':=λi j hi hj hij=>h i j hi hj (by omega)
theorem xV(hD:aZ.WF D)(hx:x<D.length)(hk:k<(D[x]).2.length)(h:Ge (vl D y) (vl D (D[x]).2[k])):¬Ge (vl D x) (vl D y):=by
 intro g;refine((aZ.dY _ _).1 g).1 _ ?_ h;rw[aZ.oK hD (ae hx)];exact ay.2 ⟨_,aj hk,rfl⟩
theorem xW(hD:aZ.WF D)(hy:y<D.length)(hk:k<(D[y]).1.length)(h:Ge (vl D (D[y]).1[k]) (vl D x)):¬Ge (vl D x) (vl D y):=by
 intro g;refine((aZ.dY _ _).1 g).2 _ ?_ h;rw[aZ.oN hD (ae hy)];exact ay.2 ⟨_,aj hk,rfl⟩
theorem D5(hD:aZ.WF D)(hx:x<D.length)(hy:y<D.length)(hr:∀j (h:j<(D[x]).2.length),¬Ge (vl D y) (vl D (D[x]).2[j]))(hl:∀j (h:j<(D[y]).1.length),¬Ge (vl D (D[y]).1[j]) (vl D x)):Ge (vl D x) (vl D y):=by
 rw[aZ.dY,aZ.oK hD (ae hx),aZ.oN hD (ae hy)];constructor
 .intro r hr'
  obtain⟨i,hi,rfl⟩:=ay.1 hr';obtain⟨j,hj,rfl⟩:=aH.1 hi;exact hr j hj
 .intro r hr'
  obtain⟨i,hi,rfl⟩:=ay.1 hr';obtain⟨j,hj,rfl⟩:=aH.1 hi;exact hl j hj
theorem y7(hk:k<l.length)(h:Hid (∀j (h:j<l.length),j<k->¬Ge (vl D y) (vl D l[j])))(hn:¬Ge (vl D y) (vl D l[k])):Hid (∀j (h:j<l.length),j<k+1->¬Ge (vl D y) (vl D l[j])):=by
 intro j hj hjk;by_cases e:j=k
 .subst e;exact hn
 .exact h j hj (by omega)
theorem wT(hk:k<l.length)(h:Hid (∀j (h:j<l.length),j<k->¬Ge (vl D l[j]) (vl D x)))(hn:¬Ge (vl D l[k]) (vl D x)):Hid (∀j (h:j<l.length),j<k+1->¬Ge (vl D l[j]) (vl D x)):=by
 intro j hj hjk;by_cases e:j=k
 .subst e;exact hn
 .exact h j hj (by omega)
theorem OT(SX:Va m):UO (m+1):=by
 intro po pb kb vn vb D kn x y w hO hx hy hm hH;have hB:=hO.at;have hds:=hB.small;have hD:=hB.good.wf;have HD:=aI hD;have Pf:=hD x _ (ae hx);have hyw:=hD y _ (ae hy);go_enter Tryz.func199,Tryz.ntmps199
 go_wp2
 go_loopw [7] (λi wr=>∃k Iw,k<=(D[x]).2.length/\i=.int .i64 ((k:Nat):Int)/\jl wr po pb kb vn vb D Iw/\w.grownBy wr (some kb)/\xu D Iw (x+y)/\wM D kn Iw (x+y)/\Hid (∀j (h:j<(D[x]).2.length),j<k->¬Ge (vl D y) (vl D (D[x]).2[j]))) (λi _=>(D[x]).2.length-(intOf i).toNat)
 case atStart=>exact⟨0,kn,az _,rfl,hO,World.grownBy.refl _ _,hH,λ_ _ _ _ _=>rfl,λj _ h=>absurd h (by omega)⟩
 case round=>
  obtain⟨k,Iw,hk,rfl,CO,hgr,VA,hA',HN⟩:=hrel;have hB':=CO.at;obtain⟨gn,Ue,L,R,rfl,hnl,hnc,hcL,hcR,Ai,Ah⟩:=hB'.qW hx;have c0:=CO.cell0;have b0:=hB'.cell0;obtain⟨aR,anV,rfl,hlR,agw,hcells⟩:=Ah;rw[aP]at hlR agw hcells;rw[aP]at hcR;by_cases hlt:k<(D[x]).2.length
  .obtain⟨bR,oR,rfl,hcell⟩:=hcells (by omega)
   have hck:=hcell k hlt;rw[fD hlt]at hck;have wY:=Pf.2 _ (aj hlt);have HO:=aI CO;have HG:=aI SX;have HH:=aI VA;have HA:=aI hA';clear hcell hcells Ai SX VA hA' hB' hB hO hH hD hyw Pf CO;by_cases hge:Ge (vl D y) (vl D (D[x]).2[k])
   .go_wp2_with (go_at_call 165;refine(HG.out _ _ _ _ _ _ _ y (D[x]).2[k] (x+y) _ HO.out hy (by omega) (by omega) (by omega) HH.out).mono ?_;rintro e w1 ⟨g,Nf,rfl,hg,hO2,nK,hH2,hA2⟩
                 obtain rfl:g=true:=hg.2 hge;clear hg)
    go_ret
    exact⟨false,Nf,rfl,by simpa using xV HD.out hx hlt hge,hO2,hgr.trans nK,hH2,HA.out.trans (hA2.mono (by omega))⟩
   .go_wp2_with (go_at_call 165;refine(HG.out _ _ _ _ _ _ _ y (D[x]).2[k] (x+y) _ HO.out hy (by omega) (by omega) (by omega) HH.out).mono ?_;rintro e w1 ⟨g,Nf,rfl,hg,hO2,nK,hH2,hA2⟩
                 obtain rfl:g=false:=(by simpa using(λe=>hge (hg.1 e)));clear hg)
    go_roundw
    case rel=>exact⟨k+1,Nf,by omega,by go_num,hO2,hgr.trans nK,hH2,HA.out.trans (hA2.mono (by omega)),y7 hlt HN hge⟩
    case measure=>simp[intOf];omega
  .have hkl:k=(D[x]).2.length:=by omega
   subst hkl;have HA:=aI hA';clear hA' hcells Ai;obtain⟨wo,rfl⟩:∃wo:World,wo=wr:=⟨_,rfl⟩;go_wp2
   go_loopw [8] (λi wr=>∃k Nf,k<=(D[y]).1.length/\i=.int .i64 ((k:Nat):Int)/\jl wr po pb kb (.slice (some ⟨gn,0,none⟩) D.length Ue) vb D Nf/\w.grownBy wr (some kb)/\xu D Nf (x+y)/\wM D kn Nf (x+y)/\Hid (∀j (h:j<(D[y]).1.length),j<k->¬Ge (vl D (D[y]).1[j]) (vl D x))) (λi _=>(D[y]).1.length-(intOf i).toNat)
   case atStart=>exact⟨0,Iw,az _,rfl,CO,hgr,VA,HA.out,λj _ h=>absurd h (by omega)⟩
   case round=>
    clear CO hgr VA hB' c0 b0 hcL hcR;obtain⟨k,kn3,hk,rfl,CO,hgr,VA,hA',vY⟩:=hrel;have hB':=CO.at;obtain⟨gn',akK,L,R,he,SE,hnc',hcL,hcR,Ai,Ah⟩:=hB'.qW hy;simp only[gz,bN,Addr.mk.injEq,true_and,and_true]at he;obtain⟨rfl,rfl⟩:=he;have c0:=CO.cell0;have b0:=hB'.cell0;obtain⟨aL,anW,rfl,Xh,agx,hcells⟩:=Ai;rw[aP]at Xh agx hcells;rw[aP]at hcL;by_cases hlt:k<(D[y]).1.length
    .obtain⟨bL,oL,rfl,hcell⟩:=hcells (by omega)
     have hck:=hcell k hlt;rw[fD hlt]at hck;have hyl:=hyw.1 _ (aj hlt);have HO:=aI CO;have HG:=aI SX;have HH:=aI VA;have HA2:=aI hA';clear hcell hcells Ah SX VA hA' hB' hB hO hH hD hyw Pf CO;by_cases hge:Ge (vl D (D[y]).1[k]) (vl D x)
     .go_wp2_with (go_at_call 165;refine(HG.out _ _ _ _ _ _ _ (D[y]).1[k] x (x+y) _ HO.out (by omega) hx (by omega) (by omega) HH.out).mono ?_;rintro e w1 ⟨g,kn4,rfl,hg,hO2,nK,hH2,hA2⟩
                   obtain rfl:g=true:=hg.2 hge;clear hg)
      go_ret
      exact⟨false,kn4,rfl,by simpa using xW HD.out hy hlt hge,hO2,hgr.trans nK,hH2,HA2.out.trans (hA2.mono (by omega))⟩
     .go_wp2_with (go_at_call 165;refine(HG.out _ _ _ _ _ _ _ (D[y]).1[k] x (x+y) _ HO.out (by omega) hx (by omega) (by omega) HH.out).mono ?_;rintro e w1 ⟨g,kn4,rfl,hg,hO2,nK,hH2,hA2⟩
                   obtain rfl:g=false:=(by simpa using(λe=>hge (hg.1 e)));clear hg)
      go_roundw
      case rel=>exact⟨k+1,kn4,by omega,by go_num,hO2,hgr.trans nK,hH2,HA2.out.trans (hA2.mono (by omega)),wT hlt vY hge⟩
      case measure=>simp[intOf];omega
    .have HA2:=aI hA'
     clear hA' hcells Ah SX;go_wp2
     go_ret
     exact⟨true,kn3,rfl,by simpa using D5 HD.out hx hy (λj h=>HN.out j h h) (λj h=>vY.out j h (by omega)),CO,hgr,VA,HA2.out⟩
theorem adP:∀m,Va m:=by
 intro m
 induction m with
 |zero=>intro po pb kb vn vb D kn x y M w _ _ _ h;omega
 |succ m ih=>exact Tz (OT ih)
end
section
open Go.RowKit
open aZ (cZ Nd vl Ge)
variable {w:World}
def Ord(w:World)(po pb kb:Nat)(vn vb:Value)(D:cZ):Prop:=∃kn,jl w po pb kb vn vb D kn/\xu D kn (D.length+D.length)
theorem Ord.grown{w w':World}{po pb kb:Nat}{vn vb:Value}{D:cZ}(h:Ord w po pb kb vn vb D)(hg:w.grownBy w' none):Ord w' po pb kb vn vb D:=by
 obtain⟨kn,hO,hH⟩:=h;exact⟨kn,hO.grown (hg.but _) (hO.own.kept hg (.inr (by simp[Value.ownBlock]))),hH⟩
theorem iG{w':World}(h:Ext w w'):w.grownBy w' none:=⟨h.os,h.tape,h.output,h.size,λk hk _=>h.block k hk⟩
theorem yo(po pb kb:Nat)(vn vb:Value)(D:cZ)(x y:Nat)(w:World)(hO:Ord w po pb kb vn vb D)(hx:x<D.length)(hy:y<D.length):
 Calls prog 165 #[.pointer (some ⟨po,0,none⟩),.int .i64 x,.int .i64 y] w λe w'=>∃g,e=.returned (.bool g)/\(g=true↔Ge (vl D x) (vl D y))/\Ord w' po pb kb vn vb D/\w.grownBy w' (some kb):=by
 obtain⟨kn,hO,hH⟩:=hO;refine(adP _ po pb kb vn vb D kn x y (D.length+D.length) w hO hx hy (Nat.lt_succ_self _) (by omega) hH).mono ?_;rintro e w' ⟨g,Iw,rfl,hg,CO,hgr,VA,_⟩;exact⟨g,rfl,hg,⟨Iw,CO,VA⟩,hgr⟩
theorem Ord.at{w:World}{po pb kb:Nat}{vn vb:Value}{D:cZ}(h:Ord w po pb kb vn vb D):dK w pb vn vb D:=by obtain⟨kn,h,_⟩:=h;exact h.at
theorem Ord.cell0{w:World}{po pb kb:Nat}{vn vb:Value}{D:cZ}(h:Ord w po pb kb vn vb D):w.cell? ⟨po,0,none⟩=some (.pointer (some ⟨pb,0,none⟩)):=by obtain⟨kn,h,_⟩:=h;exact h.cell0
theorem Ord.lists{w:World}{po pb kb:Nat}{vn vb:Value}{D:cZ}(h:Ord w po pb kb vn vb D){i:Nat}(hi:i<D.length):∃g cap L R,vn=.slice (some ⟨g,0,none⟩) D.length cap/\(∀w',w.grownBy w' (some kb)->w'.cell? ⟨g,i*2,none⟩=some L/\w'.cell? ⟨g,i*2+1,none⟩=some R/\Ints w' L (bV (D[i]).1)/\Ints w' R (bV (D[i]).2))/\(∀b,L.ownBlock=some b->b≠kb)/\(∀b,R.ownBlock=some b->b≠kb):=by obtain⟨kn,h,_⟩:=h;exact h.lists i hi
theorem sG(q:Nat):(madeCells #[Value.int .i64 0] q).toList=(List.replicate q (0:Int)).map (Value.int .i64):=by
 apply qQ;intro i;by_cases h:i<q
 .simp[madeCells,h,Nat.mod_one]
 .simp[madeCells,h]
theorem OI{pb:Nat}{vn vb:Value}{D:cZ}(hB:dK w pb vn vb D){W:World}(hW:W=((w.alloc (.cells (madeCells #[Value.int .i64 0] (D.length*D.length)) 3)).alloc (.cells #[.pointer (some ⟨pb,0,none⟩),.slice (some ⟨w.heap.size,0,none⟩) (D.length*D.length) (D.length*D.length)] 194)).drew)(po:Nat)(hpo:po=w.heap.size+1):
 Ord W po pb w.heap.size vn vb D:=by
 subst hpo;have hE:Ext w W:=by rw[hW];go_grown
 have hEg:∀w',W.grownBy w' (some w.heap.size)->Ext w w':=λw' hg=>dw hE hg (λk hk=>by injection hk with hk;omega)
 have hds:=hB.small;have hsz:D.length*D.length<=1000000000000:=df (Nat.mul_le_mul hds hds) (by decide);refine⟨List.replicate (D.length*D.length) 0,⟨λw' hg=>hB.ext (hEg w' hg),by omega,?_,?_,?_,?_⟩,?_⟩
 .rw[hW];exact World.cell?_alloc_at (w:=w.alloc _) _ _ _ 0 (by simp)
 .rw[hW];exact World.cell?_alloc_at (w:=w.alloc _) _ _ _ 1 (by simp)
 .rw[hW,<-sG]
  exact((World.ownsRow_lit w _ _ (az _) (by unfold maxLen;omega) (by rw[size_madeCells,jo])).alloc _)
 .intro i hi
  obtain⟨g,cap,L,R,h1,h2,h3,h4,h5,h6,h7,h8,h9⟩:=hB.Ia hi;exact⟨g,cap,L,R,h1,λw' hg=>⟨dP (hEg w' hg) h4,dP (hEg w' hg) h5,h6.ext (hEg w' hg),h7.ext (hEg w' hg)⟩,λb hb=>by have:=(h8 b hb).2;omega,λb hb=>by have:=(h9 b hb).2;omega⟩
 .intro i j hi hj _
  refine .inl ?_;simp[dD,Sc hi hj]
theorem Ip(pb:Nat)(vn vb:Value)(D:cZ)(w:World)(hB:dK w pb vn vb D):
 Calls prog 115 #[.pointer (some ⟨pb,0,none⟩)] w λe w'=>∃po kb,e=.returned (.pointer (some ⟨po,0,none⟩))/\Ord w' po pb kb vn vb D/\Ext w w'/\w.heap.size<=kb:=by
 have hds:=hB.small;obtain⟨xs,hown,_⟩:=hB.nodes;obtain⟨an,cn,rfl,hn1,hn2⟩:=bu hown;have b0:=hB.cell0;have hsz:D.length*D.length<=1000000000000:=df (Nat.mul_le_mul hds hds) (by decide);have hp:((D.length:Nat):Int)*((D.length:Nat):Int)=((D.length*D.length:Nat):Int):=by simp
 obtain⟨i0,hi,hz0,hz1,hz2⟩:=info_parts fB;go_enter Tryz.func115,Tryz.ntmps115
 generalize hqd:D.length*D.length=q at *;have hw:IntKind.i64.wrap (q:Int)=q:=by rw[IntKind.wrap_i64];omega
 have hmk:=run_make (P:=prog) w.drew 41 3 i0 (.int .i64 0) underlying41 hi hz0 .i64 .i64 (q:Int) (q:Int) (by omega) (by omega) (by rw[hz2];omega) (by omega);rw[hz1,jo,eB]at hmk;go_wp2
 go_region
 go_wp2
 go_ret
 refine⟨_,w.heap.size,rfl,?_,by go_grown,ax _⟩;subst hqd;exact OI hB rfl _ rfl
end
section
open Go.RowKit
open aZ (cZ Nd vl Ge)
def opt(D:cZ)(left:Bool)(i:Nat):List Nat:=match D[i]? with
 |some nd=>if left then nd.1 else nd.2
 |none=>[]
def lq(D:cZ)(left:Bool)(i j:Nat):Prop:=if left then Ge (vl D i) (vl D j)else Ge (vl D j) (vl D i)
def ah0(D:cZ)(root x:Nat)(left:Bool)(v:Int):Prop:=
 (v=-1/\∀y,y∈opt D (!left) x->¬lq D left root y)\/∃y,y∈opt D (!left) x/\v=(y:Int)/\lq D left root y
theorem CY(po pb kb:Nat)(vn vb:Value)(D:cZ)(root x:Nat)(left:Bool)(w:World)(hO:Ord w po pb kb vn vb D)(hr:root<D.length)(hx:x<D.length):
 Calls prog 163 #[.pointer (some ⟨po,0,none⟩),.int .i64 root,.int .i64 x,.bool left] w λe w'=>∃v:Int,e=.returned (.int .i64 v)/\ah0 D root x left v/\Ord w' po pb kb vn vb D/\w.grownBy w' (some kb):=by
 have hds:=hO.at.small;have Pf:=hO.at.good.wf x _ (ae hx);go_enter Tryz.func163,Tryz.ntmps163
 cases left
 ·
  obtain⟨gn,cn,L,R,rfl,hG,-,-⟩:=hO.lists hx;obtain⟨gL,gR,iL,iR⟩:=hG w (World.grownBy.refl _ _);have c0:=hO.cell0;have b0:=hO.at.cell0;obtain⟨a,cap,rfl,hlc,hcap,hcw⟩:=iL;have hI:∀w',w.grownBy w' (some kb)->Ints w' (.slice a (bV (D[x]).1).length cap) (bV (D[x]).1):=λw' hg=>(hG w' hg).2.2.1
  rw[aP]at hlc hcap gL hI;have HI:=aI hI;have HW:=aI Pf;clear hcw hG hI;go_wp2
  go_loopw [12] (λi wr=>∃k,k<=(D[x]).1.length/\i=.int .i64 ((k:Nat):Int)/\Ord wr po pb kb (.slice (some ⟨gn,0,none⟩) D.length cn) vb D/\w.grownBy wr (some kb)/\Hid (∀j (h:j<(D[x]).1.length),j<k->¬Ge (vl D (D[x]).1[j]) (vl D root))) (λi _=>(D[x]).1.length-(intOf i).toNat)
  case atStart=>exact⟨0,az _,rfl,hO,World.grownBy.refl _ _,λj _ h=>absurd h (by omega)⟩
  case round=>
   clear c0 b0;obtain⟨k,hk,rfl,CO,hgr,HN⟩:=hrel;obtain⟨a0,cap0,he,_,_,hcells⟩:=HI.out _ hgr;simp only[gz,aP]at he;obtain⟨rfl,-,rfl⟩:=he;rw[aP]at hcells;by_cases hlt:k<(D[x]).1.length
   .obtain⟨b,o,rfl,hcell⟩:=hcells (by omega)
    have hck:=hcell k hlt;rw[fD hlt]at hck;have wY:=HW.out.1 _ (aj hlt);clear hcell hcells;by_cases hge:Ge (vl D (D[x]).1[k]) (vl D root)
    .go_wp2_with (go_at_call 165;refine(yo _ _ _ _ _ _ (D[x]).1[k] root _ CO (by omega) hr).mono ?_;rintro e w1 ⟨g,rfl,hg,hO2,nK⟩
                  obtain rfl:g=true:=hg.2 hge;have I9:w1.cell? ⟨b,o+k,none⟩=some (.int .i64 ((D[x]).1[k]:Int)):=by
                   obtain⟨a0,cap0,he,_,_,hcells⟩:=HI.out _ (hgr.trans nK);simp only[gz,aP]at he;obtain⟨rfl,-,rfl⟩:=he;rw[aP]at hcells;obtain⟨b',o',he',hcell⟩:=hcells (by omega);simp only[bN,Addr.mk.injEq,and_true]at he';obtain⟨rfl,rfl⟩:=he';rw[hcell k hlt,fD hlt]
                  clear hg)
     go_ret
     exact⟨_,rfl,.inr ⟨(D[x]).1[k],by simp[opt,hx],rfl,by simpa [lq]using hge⟩,hO2,hgr.trans nK⟩
    .go_wp2_with (go_at_call 165;refine(yo _ _ _ _ _ _ (D[x]).1[k] root _ CO (by omega) hr).mono ?_;rintro e w1 ⟨g,rfl,hg,hO2,nK⟩
                  obtain rfl:g=false:=(by simpa using(λe=>hge (hg.1 e)));clear hg)
     go_roundw
     case rel=>exact⟨k+1,by omega,by go_num,hO2,hgr.trans nK,wT hlt HN hge⟩
     case measure=>simp[intOf];omega
   .clear hcells
    go_wp2
    go_ret
    refine⟨-1,rfl,.inl ⟨rfl,λy hy=>?_⟩,CO,hgr⟩;rw[show opt D (!false) x=(D[x]).1 by simp[opt,hx]]at hy;obtain⟨j,hj,rfl⟩:=aH.1 hy
    simpa [lq]using HN.out j hj (by omega)
 ·
  obtain⟨gn,cn,L,R,rfl,hG,-,-⟩:=hO.lists hx;obtain⟨gL,gR,iL,iR⟩:=hG w (World.grownBy.refl _ _);have c0:=hO.cell0;have b0:=hO.at.cell0;obtain⟨a,cap,rfl,hlc,hcap,hcw⟩:=iR;have hI:∀w',w.grownBy w' (some kb)->Ints w' (.slice a (bV (D[x]).2).length cap) (bV (D[x]).2):=λw' hg=>(hG w' hg).2.2.2
  rw[aP]at hlc hcap gR hI;have HI:=aI hI;have HW:=aI Pf;clear hcw hG hI;go_wp2
  go_loopw [10] (λi wr=>∃k,k<=(D[x]).2.length/\i=.int .i64 ((k:Nat):Int)/\Ord wr po pb kb (.slice (some ⟨gn,0,none⟩) D.length cn) vb D/\w.grownBy wr (some kb)/\Hid (∀j (h:j<(D[x]).2.length),j<k->¬Ge (vl D root) (vl D (D[x]).2[j]))) (λi _=>(D[x]).2.length-(intOf i).toNat)
  case atStart=>exact⟨0,az _,rfl,hO,World.grownBy.refl _ _,λj _ h=>absurd h (by omega)⟩
  case round=>
   clear c0 b0;obtain⟨k,hk,rfl,CO,hgr,HN⟩:=hrel;obtain⟨a0,cap0,he,_,_,hcells⟩:=HI.out _ hgr;simp only[gz,aP]at he;obtain⟨rfl,-,rfl⟩:=he;rw[aP]at hcells;by_cases hlt:k<(D[x]).2.length
   .obtain⟨b,o,rfl,hcell⟩:=hcells (by omega)
    have hck:=hcell k hlt;rw[fD hlt]at hck;have wY:=HW.out.2 _ (aj hlt);clear hcell hcells;by_cases hge:Ge (vl D root) (vl D (D[x]).2[k])
    .go_wp2_with (go_at_call 165;refine(yo _ _ _ _ _ _ root (D[x]).2[k] _ CO hr (by omega)).mono ?_;rintro e w1 ⟨g,rfl,hg,hO2,nK⟩
                  obtain rfl:g=true:=hg.2 hge;have I9:w1.cell? ⟨b,o+k,none⟩=some (.int .i64 ((D[x]).2[k]:Int)):=by
                   obtain⟨a0,cap0,he,_,_,hcells⟩:=HI.out _ (hgr.trans nK);simp only[gz,aP]at he;obtain⟨rfl,-,rfl⟩:=he;rw[aP]at hcells;obtain⟨b',o',he',hcell⟩:=hcells (by omega);simp only[bN,Addr.mk.injEq,and_true]at he';obtain⟨rfl,rfl⟩:=he';rw[hcell k hlt,fD hlt]
                  clear hg)
     go_ret
     exact⟨_,rfl,.inr ⟨(D[x]).2[k],by simp[opt,hx],rfl,by simpa [lq]using hge⟩,hO2,hgr.trans nK⟩
    .go_wp2_with (go_at_call 165;refine(yo _ _ _ _ _ _ root (D[x]).2[k] _ CO hr (by omega)).mono ?_;rintro e w1 ⟨g,rfl,hg,hO2,nK⟩
                  obtain rfl:g=false:=(by simpa using(λe=>hge (hg.1 e)));clear hg)
     go_roundw
     case rel=>exact⟨k+1,by omega,by go_num,hO2,hgr.trans nK,y7 hlt HN hge⟩
     case measure=>simp[intOf];omega
   .clear hcells
    go_wp2
    go_ret
    refine⟨-1,rfl,.inl ⟨rfl,λy hy=>?_⟩,CO,hgr⟩;rw[show opt D (!true) x=(D[x]).2 by simp[opt,hx]]at hy;obtain⟨j,hj,rfl⟩:=aH.1 hy
    simpa [lq]using HN.out j hj (by omega)
end
section
open Go.RowKit
open aZ (cZ Nd vl Ge)
variable {l:List Nat} {D:cZ} {left:Bool} {z:List Int} {i k kb:Nat} {w:World}
theorem X6{l:List Int}(h:l.Pairwise (· < ·)){a:Int}{n:Nat}(hb:∀y,y∈l->a<=y/\y<a+n):l.length<=n:=by
 induction l generalizing a n with
 |nil=>simp
 |cons x l ih=>
  have hx:=hb x (by simp);have hl:=mE.1 h;cases n with
  |zero=>omega
  |succ n=>
   have:=ih hl.2 (a:=a+1) (n:=n) (λy hy=>by have:=hl.1 y hy;have:=hb y (by simp[hy]);omega);simp;omega
def lS(D:cZ)(left:Bool)(l:List Nat)(i k:Nat):Prop:=k≠i/\lq D left (l.getD k 0) (l.getD i 0)/\(¬lq D left (l.getD i 0) (l.getD k 0)\/k<i)
def Vf(D:cZ)(left:Bool)(l:List Nat)(i:Nat):Prop:=∃k,k<l.length/\lS D left l i k
structure gD(D:cZ)(left:Bool)(l:List Nat)(z:List Int)(i k:Nat):Prop where
 yL:z.Pairwise (· < ·)
 bd:∀y,y∈z->0<=y/\y<l.length
 mem:∀j:Nat,(j:Int)∈z↔(j<i/\Vf D left l j)\/(j=i/\∃k',k'<k/\lS D left l i k')
theorem gD.len(h:gD D left l z i k):z.length<=l.length:=X6 h.yL (a:=0) (λy hy=>by have:=h.bd y hy;omega)
theorem gD.nil(D:cZ)(left:Bool)(l:List Nat):gD D left l [] 0 0:=⟨List.Pairwise.nil,by simp,by simp⟩
theorem gD.no(h:gD D left l z i k)(hn:¬lS D left l i k):gD D left l z i (k+1):=by
 refine⟨h.yL,h.bd,λj=>?_⟩;rw[h.mem];refine or_congr Iff.rfl (and_congr Iff.rfl ⟨λ⟨k',a,b⟩=>⟨k',by omega,b⟩,λ⟨k',a,b⟩=>⟨k',?_,b⟩⟩);rcases fe k' k with c|c
 .exact c
 .have:k'=k:=by omega
  subst this;exact absurd b hn
theorem gD.yes(h:gD D left l z i k)(hi:i<l.length)(hn:lS D left l i k):gD D left l (qp z i) i (k+1):=by
 refine⟨Hg h.yL,λy hy=>?_,λj=>?_⟩
 .rcases Bh.1 hy with hy|rfl
  .exact h.bd y hy
  .omega
 .rw[Bh,h.mem]
  constructor
  .rintro((a|⟨a,k',b,c⟩)|a)
   .exact .inl a
   .exact .inr ⟨a,k',by omega,c⟩
   .exact .inr ⟨by omega,k,by omega,hn⟩
  .rintro(a|⟨a,k',b,c⟩)
   .exact .inl (.inl a)
   .exact .inr (by omega)
theorem gD.next(h:gD D left l z i l.length):gD D left l z (i+1) 0:=by
 refine⟨h.yL,h.bd,λj=>?_⟩;rw[h.mem];constructor
 .rintro(⟨a,b⟩|⟨rfl,k',b,c⟩)
  .exact .inl ⟨by omega,b⟩
  .exact .inl ⟨by omega,k',b,c⟩
 .rintro(⟨a,b⟩|⟨_,k',b,_⟩)
  .rcases fe j i with c|c
   .exact .inl ⟨c,b⟩
   .have:j=i:=by omega
    subst this;exact .inr ⟨rfl,b⟩
  .omega
theorem sM{w':World}{v:Value}{l:List Int}(h:Ints w v l)(hg:w.grownBy w' (some kb))(hk:∀b,v.ownBlock=some b->b≠kb):Ints w' v l:=
 h.keep (λb hl hb=>hg.block b (h.blk hl hb) (by simpa using hk b hb))
theorem Ord.Nh{po pb:Nat}{vn vb:Value}(h:Ord w po pb kb vn vb D):kb<w.heap.size:=by
 obtain⟨kn,hO,_⟩:=h;exact(hO.own.lt kb rfl).2
structure JE(po pb kb:Nat)(vn vb:Value)(D:cZ)(w:World)(row:Option Nat)(w':World):Prop where
 ord:Ord w' po pb kb vn vb D
 gr:w.grownBy w' row
theorem JE.drew{po pb kb:Nat}{vn vb:Value}{D:cZ}{w:World}{row:Option Nat}{w':World}(h:JE po pb kb vn vb D w row w'):JE po pb kb vn vb D w row w'.drew:=⟨h.ord.grown ⟨rfl,rfl,rfl,ax _,λ_ _ _=>rfl⟩,⟨h.gr.os,h.gr.tape,h.gr.output,h.gr.size,h.gr.block⟩⟩
theorem XL(po pb kb:Nat)(vn vb:Value)(D:cZ)(wr:World)(b o1 o2:Nat)(u1 u2:Value)(x y:Nat)(w:World)(hb:b≠kb)(hS:JE po pb kb vn vb D wr (some kb) w/\w.cell? ⟨b,o1,none⟩=some u1/\w.cell? ⟨b,o2,none⟩=some u2)(hx:x<D.length)(hy:y<D.length)(g:Bool)(hgg:g=true↔Ge (vl D x) (vl D y)):
 Calls prog 165 #[.pointer (some ⟨po,0,none⟩),.int .i64 x,.int .i64 y] w λe w'=>e=.returned (.bool g)/\(JE po pb kb vn vb D wr (some kb) w'/\w'.cell? ⟨b,o1,none⟩=some u1/\w'.cell? ⟨b,o2,none⟩=some u2):=by
 refine(yo po pb kb vn vb D x y w hS.1.ord hx hy).mono ?_;rintro e w' ⟨g',rfl,hg,hO,hgr⟩;obtain rfl:g'=g:=fV.2 (hg.trans hgg.symm);exact⟨rfl,⟨hO,hS.1.gr.trans hgr⟩,hgr.cell hS.2.1 (by simpa using hb),hgr.cell hS.2.2 (by simpa using hb)⟩
theorem tT(po pb kb:Nat)(vn vb v:Value)(D:cZ)(l:List Nat)(left:Bool)(w:World)(hO:Ord w po pb kb vn vb D)(hv:Ints w v (bV l))(hvk:∀b,v.ownBlock=some b->b≠kb)(hl:∀x,x∈l->x<D.length)(hll:l.length<=1000000):
 Calls prog 118 #[.pointer (some ⟨po,0,none⟩),v,.bool left] w λe w'=>∃v' z,e=.returned v'/\Ints w' v' z/\gD D left l z l.length 0/\Ord w' po pb kb vn vb D/\w.grownBy w' (some kb)/\(∀b,v'.ownBlock=some b->w.heap.size<=b/\b<w'.heap.size):=by
 have hkb:=hO.Nh;have HV:=aI hv;obtain⟨a,cap,rfl,hlc,hcap,hcells⟩:=hv;rw[aP]at hlc hcap hcells;rw[aP]at HV ⊢;go_enter Tryz.func118,Tryz.ntmps118
 go_wp2
 go_loopw [7,8] (λo i wr=>∃k z,k<=l.length/\i=.int .i64 ((k:Nat):Int)/\Ints wr o z/\gD D left l z k 0/\Ord wr po pb kb vn vb D/\w.grownBy wr (some kb)/\Hid (∀b,o.ownBlock=some b->w.heap.size<=b/\b<wr.heap.size)) (λ_ i _=>l.length-(intOf i).toNat)
 case atStart=>exact⟨0,[],az _,rfl,Ints.nil _ _ _,gD.nil _ _ _,hO.grown (iG (by go_grown)),(iG (by go_grown)).but _,λb hb=>by simp[Value.ownBlock]at hb;subst hb;simp⟩
 case round=>
  obtain⟨i,z,hi,rfl,hI,hinv,Qj,hgr,HF⟩:=hrel;by_cases hlt:i<l.length
  .obtain⟨wo,rfl⟩:∃wo:World,wo=wr:=⟨_,rfl⟩
   go_wp2
   go_loopw [7,9,10,11] (λo kk u1 u2 wr=>∃k z,k<=l.length/\kk=.int .i64 ((k:Nat):Int)/\Ints wr o z/\gD D left l z i k/\Ord wr po pb kb vn vb D/\w.grownBy wr (some kb)/\Hid (∀b,o.ownBlock=some b->w.heap.size<=b/\b<wr.heap.size)) (λ_ kk _ _ _=>l.length-(intOf kk).toNat)
   case atStart=>exact⟨0,z,az _,rfl,hI,hinv,Qj,hgr,HF⟩
   case round=>
    clear hI hinv Qj hgr HF;obtain⟨k,z,hk,rfl,hI,hinv,Qj,hgr,HF⟩:=hrel;by_cases hkt:k<l.length
    .obtain⟨b,o,rfl,hcell⟩:=hcells (by omega)
     have hbk:b≠kb:=hvk b rfl;have ck:=hgr.cell (hcell k hkt) (by simpa using hbk);have ci:=hgr.cell (hcell i hlt) (by simpa using hbk);rw[fD hkt]at ck;rw[fD hlt]at ci;have hS0:JE po pb kb vn vb D wr (some kb) wr/\wr.cell? ⟨b,o+k,none⟩=some (.int .i64 (l[k]:Int))/\wr.cell? ⟨b,o+i,none⟩=some (.int .i64 (l[i]:Int)):=⟨⟨Qj,World.grownBy.refl _ _⟩,ck,ci⟩;obtain⟨hS1,hS2,Eg⟩:=hS0;clear hcell hcells;have hlk:=hl _ (aj hkt);have hli:=hl _ (aj hlt);obtain⟨g1,hg1⟩:∃g:Bool,g=true↔Ge (vl D l[k]) (vl D l[i]):=(by by_cases h:Ge (vl D l[k]) (vl D l[i]);exact⟨true,by simp[h]⟩;exact⟨false,by simp[h]⟩);obtain⟨g2,hg2⟩:∃g:Bool,g=true↔Ge (vl D l[i]) (vl D l[k]):=(by by_cases h:Ge (vl D l[i]) (vl D l[k]);exact⟨true,by simp[h]⟩;exact⟨false,by simp[h]⟩);go_wp2_with fail
     go_region_held3 (λw'=>JE po pb kb vn vb D wr (some kb) w'/\w'.cell? ⟨b,o+k,none⟩=some (.int .i64 (l[k]:Int))/\w'.cell? ⟨b,o+i,none⟩=some (.int .i64 (l[i]:Int))) (refine⟨?_,?_,?_⟩ <;> first|assumption|exact JE.drew (by assumption)) (first
      |(go_at_call 165;refine(XL po pb kb vn vb D wr b (o+k) (o+i) _ _ _ _ _ hbk (by first|assumption|exact⟨by assumption,by assumption,by assumption⟩) (by assumption) (by assumption) _ (by first|exact hg1|exact hg2)).mono ?_;rintro e w1 ⟨rfl,hSa,hSb,hSc⟩))
     have hIz:Ints w1 u7 z:=sM hI hSa.gr (λb hb=>by have:=HF.out b hb;omega);have hF1:∀b,u7.ownBlock=some b->w.heap.size<=b/\b<w1.heap.size:=λb hb=>⟨(HF.out b hb).1,aJ (HF.out b hb).2 hSa.gr.size⟩
     have hzl:z.length<=1000000000:=(by have:=hinv.len;omega);have XE:=hgr.trans hSa.gr;have hwz:w.heap.size<=w1.heap.size:=XE.size;have HD:Hid (lS D left l i k↔(k≠i/\(if left then g1 else g2)=true/\((if left then g2 else g1)=false\/k<i))):=by
      show lS D left l i k↔_;unfold lS lq;simp only[List.getD,ae hkt,ae hlt,gM];cases left <;> simp[hg1,hg2,<-Bool.not_eq_true]
     have HF1:=aI hF1;have HI:=aI hinv;have HS:=aI hSa;have HG:=aI XE;clear hF1 hinv hSa XE hgr hS1 hS2 Eg hI Qj HF hg1 hg2 ck ci hSb hSc hlk hli;cases left <;> cases g1 <;> cases g2 <;> rcases Nat.lt_trichotomy k i with hki|rfl|hki
     all_goals (go_wp2_with (go_at_call 161;refine(q8 _ _ _ _ hIz hzl).mono ?_;rintro e w2 ⟨v1,rfl,hI1,hx1,hn1⟩))
     all_goals go_roundw
     any_goals (case measure=>simp[intOf];omega)
     all_goals first
      |exact⟨k+1,z,by omega,by go_num,hIz,HI.out.no (λh=>by have h:=HD.out.1 h;first|(simp at h;done)|(simp at h;omega)),HS.out.ord,HG.out,HF1.out⟩
      |exact⟨k+1,qp z i,by omega,by go_num,hI1,HI.out.yes hlt (HD.out.2 (by first|(simp;done)|(simp;omega))),HS.out.ord.grown (iG hx1),HG.out.trans ((iG hx1).but _),qX HF1.out hwz hx1.size hn1⟩
      |trace_state
    .have hkl:k=l.length:=by omega
     subst hkl;go_wp2
     go_roundw
     case rel=>exact⟨i+1,z,by omega,by go_num,hI,hinv.next,Qj,hgr,HF⟩
     case measure=>simp[intOf];omega
  .have hil:i=l.length:=by omega
   subst hil;go_wp2
   go_ret
   exact⟨_,z,rfl,hI,hinv,Qj,hgr,HF.out⟩
end
