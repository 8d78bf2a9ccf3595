/- 11 -/
import Derived.Test.YtplgooajigigkaaGreatDoorQ10
set_option maxRecDepth 100000
set_option maxHeartbeats 4000000
namespace Go.Proofs.YtplgooajigigkaaGreatDoor
open Tryz
section
open Go.RowKit
open aZ (cZ Nd vl Ge)
variable {n root i x k cap kb po pb g:Nat} {l line B:List Nat} {D:cZ} {left:Bool} {w wr w2:World} {lv ov vb:Value}
structure fK(D:cZ)(root:Nat)(left:Bool)(l line B:List Nat)(i:Nat):Prop where
 nodup:line.Nodup
 lt:∀x,x∈line->x<D.length
 sub:∀x,x∈l->x∈line
 sound:∀x,x∈line->x∈l\/∃k,k<D.length/\lq D left root k/\x∈opt D left k
 kept:∀x,x∈B->x∈line/\∀y,y∈opt D (!left) x->¬lq D left root y
 done:∀j (h:j<line.length),j<i->line[j]∈B\/∃y,y∈opt D (!left) line[j]/\lq D left root y/\∀x,x∈opt D left y->x∈line
 vW:B.length<=i
 sV:∀P:Nat->Prop,(∀i side x,P i->x∈opt D side i->P x)->(∀x,x∈l->P x)->∀x,x∈line->P x
theorem iU(h:l.Nodup)(hl:∀x,x∈l->x<n):l.length<=n:=by
 induction n generalizing l with
 |zero=>cases l with
  |nil=>simp
  |cons x l=>have:=hl x (by simp);omega
 |succ n ih=>
  have h1:=ih (l:=l.filter (λx=>x≠n)) (h.sublist List.filter_sublist) (λx hx=>by
   obtain⟨a,b⟩:=iY.1 hx;have:=hl x a;simp at b;omega)
  have h2:l.length<=(l.filter (λx=>x≠n)).length+1:=by
   clear ih h1 hl
   induction l with
   |nil=>simp
   |cons x l ih=>
    have hd:=List.nodup_cons.1 h;by_cases e:x=n
    .subst e
     have:l.filter (λy=>y≠x)=l:=List.filter_eq_self.2 (λy hy=>by simp;rintro rfl;exact hd.1 hy);rw[List.filter_cons_of_neg (by simp),this];simp
    .simp[e];have:=ih hd.2;simp at this;omega
  omega
theorem fK.len(h:fK D root left l line B i):line.length<=D.length:=iU h.nodup h.lt
theorem fK.start(hn:l.Nodup)(hl:∀x,x∈l->x<D.length):fK D root left l l [] 0:=
 ⟨hn,hl,λ_ h=>h,λ_ h=>.inl h,by simp,λ_ _ h=>absurd h (by omega),by simp,λ_ _ h=>h⟩
theorem fK.keep(h:fK D root left l line B i)(hi:i<line.length)(hn:∀y,y∈opt D (!left) line[i]->¬lq D left root y):fK D root left l line (B++[line[i]]) (i+1):=by
 refine⟨h.nodup,h.lt,h.sub,h.sound,λx hx=>?_,λj hj hji=>?_,by simp;exact h.vW,h.sV⟩
 .rcases aM.1 hx with hx|hx
  .exact h.kept x hx
  .simp at hx;subst hx;exact⟨aj hi,hn⟩
 .by_cases e:j=i
  .subst e;exact .inl (by simp)
  .rcases h.done j hj (by omega)with a|a
   .exact .inl (by simp[a])
   .exact .inr a
theorem fK.add(h:fK D root left l line B i)(hx:x<D.length)(hn:x ∉ line)(hk:k<D.length)(hg:lq D left root k)(ho:x∈opt D left k)(hi:i<=line.length){z:Nat}(hz:z∈line)(hkz:k∈opt D (!left) z):fK D root left l (line++[x]) B i:=by
 refine⟨?_,λy hy=>?_,λy hy=>by simp[h.sub y hy],λy hy=>?_,λy hy=>⟨by simp[(h.kept y hy).1],(h.kept y hy).2⟩,λj hj hji=>?_,h.vW,λP c hl y hy=>?_⟩
 .rw[jq]
  exact⟨h.nodup,by simp,λa ha b hb=>by simp at hb;subst hb;rintro rfl;exact hn ha⟩
 .rcases aM.1 hy with hy|hy
  .exact h.lt y hy
  .simp at hy;omega
 .rcases aM.1 hy with hy|hy
  .exact h.sound y hy
  .simp at hy;subst hy;exact .inr ⟨k,hk,hg,ho⟩
 .have hjl:j<line.length:=by omega
  rw[dN hjl];rcases h.done j hjl hji with a|⟨y,a,b,c⟩
  .exact .inl a
  .exact .inr ⟨y,a,b,λz hz=>by simp[c z hz]⟩
 .rcases aM.1 hy with hy|hy
  .exact h.sV P c hl y hy
  .simp at hy;subst hy
   exact c _ _ _ (c _ _ _ (h.sV P c hl z hz) hkz) ho
theorem fK.pass(h:fK D root left l line B i){y:Nat}(hi:i<line.length)(hy:y∈opt D (!left) line[i])(hg:lq D left root y)(hs:∀x,x∈opt D left y->x∈line):fK D root left l line B (i+1):=by
 refine⟨h.nodup,h.lt,h.sub,h.sound,h.kept,λj hj hji=>?_,by have:=h.vW;omega,h.sV⟩;by_cases e:j=i
 .subst e;exact .inr ⟨y,hy,hg,hs⟩
 .exact h.done j hj (by omega)
theorem jU(hD:aZ.WF D)(hx:x∈opt D left i):x<i:=by
 unfold opt at hx;cases h:D[i]? with
 |none=>rw[h]at hx;simp at hx
 |some nd=>
  rw[h]at hx;cases left
  .exact(hD i nd h).2 x (by simpa using hx)
  .exact(hD i nd h).1 x (by simpa using hx)
theorem FY{a:Option Addr}{l:List Int}(_:l.length<=cap)(_:l.length<=1152921504606846976)(hc:0<l.length->∃b off,a=some ⟨b,off,none⟩/\∀i,i<l.length->w.cell? ⟨b,off+i,none⟩=some (.int .i64 (dD l i)))(W:World)(hE:Ext w W):
 l.length=0\/∃ad,a=some ad/\∀(j:Nat) (u:Value),(l.map (Value.int .i64))[j]?=some u->W.cell? (ad.add j)=some u:=by
 by_cases h:l.length=0
 .exact .inl h
 .obtain⟨b,off,rfl,hcell⟩:=hc (by omega)
  refine .inr ⟨_,rfl,?_⟩;have:=J5 hcell hE 0 l.length (by omega)
  simpa using this
structure lg(w:World)(wr:World)(lv ov:Value)(line B:List Nat):Prop where
 own:wr.ownsRow w.heap.size 3 1 lv line.length ((bV line).map (Value.int .i64))
 out:Ints wr ov (jf (bV B))
 fresh:∀b,ov.ownBlock=some b->w.heap.size<=b/\b<wr.heap.size
 apart:∀b,ov.ownBlock=some b->lv.ownBlock≠some b
theorem lg.grown{w':World}(h:lg w wr lv ov line B)(hg:wr.grownBy w' (some kb))(hk:kb<w.heap.size):lg w w' lv ov line B:=
 ⟨h.own.kept hg (by
  cases e:lv.ownBlock with
  |none=>exact .inl rfl
  |some b=>exact .inr (λe'=>by injection e' with e';have:=h.own.lt b e;omega)),
  sM h.out hg (λb hb=>by have:=h.fresh b hb;omega),λb hb=>⟨(h.fresh b hb).1,aJ (h.fresh b hb).2 hg.size⟩,h.apart⟩
theorem lg.cell{w wr:World}{gl cl:Nat}{ov:Value}{line B:List Nat}(h:lg w wr (.slice (some ⟨gl,0,none⟩) line.length cl) ov line B){k:Nat}(hk:k<line.length):wr.cell? ⟨gl,k,none⟩=some (.int .i64 (line[k]:Int)):=by
 rw[h.own.cellAt k (by omega)];simp[bV,hk]
theorem Ord.Fh(h:Ord w po pb kb (.slice (some ⟨g,0,none⟩) D.length cap) vb D)(hi:i<D.length):∃L R,(∀w',w.grownBy w' (some kb)->w'.cell? ⟨g,i*2,none⟩=some L/\w'.cell? ⟨g,i*2+1,none⟩=some R/\Ints w' L (bV (D[i]).1)/\Ints w' R (bV (D[i]).2))/\(∀b,L.ownBlock=some b->b≠kb)/\(∀b,R.ownBlock=some b->b≠kb):=by
 obtain⟨g',cap',L,R,he,h1,h2,h3⟩:=h.lists hi;simp only[gz,bN,Addr.mk.injEq,true_and,and_true]at he;obtain⟨rfl,rfl⟩:=he;exact⟨L,R,h1,h2,h3⟩
theorem Ord.ZF(h:Ord w po pb kb (.slice (some ⟨g,0,none⟩) D.length cap) vb D)(hi:i<D.length):∃aL cL aR cR,∀w',w.grownBy w' (some kb)->w'.cell? ⟨g,i*2,none⟩=some (.slice aL (D[i]).1.length cL)/\w'.cell? ⟨g,i*2+1,none⟩=some (.slice aR (D[i]).2.length cR)/\Ints w' (.slice aL (D[i]).1.length cL) (bV (D[i]).1)/\Ints w' (.slice aR (D[i]).2.length cR) (bV (D[i]).2):=by
 obtain⟨L,R,h1,_,_⟩:=h.Fh hi;obtain⟨aL,cL,rfl,_⟩:=(h1 w (World.grownBy.refl _ _)).2.2.1;obtain⟨aR,cR,rfl,_⟩:=(h1 w (World.grownBy.refl _ _)).2.2.2;rw[aP,aP]at h1;exact⟨aL,cL,aR,cR,h1⟩
theorem xR(hk:k<l.length)(h:Hid (∀j (h:j<l.length),j<k->l[j]∈line))(hn:l[k]∈line):Hid (∀j (h:j<l.length),j<k+1->l[j]∈line):=by
 intro j hj hjk;by_cases e:j=k
 .subst e;exact hn
 .exact h j hj (by omega)
theorem kJ(w:World)(n:Nat)(row:Option Nat):w.grownBy (w.drewN n) row:=⟨rfl,rfl,rfl,ax _,λ_ _ _=>rfl⟩
theorem lg.put{v1:Value}(h:lg w wr lv ov line B)(hI:Ints w2 v1 (qp (jf (bV B)) (x:Int)))(hx:Ext wr w2)(hn:UM wr w2 ov v1)(hw:w.heap.size<=wr.heap.size):lg w w2 lv v1 line (B++[x]):=by
 refine⟨bW h.own hx,?_,qX h.fresh hw hx.size hn,λb hb e=>?_⟩
 .rw[show bV (B++[x])=bV B++[(x:Int)] by simp[bV],wP];exact hI
 .rcases hn b hb with h1|h1
  .exact h.apart b h1 e
  .have:=(h.own.lt b e).2;omega
theorem lg.add{lv2:Value}{X:Obj}(h:lg w wr lv ov line B)(hg:((wr.drewN n).alloc X).grownBy w2 lv.ownBlock)
 (ho:w2.ownsRow w.heap.size 3 1 lv2 (line.length+1) ((bV line).map (Value.int .i64)++[.int .i64 (x:Int)])) (hl:lY ((wr.drewN n).alloc X) lv lv2):lg w w2 lv2 ov (line++[x]) B:=by
 have hz:(wr.drewN n).heap.size=wr.heap.size:=rfl;have hs:=hg.size;rw[eX,hz]at hs;refine⟨by simpa [bV]using ho,?_,λb hb=>⟨(h.fresh b hb).1,by have:=(h.fresh b hb).2;omega⟩,λb hb e=>?_⟩
 .refine h.out.keep (λb hn hb=>?_)
  have hlt:=(h.fresh b hb).2;rw[hg.block b (by rw[eX,hz];omega) (by intro e;exact h.apart b hb e.symm),(World.grownBy_alloc _ _ none).block b (by rw[hz];omega) (by simp)];rfl
 .rcases hl with h1|⟨g,h1,h2⟩
  .exact h.apart b hb (h1 ▸ e)
  .rw[h1]at e;injection e with e
   rw[eX,hz]at h2;have:=(h.fresh b hb).2;omega
theorem Ord.Q8{vn:Value}{row:Option Nat}(hO:Ord w po pb kb vn vb D)(hgr:w.grownBy w2 (some kb))(hOr:Ord wr po pb kb vn vb D)(hg:wr.grownBy w2 row)(hne:row≠some kb):Ord w2 po pb kb vn vb D:=by
 obtain⟨kn0,h0,_⟩:=hO;obtain⟨kn,h1,hH⟩:=hOr;have h2:=h0.grown hgr (Iw:=kn) (h1.own.kept hg (.inr (by simp only[Value.ownBlock];exact λe=>hne e.symm)));exact⟨kn,h2,hH⟩
theorem BG(po pb kb:Nat)(vn vb v:Value)(D:cZ)(root:Nat)(l:List Nat)(left:Bool)(w:World)(hO:Ord w po pb kb vn vb D)(hr:root<D.length)(hv:Ints w v (bV l))(hvk:∀b,v.ownBlock=some b->b≠kb)(hl:∀x,x∈l->x<D.length)(hnd:l.Nodup):
 Calls prog 116 #[.pointer (some ⟨po,0,none⟩),.int .i64 root,v,.bool left] w λe w'=>∃v' line B,e=.returned v'/\Ints w' v' (jf (bV B))/\fK D root left l line B line.length/\Ord w' po pb kb vn vb D/\w.grownBy w' (some kb)/\(∀b,v'.ownBlock=some b->w.heap.size<=b/\b<w'.heap.size):=by
 have hkb:=hO.Nh;have hds:=hO.at.small;have hll:=iU hnd hl;have hD:=aI hO.at.good.wf;obtain⟨gn,cn,_,_,rfl,_,_,_⟩:=hO.lists hr;obtain⟨i0,hi,hz0,hz1,hz2⟩:=info_parts fB;obtain⟨a,cap,rfl,hlc,hcap,hcells⟩:=hv;have hsrc:=FY hlc hcap hcells (w.alloc (.cells #[] 3)) (by go_grown);rw[aP]at hlc hcap hcells hsrc;rw[aP];go_enter Tryz.func116,Tryz.ntmps116
 go_wp2_with (at_builtin;refine dm rfl (.tmp 15) (.tmp 16) 41 rfl w.heap.size 3 i0 (.int .i64 0) 1 8 underlying41 hi hz0 hz1 hz2 rfl (by decide) (.slice (some ⟨w.heap.size,0,none⟩) 0 0) 0 [] rfl (gG w _ (ax _) _) a l.length cap ((bV l).map (Value.int .i64)) rfl (by simp[aP]) hsrc (jP _) (by unfold maxLen;omega) (by omega) (by simp) ?_;intro v1 w1 ho1 hg1 hl1;simp only[gQ,gX]at ho1)
 have hx1:Ext w w1:=dw (by go_grown) hg1 (λk hk=>by simp[Value.ownBlock]at hk;omega);have hw1:=hx1.size;have hv1:=ho1.lt;go_loopw [9,10,11,12,13,14] (λlv ov i _ _ _ wr=>∃k line B,k<=line.length/\i=.int .i64 ((k:Nat):Int)/\lg w wr lv ov line B/\fK D root left l line B k/\Ord wr po pb kb (.slice (some ⟨gn,0,none⟩) D.length cn) vb D/\w.grownBy wr (some kb)) (λ_ _ i _ _ _ _=>D.length-(intOf i).toNat)
 case atStart=>
  refine⟨0,l,[],az _,rfl,⟨by simpa [aP]using ho1.alloc _,Ints.nil _ _ _,λb hb=>?_,λb hb e=>?_⟩,fK.start hnd hl,hO.grown (iG (bJ hx1 _)),(iG (bJ hx1 _)).but _⟩
  .simp[Value.ownBlock]at hb;subst hb;simp;omega
  .simp[Value.ownBlock]at hb;subst hb;have:=(hv1 _ e).2;omega
 case round=>
  clear hx1 hw1 hv1 ho1 hg1 hl1 hsrc hcells;obtain⟨k,line,B,hk,rfl,hM,hinv,Qj,hgr⟩:=hrel;have hlen:=hinv.len;by_cases hlt:k<line.length
  .obtain⟨gl,cl,rfl,hl1,hl2,hcl⟩:=gY hM.own (by omega)
   have hck:wr.cell? ⟨gl,k,none⟩=some (.int .i64 (line[k]:Int)):=(by rw[hcl k (by omega)];simp[bV,hlt]);have hBl:(jf (bV B)).length<=1000000000:=(by have:=qR (bV B);rw[aP]at this;have:=hinv.vW;omega);have hxn:=hinv.lt _ (aj hlt);clear hcl
   go_wp2_with (first
    |(go_at_call 163;refine(CY po pb kb _ vb D root line[k] left _ Qj hr hxn).mono ?_;rintro e w1 ⟨y0,rfl,hT,hO2,nK⟩
      have hM2:=hM.grown nK hkb;have I9:=hM2.cell hlt;have XE:=hgr.trans nK;rcases hT with⟨rfl,hT⟩|⟨y,hy,rfl,hT⟩
      all_goals try(
       have hyn:y<D.length:=Nat.lt_trans (jU hD.out hy) hxn;have hy0:decide ((y:Int)<0)=false:=(by simp);obtain⟨aL,cL,aR,cR,hG⟩:=hO.ZF hyn;obtain⟨gL,gR,iL,iR⟩:=hG w1 XE;have HG:=aI hG;have c0:=hO2.cell0;have b0:=hO2.at.cell0;clear hG;cases left))
    |(go_at_call 161;refine(q8 _ _ _ _ hM2.out hBl).mono ?_;rintro e w2 ⟨v1,rfl,hI1,hx1,hn1⟩))
   .go_roundw
    case rel=>exact⟨k+1,line,B++[line[k]],by omega,by go_num,hM2.put hI1 hx1 hn1 XE.size,hinv.keep hlt hT,hO2.grown (iG hx1),XE.trans ((iG hx1).but _)⟩
    case measure=>simp[intOf];omega
   .have HI:Hid (∀w',w.grownBy w' (some kb)->Ints w' (.slice aR (D[y]).2.length cR) (bV (D[y]).2)):=λw' hg=>(HG.out w' hg).2.2.2
    have I1:opt D false y=(D[y]).2:=(by simp[opt,hyn]);have hMl:(D[y]).2.length<=1152921504606846976:=(by have h:=iR;obtain⟨_,_,_,_,h,_⟩:=h;rw[aP]at h;exact h);have HO2:=aI hO2;have Zj:=aI hM2;have HV:=aI hinv;clear iL iR gL gR c0 b0 hck I9 hM HG hO2 hM2 Qj hgr hinv;obtain⟨wi,rfl⟩:∃wi:World,wi=w1:=⟨_,rfl⟩;go_loopw [9,14] (λlv m wr=>∃j jv,j<=(D[y]).2.length/\m=.int .i64 ((j:Nat):Int)/\lg w wr lv u10 jv B/\fK D root false l jv B k/\jv[k]?=some line[k]/\Ord wr po pb kb (.slice (some ⟨gn,0,none⟩) D.length cn) vb D/\w.grownBy wr (some kb)/\Hid (∀j' (h:j'<(D[y]).2.length),j'<j->(D[y]).2[j']∈jv)) (λ_ m _=>(D[y]).2.length-(intOf m).toNat)
    case atStart=>exact⟨0,line,az _,rfl,Zj.out,HV.out,ae hlt,HO2.out,XE,λj' _ h=>absurd h (by omega)⟩
    case round=>
     obtain⟨j,jv,hj,rfl,yJ,ru,hlk,hO4,yc,HN⟩:=hrel;have acT:=ru.len;by_cases hjt:j<(D[y]).2.length
     .obtain⟨a0,c0',he,_,_,hcells⟩:=HI.out _ yc
      simp only[gz]at he;obtain⟨rfl,-,rfl⟩:=he;rw[aP]at hcells;obtain⟨bM,oM,rfl,hcell⟩:=hcells (by omega);have hcm:=hcell j hjt;rw[fD hjt]at hcm;have Y7:=Ints.dX (l:=bV jv) yJ.own (by rw[aP];omega);clear hcell hcells;by_cases hin:(D[y]).2[j]∈jv
      .have hh:l7 (bV jv) ((D[y]).2[j]:Int)=true:=by simp only[l7];exact decide_eq_true (sD.2 hin)
       have yE:=aI hin;have NR:=aI yJ;have VI:=aI ru;clear hin yJ ru;go_wp2_with (go_at_call 164;refine(pF _ _ _ _ Y7).mono ?_;rintro e w2 ⟨he,n1,rfl⟩;rw[hh]at he;subst he)
       go_roundw
       case rel=>exact⟨j+1,jv,by omega,by go_num,NR.out.grown (kJ _ _ _) hkb,VI.out,hlk,hO4.grown (kJ _ _ _),yc.trans (kJ _ _ _),xR hjt HN yE.out⟩
       case measure=>simp[intOf];omega
      .have hh:l7 (bV jv) ((D[y]).2[j]:Int)=false:=by simp only[l7];exact decide_eq_false (λh=>hin (sD.1 h))
       have yE:=aI hin;have NR:=aI yJ;have VI:=aI ru;have IZ:=yJ.own;have hw4:=yc.size;clear hin yJ ru
       go_wp2_with (first
        |(go_at_call 164;refine(pF _ _ _ _ Y7).mono ?_;rintro e w2 ⟨he,n1,rfl⟩;rw[hh]at he;subst he)
        |(at_builtin;refine dm rfl (.tmp 78) (.tmp 83) 41 rfl w.heap.size 3 i0 (.int .i64 0) 1 8 underlying41 hi hz0 hz1 hz2 rfl (by decide) _ jv.length _ rfl ((own_drewN IZ n1).alloc _) _ 1 _ [.int .i64 ((D[y]).2[j]:Int)] rfl rfl (.inr ⟨_,rfl,dA (bY _ _ _)⟩) one_cell (by unfold maxLen;omega) (by omega) (by simp;omega) ?_;intro v5 w5 ji hg5 hl5))
       go_roundw
       case rel=>
        have hrow:∀b,Value.ownBlock u9=some b->w.heap.size<=b:=λb hb=>(IZ.lt b hb).1
        have Sm:wr.grownBy w5 (Value.ownBlock u9):=((kJ wr n1 _).trans (World.grownBy_alloc _ _ _)).trans hg5;have hgr5:w.grownBy w5 (some kb):=yc.andThen Sm (λb hb=>.inl (hrow b hb));have hxo:(D[y]).2[j]∈opt D false y:=(by rw[I1];exact aj hjt);have hkl:k<jv.length:=(cK.1 hlk).1;exact⟨j+1,jv++[(D[y]).2[j]],by omega,by go_num,NR.out.add hg5 ji hl5,VI.out.add (Nat.lt_trans (jU hD.out hxo) hyn) yE.out hyn hT hxo (by omega) (fq hlk) hy,by rw[bQ hkl];exact hlk,hO.Q8 hgr5 hO4 Sm (by intro e;have:=hrow kb e;omega),hgr5,xR hjt (λj' h h'=>by have:=HN.out j' h h';simp[this]) (by simp)⟩
       case measure=>simp[intOf];omega
     .have hjl:j=(D[y]).2.length:=by omega
      subst hjl;go_wp2
      go_roundw
      case rel=>
       have hkl:k<jv.length:=(cK.1 hlk).1;have hke:jv[k]=line[k]:=(by rw[ae hkl]at hlk;injection hlk);exact⟨k+1,jv,B,by omega,by go_num,yJ,ru.pass hkl (by rw[hke];exact hy) hT (λx hx=>by
        rw[I1]at hx;obtain⟨j',h,rfl⟩:=aH.1 hx;exact HN.out j' h h),hO4,yc⟩
      case measure=>simp[intOf];omega
   .have HI:Hid (∀w',w.grownBy w' (some kb)->Ints w' (.slice aL (D[y]).1.length cL) (bV (D[y]).1)):=λw' hg=>(HG.out w' hg).2.2.1
    have I1:opt D true y=(D[y]).1:=(by simp[opt,hyn]);have hMl:(D[y]).1.length<=1152921504606846976:=(by have h:=iL;obtain⟨_,_,_,_,h,_⟩:=h;rw[aP]at h;exact h);have HO2:=aI hO2;have Zj:=aI hM2;have HV:=aI hinv;clear iL iR gL gR c0 b0 hck I9 hM HG hO2 hM2 Qj hgr hinv;obtain⟨wi,rfl⟩:∃wi:World,wi=w1:=⟨_,rfl⟩;go_loopw [9,14] (λlv m wr=>∃j jv,j<=(D[y]).1.length/\m=.int .i64 ((j:Nat):Int)/\lg w wr lv u10 jv B/\fK D root true l jv B k/\jv[k]?=some line[k]/\Ord wr po pb kb (.slice (some ⟨gn,0,none⟩) D.length cn) vb D/\w.grownBy wr (some kb)/\Hid (∀j' (h:j'<(D[y]).1.length),j'<j->(D[y]).1[j']∈jv)) (λ_ m _=>(D[y]).1.length-(intOf m).toNat)
    case atStart=>exact⟨0,line,az _,rfl,Zj.out,HV.out,ae hlt,HO2.out,XE,λj' _ h=>absurd h (by omega)⟩
    case round=>
     obtain⟨j,jv,hj,rfl,yJ,ru,hlk,hO4,yc,HN⟩:=hrel;have acT:=ru.len;by_cases hjt:j<(D[y]).1.length
     .obtain⟨a0,c0',he,_,_,hcells⟩:=HI.out _ yc
      simp only[gz]at he;obtain⟨rfl,-,rfl⟩:=he;rw[aP]at hcells;obtain⟨bM,oM,rfl,hcell⟩:=hcells (by omega);have hcm:=hcell j hjt;rw[fD hjt]at hcm;have Y7:=Ints.dX (l:=bV jv) yJ.own (by rw[aP];omega);clear hcell hcells;by_cases hin:(D[y]).1[j]∈jv
      .have hh:l7 (bV jv) ((D[y]).1[j]:Int)=true:=by simp only[l7];exact decide_eq_true (sD.2 hin)
       have yE:=aI hin;have NR:=aI yJ;have VI:=aI ru;clear hin yJ ru;go_wp2_with (go_at_call 164;refine(pF _ _ _ _ Y7).mono ?_;rintro e w2 ⟨he,n1,rfl⟩;rw[hh]at he;subst he)
       go_roundw
       case rel=>exact⟨j+1,jv,by omega,by go_num,NR.out.grown (kJ _ _ _) hkb,VI.out,hlk,hO4.grown (kJ _ _ _),yc.trans (kJ _ _ _),xR hjt HN yE.out⟩
       case measure=>simp[intOf];omega
      .have hh:l7 (bV jv) ((D[y]).1[j]:Int)=false:=by simp only[l7];exact decide_eq_false (λh=>hin (sD.1 h))
       have yE:=aI hin;have NR:=aI yJ;have VI:=aI ru;have IZ:=yJ.own;have hw4:=yc.size;clear hin yJ ru
       go_wp2_with (first
        |(go_at_call 164;refine(pF _ _ _ _ Y7).mono ?_;rintro e w2 ⟨he,n1,rfl⟩;rw[hh]at he;subst he)
        |(at_builtin;refine dm rfl (.tmp 78) (.tmp 83) 41 rfl w.heap.size 3 i0 (.int .i64 0) 1 8 underlying41 hi hz0 hz1 hz2 rfl (by decide) _ jv.length _ rfl ((own_drewN IZ n1).alloc _) _ 1 _ [.int .i64 ((D[y]).1[j]:Int)] rfl rfl (.inr ⟨_,rfl,dA (bY _ _ _)⟩) one_cell (by unfold maxLen;omega) (by omega) (by simp;omega) ?_;intro v5 w5 ji hg5 hl5))
       go_roundw
       case rel=>
        have hrow:∀b,Value.ownBlock u9=some b->w.heap.size<=b:=λb hb=>(IZ.lt b hb).1
        have Sm:wr.grownBy w5 (Value.ownBlock u9):=((kJ wr n1 _).trans (World.grownBy_alloc _ _ _)).trans hg5;have hgr5:w.grownBy w5 (some kb):=yc.andThen Sm (λb hb=>.inl (hrow b hb));have hxo:(D[y]).1[j]∈opt D true y:=(by rw[I1];exact aj hjt);have hkl:k<jv.length:=(cK.1 hlk).1;exact⟨j+1,jv++[(D[y]).1[j]],by omega,by go_num,NR.out.add hg5 ji hl5,VI.out.add (Nat.lt_trans (jU hD.out hxo) hyn) yE.out hyn hT hxo (by omega) (fq hlk) hy,by rw[bQ hkl];exact hlk,hO.Q8 hgr5 hO4 Sm (by intro e;have:=hrow kb e;omega),hgr5,xR hjt (λj' h h'=>by have:=HN.out j' h h';simp[this]) (by simp)⟩
       case measure=>simp[intOf];omega
     .have hjl:j=(D[y]).1.length:=by omega
      subst hjl;go_wp2
      go_roundw
      case rel=>
       have hkl:k<jv.length:=(cK.1 hlk).1;have hke:jv[k]=line[k]:=(by rw[ae hkl]at hlk;injection hlk);exact⟨k+1,jv,B,by omega,by go_num,yJ,ru.pass hkl (by rw[hke];exact hy) hT (λx hx=>by
        rw[I1]at hx;obtain⟨j',h,rfl⟩:=aH.1 hx;exact HN.out j' h h),hO4,yc⟩
      case measure=>simp[intOf];omega
  .have hkl:k=line.length:=by omega
   subst hkl;obtain⟨al,cl,rfl,hl1,hl2⟩:=bu hM.own;go_wp2
   go_ret
   exact⟨_,line,B,rfl,hM.out,hinv,Qj,hgr,hM.fresh⟩
end
section
open aZ
variable {D:cZ} {i x root:Nat} {g:Gm} {l:List Nat}
def uX(D:cZ)(left:Bool)(B F:List Nat):Prop:=(∀x,x∈F->x∈B/\∀z,z∈B->lq D left z x->z=x)/\(∀x,x∈B->∃z,z∈F/\lq D left z x)
theorem DT(hD:WF D)(h:x∈opt D true i):vl D x∈(vl D i).l:=by
 unfold opt at h;cases e:D[i]? with
 |none=>rw[e]at h;simp at h
 |some nd=>rw[e]at h;rw[oN hD e];exact ay.2 ⟨x,by simpa using h,rfl⟩
theorem DR(hD:WF D)(h:x∈opt D false i):vl D x∈(vl D i).r:=by
 unfold opt at h;cases e:D[i]? with
 |none=>rw[e]at h;simp at h
 |some nd=>rw[e]at h;rw[oK hD e];exact ay.2 ⟨x,by simpa using h,rfl⟩
theorem Nc(hD:WF D)(h:g∈(vl D i).l):∃x,x∈opt D true i/\g=vl D x:=by
 cases e:D[i]? with
 |none=>rw[EG e]at h;simp[Gm.l]at h
 |some nd=>
  rw[oN hD e]at h;obtain⟨x,hx,rfl⟩:=ay.1 h;exact⟨x,by simp[opt,e,hx],rfl⟩
theorem MS(hD:WF D)(h:g∈(vl D i).r):∃x,x∈opt D false i/\g=vl D x:=by
 cases e:D[i]? with
 |none=>rw[EG e]at h;simp[Gm.r]at h
 |some nd=>
  rw[oK hD e]at h;obtain⟨x,hx,rfl⟩:=ay.1 h;exact⟨x,by simp[opt,e,hx],rfl⟩
theorem lI(hD:WF D){left:Bool}{line B:List Nat}(h:fK D root left l line B i)(hc:∀x,x∈l->Canon (vl D x)):∀x,x∈line->Canon (vl D x):=by
 refine h.sV (λx=>Canon (vl D x)) (λi side x hi hx=>?_) hc;cases side
 .exact hi.r (DR hD hx)
 .exact hi.l (DT hD hx)
theorem RA(hD:WF D){r uK BL uJ BR FL FR:List Nat}(hroot:D[root]?=some (l,r))(cl:∀x,x∈l->Canon (vl D x))(cr:∀x,x∈r->Canon (vl D x))
 (iL:fK D root true l uK BL uK.length) (iR:fK D root false r uJ BR uJ.length) (mL:uX D true BL FL) (mR:uX D false BR FR):
 eU (.mk (FL.map (vl D)) (FR.map (vl D))) (vl D root)/\Canon (.mk (FL.map (vl D)) (FR.map (vl D))):=by
 have hl:(vl D root).l=l.map (vl D):=oN hD hroot;have hr:(vl D root).r=r.map (vl D):=oK hD hroot;have sR:∀x,x∈FR->¬Ge (vl D root) (vl D x):=by
  intro x hx;rcases iR.sound x (iR.kept x (mR.1 x hx).1).1 with h|⟨k,_,hk,h⟩
  .exact lG (by rw[hr];exact ay.2 ⟨x,h,rfl⟩)
  .exact MM (by simpa [lq]using hk) (DR hD h)
 have sL:∀x,x∈FL->¬Ge (vl D x) (vl D root):=by
  intro x hx;rcases iL.sound x (iL.kept x (mL.1 x hx).1).1 with h|⟨k,_,hk,h⟩
  .exact ku (by rw[hl];exact ay.2 ⟨x,h,rfl⟩)
  .exact MN (by simpa [lq]using hk) (DT hD h)
 have g1:Ge (.mk (FL.map (vl D)) (FR.map (vl D))) (vl D root):=by
  refine DJ (λg=>∃x,x∈uK/\g=vl D x) ?_ ?_ ?_
  .intro g hg
   rw[hl]at hg;obtain⟨x,hx,rfl⟩:=ay.1 hg;exact⟨_,⟨x,iL.sub x hx,rfl⟩,j6 _⟩
  .rintro _ ⟨x,hx,rfl⟩
   obtain⟨j,hj,rfl⟩:=aH.1 hx;rcases iL.done j hj hj with h|⟨y,hy,hg,hz⟩
   .obtain⟨z,hz,hg⟩:=mL.2 _ h
    exact .inl ⟨vl D z,ay.2 ⟨z,hz,rfl⟩,by simpa [lq]using hg⟩
   .refine .inr ⟨vl D y,DR hD (by simpa using hy),by simpa [lq]using hg,λg hg'=>?_⟩
    obtain⟨z,hz',rfl⟩:=Nc hD hg';exact⟨z,hz z hz',rfl⟩
  .intro g hg
   obtain⟨x,hx,rfl⟩:=ay.1 hg;exact sR x hx
 have g2:Ge (vl D root) (.mk (FL.map (vl D)) (FR.map (vl D))):=by
  refine DI (λg=>∃x,x∈uJ/\g=vl D x) ?_ ?_ ?_
  .intro g hg
   rw[hr]at hg;obtain⟨x,hx,rfl⟩:=ay.1 hg;exact⟨_,⟨x,iR.sub x hx,rfl⟩,j6 _⟩
  .rintro _ ⟨x,hx,rfl⟩
   obtain⟨j,hj,rfl⟩:=aH.1 hx;rcases iR.done j hj hj with h|⟨y,hy,hg,hz⟩
   .obtain⟨z,hz,hg⟩:=mR.2 _ h
    exact .inl ⟨vl D z,ay.2 ⟨z,hz,rfl⟩,by simpa [lq]using hg⟩
   .refine .inr ⟨vl D y,DT hD (by simpa using hy),by simpa [lq]using hg,λg hg'=>?_⟩
    obtain⟨z,hz',rfl⟩:=MS hD hg';exact⟨z,hz z hz',rfl⟩
  .intro g hg
   obtain⟨x,hx,rfl⟩:=ay.1 hg;exact sL x hx
 refine⟨⟨g1,g2⟩,Canon.mk _ ⟨?_,?_,?_,?_⟩ ?_ ?_⟩
 .intro x y hx hy h
  obtain⟨a,ha,rfl⟩:=ay.1 hx;obtain⟨b,hb,rfl⟩:=ay.1 hy;rw[(mL.1 b hb).2 a (mL.1 a ha).1 (by simpa [lq]using h)];exact iQ _
 .intro x y hx hy h
  obtain⟨a,ha,rfl⟩:=ay.1 hx;obtain⟨b,hb,rfl⟩:=ay.1 hy;rw[(mR.1 a ha).2 b (mR.1 b hb).1 (by simpa [lq]using h)];exact iQ _
 .intro x hx y hy h
  obtain⟨a,ha,rfl⟩:=ay.1 hx;obtain⟨c,hc,rfl⟩:=MS hD hy;have:=(iL.kept a (mL.1 a ha).1).2 c (by simpa using hc);simp[lq]at this;exact this (bZ _ _ _ g2 h)
 .intro x hx y hy h
  obtain⟨a,ha,rfl⟩:=ay.1 hx;obtain⟨c,hc,rfl⟩:=Nc hD hy;have:=(iR.kept a (mR.1 a ha).1).2 c (by simpa using hc);simp[lq]at this;exact this (bZ _ _ _ h g1)
 .intro x hx
  obtain⟨a,ha,rfl⟩:=ay.1 hx;exact lI hD iL cl a (iL.kept a (mL.1 a ha).1).1
 .intro x hx
  obtain⟨a,ha,rfl⟩:=ay.1 hx;exact lI hD iR cr a (iR.kept a (mR.1 a ha).1).1
end
section
open aZ
variable {l:List Nat} {z:List Int} {D:cZ} {left:Bool}
def zC(l:List Nat)(z:List Int):List Nat:=((List.range l.length).filter λ(i:Nat)=>!l7 z (i:Int)).map λi=>l.getD i 0
theorem xy(l:List Nat)(z:List Int):pO (bV l) z=bV (zC l z):=by
 unfold pO Gs zC;rw[aP]
 conv=>rhs;rw[bV,eP]
 refine bE λi hi=>?_
 have h:=dJ.1 (iY.1 hi).1;simp[fD h,h]
theorem Aq{x:Nat}:x∈zC l z↔∃i,∃h:i<l.length,x=l[i]/\(i:Int) ∉ z:=by
 unfold zC;rw[ay];constructor
 .rintro⟨i,hi,rfl⟩
  obtain⟨h1,h2⟩:=iY.1 hi;have h:=dJ.1 h1;exact⟨i,h,by simp[h],by simpa [l7]using h2⟩
 .rintro⟨i,h,rfl,hn⟩
  exact⟨i,iY.2 ⟨dJ.2 h,by simpa [l7]using hn⟩,by simp[h]⟩
theorem yX(hn:l.Nodup){i j:Nat}(hi:i<l.length)(hj:j<l.length)(e:l[i]=l[j]):i=j:=by
 have h:=bP.1 hn;rcases Nat.lt_trichotomy i j with c|c|c
 .exact absurd e (h i j hi hj c)
 .exact c
 .exact absurd e.symm (h j i hj hi c)
theorem TA(D:cZ)(left:Bool)(a:Nat):lq D left a a:=by cases left <;> simp[lq,j6]
theorem Pw{a b c:Nat}(h:lq D left a b)(k:lq D left b c):lq D left a c:=by
 cases left <;> simp[lq]at h k ⊢
 .exact bZ _ _ _ k h
 .exact bZ _ _ _ h k
theorem Av(hG:aZ.Good D)(hn:l.Nodup)(hl:∀x,x∈l->x<D.length)(hc:∀x,x∈l->Canon (vl D x))(hz:gD D left l z l.length 0):uX D left l (zC l z):=by
 have X8:∀a b,a∈l->b∈l->lq D left a b->lq D left b a->a=b:=by
  intro a b ha hb h k;have e:eU (vl D a) (vl D b):=by
   cases left <;> simp[lq]at h k
   .exact⟨k,h⟩
   .exact⟨h,k⟩
  exact ma hG a b (hl a ha) (hl b hb) (iA (hc a ha) (hc b hb) e)
 have dom:∀i,i<l.length->((i:Int)∈z↔Vf D left l i):=by
  intro i hi;rw[hz.mem];constructor
  .rintro(⟨_,h⟩|⟨rfl,_⟩)
   .exact h
   .omega
  .intro h;exact .inl ⟨hi,h⟩
 constructor
 .intro x hx
  obtain⟨i,hi,rfl,hz'⟩:=Aq.1 hx;refine⟨aj hi,λy hy hg=>?_⟩;obtain⟨k,hk,rfl⟩:=aH.1 hy;by_cases e:k=i
  .subst e;rfl
  .rw[dom i hi]at hz'
   by_cases g2:lq D left l[i] l[k]
   .exact X8 _ _ (aj hk) (aj hi) hg g2
   .exact absurd ⟨k,hk,e,by simpa [hk,hi]using hg,.inl (by simpa [hk,hi]using g2)⟩ hz'
 .intro x hx
  obtain⟨b,hb,hbx,hm⟩:=stays (lq D left) (TA D left) (λ_ _ _=>Pw) l X8 x hx;refine⟨b,?_,hbx⟩;obtain⟨i,hi,rfl⟩:=aH.1 hb;refine Aq.2 ⟨i,hi,rfl,λhz'=>?_⟩;obtain⟨k,hk,hne,hg,_⟩:=(dom i hi).1 hz';simp only[List.getD,ae hk,ae hi,gM]at hg;have e:=hm _ (aj hk) hg;exact hne (yX hn hk hi e)
end
section
open aZ
variable {D D':cZ} {l r B F:List Nat} {i:Nat} {left:Bool}
theorem jA.ext(h:jA D l r D' i):∃E,D'=D++E/\E.length<=1:=by
 rcases h.2 with h|h
 .exact⟨[],by simp[h],by simp⟩
 .exact⟨_,h,by simp⟩
theorem jA.lt(h:jA D l r D' i):i<D'.length:=(cK.1 h.1).1
theorem jA.node(h:jA D l r D' i):D'[i]'h.lt=(aS l,aS r):=by have k:=h.1;rw[ae h.lt]at k;injection k
theorem jA.len(h:jA D l r D' i):D.length<=D'.length/\D'.length<=D.length+1:=by
 obtain⟨E,rfl,h⟩:=h.ext;simp;omega
theorem jA.vl{D D':cZ}{l r:List Nat}{i:Nat}(h:jA D l r D' i)(hD:WF D)(hD':WF D'){x:Nat}(hx:x<D.length):aZ.vl D' x=aZ.vl D x:=by
 obtain⟨E,rfl,_⟩:=h.ext;exact gV hD hD' x hx
theorem yP{a b c d:List Gm}(h1:∀x,x∈a↔x∈c)(h2:∀x,x∈b↔x∈d):Same (.mk a b) (.mk c d):=by
 rw[same_iff];exact⟨λx hx=>⟨x,(h1 x).1 hx,iQ x⟩,λx hx=>⟨x,(h1 x).2 hx,iQ x⟩,λx hx=>⟨x,(h2 x).1 hx,iQ x⟩,λx hx=>⟨x,(h2 x).2 hx,iQ x⟩⟩
theorem jN(h:Asc l):l.Nodup:=h.imp (λh=>iH h)
theorem Dq(h:uX D left (aS B) F):uX D left B (aS F):=
 ⟨λx hx=>by obtain⟨a,b⟩:=h.1 x (bU.1 hx);exact⟨bU.1 a,λz hz=>b z (bU.2 hz)⟩,
  λx hx=>by obtain⟨z,hz,hg⟩:=h.2 x (bU.2 hx);exact⟨z,bU.2 hz,hg⟩⟩
theorem AY(hv:∀x,x<D.length->vl D' x=vl D x)(hB:∀x,x∈B->x<D.length)(h:uX D' left B F):uX D left B F:=by
 have e:∀x y,x∈B->y∈B->(lq D' left x y↔lq D left x y):=λx y hx hy=>by unfold lq;rw[hv x (hB x hx),hv y (hB y hy)]
 refine⟨λx hx=>?_,λx hx=>?_⟩
 .obtain⟨a,b⟩:=h.1 x hx
  exact⟨a,λz hz hg=>b z hz ((e z x hz a).2 hg)⟩
 .obtain⟨z,hz,hg⟩:=h.2 x hx
  exact⟨z,hz,(e z x (h.1 z hz).1 hx).1 hg⟩
def Within(D:cZ)(l r:List Nat)(D':cZ)(i:Nat):Prop:=∀P:Nat->Prop,(∀j side x,P j->x∈opt D side j->P x)->(∀x,x∈l->P x)->(∀x,x∈r->P x)->∀side x,x∈opt D' side i->P x
theorem nY{E:cZ}{side:Bool}(h:i<D.length):opt (D++E) side i=opt D side i:=by simp[opt,bQ h]
theorem OH{D1 D2 D3:cZ}{uK BL uJ BR:List Nat}{zL zR:List Int}{i1 i2 i3:Nat}(g:aZ.Good D)(g1:aZ.Good D1)(g2:aZ.Good D2)(g3:aZ.Good D3)
 (p1:jA D l r D1 i1) (p2:jA D1 (aS BL) (aS BR) D2 i2) (p3:jA D2 (zC (aS BL) zL) (zC (aS BR) zR) D3 i3)
 (hl:∀x,x∈l->x<D.length) (hr:∀x,x∈r->x<D.length) (cl:∀x,x∈l->Canon (vl D x)) (cr:∀x,x∈r->Canon (vl D x))
 (iL:fK D1 i1 true (aS l) uK BL uK.length) (iR:fK D1 i1 false (aS r) uJ BR uJ.length)
 (dL:gD D2 true (aS BL) zL (aS BL).length 0) (dR:gD D2 false (aS BR) zR (aS BR).length 0):
 (∃E,D3=D++E/\E.length<=3)/\i3<D3.length/\Canon (vl D3 i3)/\eU (vl D3 i3) (.mk (l.map (vl D)) (r.map (vl D)))/\Within D l r D3 i3:=by
 have e1:∀x,x<D.length->vl D1 x=vl D x:=λx hx=>p1.vl g.wf g1.wf hx
 have e2:∀x,x<D1.length->vl D2 x=vl D1 x:=λx hx=>p2.vl g1.wf g2.wf hx
 have e3:∀x,x<D2.length->vl D3 x=vl D2 x:=λx hx=>p3.vl g2.wf g3.wf hx
 have n1:=p1.len;have n2:=p2.len;have cl1:∀x,x∈aS l->Canon (vl D1 x):=λx hx=>by have hx:=bU.1 hx;rw[e1 x (hl x hx)];exact cl x hx
 have cr1:∀x,x∈aS r->Canon (vl D1 x):=λx hx=>by have hx:=bU.1 hx;rw[e1 x (hr x hx)];exact cr x hx
 have bL:∀x,x∈BL->x<D1.length/\Canon (vl D1 x):=λx hx=>⟨iL.lt x (iL.kept x hx).1,lI g1.wf iL cl1 x (iL.kept x hx).1⟩
 have bR:∀x,x∈BR->x<D1.length/\Canon (vl D1 x):=λx hx=>⟨iR.lt x (iR.kept x hx).1,lI g1.wf iR cr1 x (iR.kept x hx).1⟩
 have mL:uX D1 true BL (aS (zC (aS BL) zL)):=by
  refine AY e2 (λx hx=>(bL x hx).1) (Dq (Av g2 (jN (iP _)) ?_ ?_ dL))
  .intro x hx;have:=(bL x (bU.1 hx)).1;omega
  .intro x hx;have h:=bL x (bU.1 hx);rw[e2 x h.1];exact h.2
 have mR:uX D1 false BR (aS (zC (aS BR) zR)):=by
  refine AY e2 (λx hx=>(bR x hx).1) (Dq (Av g2 (jN (iP _)) ?_ ?_ dR))
  .intro x hx;have:=(bR x (bU.1 hx)).1;omega
  .intro x hx;have h:=bR x (bU.1 hx);rw[e2 x h.1];exact h.2
 obtain⟨hE,hC⟩:=RA g1.wf p1.1 cl1 cr1 iL iR mL mR;have v3:vl D3 i3=.mk ((aS (zC (aS BL) zL)).map (vl D1)) ((aS (zC (aS BR) zR)).map (vl D1)):=by
  rw[mK g3.wf p3.1];congr 1
  .refine bE λx hx=>?_
   have h:=(bL x (mL.1 x hx).1).1;rw[e3 x (by omega),e2 x h]
  .refine bE λx hx=>?_
   have h:=(bR x (mR.1 x hx).1).1;rw[e3 x (by omega),e2 x h]
 have v1:eU (vl D1 i1) (.mk (l.map (vl D)) (r.map (vl D))):=by
  rw[mK g1.wf p1.1];refine(yP (λy=>?_) (λy=>?_)).eqv
  .simp only[ay,bU]
   exact⟨λ⟨x,hx,e⟩=>⟨x,hx,by rw[<-e,e1 x (hl x hx)]⟩,λ⟨x,hx,e⟩=>⟨x,hx,by rw[<-e,e1 x (hl x hx)]⟩⟩
  .simp only[ay,bU]
   exact⟨λ⟨x,hx,e⟩=>⟨x,hx,by rw[<-e,e1 x (hr x hx)]⟩,λ⟨x,hx,e⟩=>⟨x,hx,by rw[<-e,e1 x (hr x hx)]⟩⟩
 refine⟨?_,p3.lt,by rw[v3];exact hC,by rw[v3];exact hE.trans v1,λP hP pl pr side x hx=>?_⟩
 rotate_left
 .have hP1:∀i side x,(P i/\i<D.length)->x∈opt D1 side i->P x/\x<D.length:=λi side x hi hx=>by
   obtain⟨E,rfl,_⟩:=p1.ext;rw[nY hi.2]at hx;exact⟨hP i side x hi.1 hx,by have:=jU g.wf hx;omega⟩
  have e:D3[i3]?=some (aS (zC (aS BL) zL),aS (zC (aS BR) zR)):=p3.1;unfold opt at hx;rw[e]at hx;cases side
  .have hx:x∈aS (zC (aS BR) zR):=by simpa using hx
   exact(iR.sV (λx=>P x/\x<D.length) hP1 (λx hx=>⟨pr x (bU.1 hx),hr x (bU.1 hx)⟩) x (iR.kept x (mR.1 x hx).1).1).1
  .have hx:x∈aS (zC (aS BL) zL):=by simpa using hx
   exact(iL.sV (λx=>P x/\x<D.length) hP1 (λx hx=>⟨pl x (bU.1 hx),hl x (bU.1 hx)⟩) x (iL.kept x (mL.1 x hx).1).1).1
 obtain⟨E1,rfl,h1⟩:=p1.ext;obtain⟨E2,rfl,h2⟩:=p2.ext;obtain⟨E3,rfl,h3⟩:=p3.ext;exact⟨E1++(E2++E3),by simp,by simp;omega⟩
end
