/- 8 -/
import Derived.Test.YtplgooajigigkaaGreatDoorK7
set_option maxRecDepth 100000
set_option maxHeartbeats 4000000
namespace Go.Proofs.YtplgooajigigkaaGreatDoor
open Tryz
open Go.RowKit
open bE (dh Nd vl Ge)
variable {n root i x k cap kb po pb g:Nat} {l line B:List Nat} {D:dh} {left:Bool} {w wr w2:World} {lv ov vb:Value}
structure jd(D:dh)(root:Nat)(left:Bool)(l line B:List Nat)(i:Nat):Prop where
 nodup:line.Nodup
 lt:∀x,x∈line->x<D.length
 sub:∀x,x∈l->x∈line
 sound:∀x,x∈line->x∈l\/∃k,k<D.length/\nU D left root k/\x∈opt D left k
 kept:∀x,x∈B->x∈line/\∀y,y∈opt D (!left) x->¬nU D left root y
 done:∀j (h:j<line.length),j<i->line[j]∈B\/∃y,y∈opt D (!left) line[j]/\nU D left root y/\∀x,x∈opt D left y->x∈line
 zC:B.length<=i
 xn:∀P:Nat->Prop,(∀i side x,P i->x∈opt D side i->P x)->(∀x,x∈l->P x)->∀x,x∈line->P x
theorem jW(h:l.Nodup)(hl:∀x,x∈l->x<n):l.length<=n:=by
 induction n generalizing l with
 |zero=>cases l with
  |nil=>simp
  |cons x l=>have:=hl x (by simp);omega
 |succ n ih=>
  have h1:=ih (l:=l.filter (λx=>x≠n)) (h.sublist List.filter_sublist) (λx hx=>by
   obtain⟨a,b⟩:=lh.1 hx;have:=hl x a;simp at b;omega)
  have h2:l.length<=(l.filter (λx=>x≠n)).length+1:=by
   clear ih h1 hl
   induction l with
   |nil=>simp
   |cons x l ih=>
    have hd:=List.nodup_cons.1 h;by_cases e:x=n
    .subst e
     have:l.filter (λy=>y≠x)=l:=List.filter_eq_self.2 (λy hy=>by simp;rintro rfl;exact hd.1 hy);rw[List.filter_cons_of_neg (by simp),this];simp
    .simp[e];have:=ih hd.2;simp at this;omega
  omega
theorem jd.len(h:jd D root left l line B i):line.length<=D.length:=jW h.nodup h.lt
theorem jd.start(hn:l.Nodup)(hl:∀x,x∈l->x<D.length):jd D root left l l [] 0:=
 ⟨hn,hl,λ_ h=>h,λ_ h=>.inl h,by simp,λ_ _ h=>absurd h (by omega),by simp,λ_ _ h=>h⟩
theorem jd.keep(h:jd D root left l line B i)(hi:i<line.length)(hn:∀y,y∈opt D (!left) line[i]->¬nU D left root y):jd D root left l line (B++[line[i]]) (i+1):=by
 refine⟨h.nodup,h.lt,h.sub,h.sound,λx hx=>?_,λj hj hji=>?_,by simp;exact h.zC,h.xn⟩
 .rcases bq.1 hx with hx|hx
  .exact h.kept x hx
  .simp at hx;subst hx;exact⟨ai hi,hn⟩
 .by_cases e:j=i
  .subst e;exact .inl (by simp)
  .rcases h.done j hj (by omega)with a|a
   .exact .inl (by simp[a])
   .exact .inr a
theorem jd.add(h:jd D root left l line B i)(hx:x<D.length)(hn:x ∉ line)(hk:k<D.length)(hg:nU D left root k)(ho:x∈opt D left k)(hi:i<=line.length){z:Nat}(hz:z∈line)(hkz:k∈opt D (!left) z):jd D root left l (line++[x]) B i:=by
 refine⟨?_,λy hy=>?_,λy hy=>by simp[h.sub y hy],λy hy=>?_,λy hy=>⟨by simp[(h.kept y hy).1],(h.kept y hy).2⟩,λj hj hji=>?_,h.zC,λP c hl y hy=>?_⟩
 .rw[nW]
  exact⟨h.nodup,by simp,λa ha b hb=>by simp at hb;subst hb;rintro rfl;exact hn ha⟩
 .rcases bq.1 hy with hy|hy
  .exact h.lt y hy
  .simp at hy;omega
 .rcases bq.1 hy with hy|hy
  .exact h.sound y hy
  .simp at hy;subst hy;exact .inr ⟨k,hk,hg,ho⟩
 .have hjl:j<line.length:=by omega
  rw[dM hjl];rcases h.done j hjl hji with a|⟨y,a,b,c⟩
  .exact .inl a
  .exact .inr ⟨y,a,b,λz hz=>by simp[c z hz]⟩
 .rcases bq.1 hy with hy|hy
  .exact h.xn P c hl y hy
  .simp at hy;subst hy
   exact c _ _ _ (c _ _ _ (h.xn P c hl z hz) hkz) ho
theorem jd.pass(h:jd D root left l line B i){y:Nat}(hi:i<line.length)(hy:y∈opt D (!left) line[i])(hg:nU D left root y)(hs:∀x,x∈opt D left y->x∈line):jd D root left l line B (i+1):=by
 refine⟨h.nodup,h.lt,h.sub,h.sound,h.kept,λj hj hji=>?_,by have:=h.zC;omega,h.xn⟩;by_cases e:j=i
 .subst e;exact .inr ⟨y,hy,hg,hs⟩
 .exact h.done j hj (by omega)
theorem lU(hD:bE.WF D)(hx:x∈opt D left i):x<i:=by
 unfold opt at hx;cases h:D[i]? with
 |none=>rw[h]at hx;simp at hx
 |some nd=>
  rw[h]at hx;cases left
  .exact(hD i nd h).2 x (by simpa using hx)
  .exact(hD i nd h).1 x (by simpa using hx)
theorem JX{a:Option Addr}{l:List Int}(_:l.length<=cap)(_:l.length<=1152921504606846976)(hc:0<l.length->∃b off,a=some ⟨b,off,none⟩/\∀i,i<l.length->w.cell? ⟨b,off+i,none⟩=some (.int .i64 (jl l i)))(W:World)(hE:Ext w W):
 l.length=0\/∃ad,a=some ad/\∀(j:Nat) (u:Value),(l.map (Value.int .i64))[j]?=some u->W.cell? (ad.add j)=some u:=by
 by_cases h:l.length=0
 .exact .inl h
 .obtain⟨b,off,rfl,hcell⟩:=hc (by omega)
  refine .inr ⟨_,rfl,?_⟩;have:=Nz hcell hE 0 l.length (by omega)
  simpa using this
structure nJ(w:World)(wr:World)(lv ov:Value)(line B:List Nat):Prop where
 own:wr.ownsRow w.heap.size 3 1 lv line.length ((dB line).map (Value.int .i64))
 out:Ints wr ov (kL (dB B))
 fresh:∀b,ov.ownBlock=some b->w.heap.size<=b/\b<wr.heap.size
 apart:∀b,ov.ownBlock=some b->lv.ownBlock≠some b
theorem nJ.grown{w':World}(h:nJ w wr lv ov line B)(hg:wr.grownBy w' (some kb))(hk:kb<w.heap.size):nJ w w' lv ov line B:=
 ⟨h.own.kept hg (by
  cases e:lv.ownBlock with
  |none=>exact .inl rfl
  |some b=>exact .inr (λe'=>by injection e' with e';have:=h.own.lt b e;omega)),
  wW h.out hg (λb hb=>by have:=h.fresh b hb;omega),λb hb=>⟨(h.fresh b hb).1,bg (h.fresh b hb).2 hg.size⟩,h.apart⟩
theorem nJ.cell{w wr:World}{gl cl:Nat}{ov:Value}{line B:List Nat}(h:nJ w wr (.slice (some ⟨gl,0,none⟩) line.length cl) ov line B){k:Nat}(hk:k<line.length):wr.cell? ⟨gl,k,none⟩=some (.int .i64 (line[k]:Int)):=by
 rw[h.own.cellAt k (by omega)];simp[dB,hk]
theorem Ord.Jw(h:Ord w po pb kb (.slice (some ⟨g,0,none⟩) D.length cap) vb D)(hi:i<D.length):∃L R,(∀w',w.grownBy w' (some kb)->w'.cell? ⟨g,i*2,none⟩=some L/\w'.cell? ⟨g,i*2+1,none⟩=some R/\Ints w' L (dB (D[i]).1)/\Ints w' R (dB (D[i]).2))/\(∀b,L.ownBlock=some b->b≠kb)/\(∀b,R.ownBlock=some b->b≠kb):=by
 obtain⟨g',cap',L,R,he,h1,h2,h3⟩:=h.lists hi;simp only[il,bU,Addr.mk.injEq,true_and,and_true]at he;obtain⟨rfl,rfl⟩:=he;exact⟨L,R,h1,h2,h3⟩
theorem Ord.adb(h:Ord w po pb kb (.slice (some ⟨g,0,none⟩) D.length cap) vb D)(hi:i<D.length):∃aL cL aR cR,∀w',w.grownBy w' (some kb)->w'.cell? ⟨g,i*2,none⟩=some (.slice aL (D[i]).1.length cL)/\w'.cell? ⟨g,i*2+1,none⟩=some (.slice aR (D[i]).2.length cR)/\Ints w' (.slice aL (D[i]).1.length cL) (dB (D[i]).1)/\Ints w' (.slice aR (D[i]).2.length cR) (dB (D[i]).2):=by
 obtain⟨L,R,h1,_,_⟩:=h.Jw hi;obtain⟨aL,cL,rfl,_⟩:=(h1 w (World.grownBy.refl _ _)).2.2.1;obtain⟨aR,cR,rfl,_⟩:=(h1 w (World.grownBy.refl _ _)).2.2.2;rw[bG,bG]at h1;exact⟨aL,cL,aR,cR,h1⟩
theorem Bn(hk:k<l.length)(h:Hid (∀j (h:j<l.length),j<k->l[j]∈line))(hn:l[k]∈line):Hid (∀j (h:j<l.length),j<k+1->l[j]∈line):=by
 intro j hj hjk;by_cases e:j=k
 .subst e;exact hn
 .exact h j hj (by omega)
theorem mK(w:World)(n:Nat)(row:Option Nat):w.grownBy (w.drewN n) row:=⟨rfl,rfl,rfl,aJ _,λ_ _ _=>rfl⟩
theorem nJ.put{v1:Value}(h:nJ w wr lv ov line B)(hI:Ints w2 v1 (um (kL (dB B)) (x:Int)))(hx:Ext wr w2)(hn:YL wr w2 ov v1)(hw:w.heap.size<=wr.heap.size):nJ w w2 lv v1 line (B++[x]):=by
 refine⟨dD h.own hx,?_,vk h.fresh hw hx.size hn,λb hb e=>?_⟩
 .rw[show dB (B++[x])=dB B++[(x:Int)] by simp[dB],zV];exact hI
 .rcases hn b hb with h1|h1
  .exact h.apart b h1 e
  .have:=(h.own.lt b e).2;omega
theorem nJ.add{lv2:Value}{X:Obj}(h:nJ w wr lv ov line B)(hg:((wr.drewN n).alloc X).grownBy w2 lv.ownBlock)
 (ho:w2.ownsRow w.heap.size 3 1 lv2 (line.length+1) ((dB line).map (Value.int .i64)++[.int .i64 (x:Int)])) (hl:pX ((wr.drewN n).alloc X) lv lv2):nJ w w2 lv2 ov (line++[x]) B:=by
 have hz:(wr.drewN n).heap.size=wr.heap.size:=rfl;have hs:=hg.size;rw[fU,hz]at hs;refine⟨by simpa [dB]using ho,?_,λb hb=>⟨(h.fresh b hb).1,by have:=(h.fresh b hb).2;omega⟩,λb hb e=>?_⟩
 .refine h.out.keep (λb hn hb=>?_)
  have hlt:=(h.fresh b hb).2;rw[hg.block b (by rw[fU,hz];omega) (by intro e;exact h.apart b hb e.symm),(World.grownBy_alloc _ _ none).block b (by rw[hz];omega) (by simp)];rfl
 .rcases hl with h1|⟨g,h1,h2⟩
  .exact h.apart b hb (h1 ▸ e)
  .rw[h1]at e;injection e with e
   rw[fU,hz]at h2;have:=(h.fresh b hb).2;omega
theorem Ord.Vy{vn:Value}{row:Option Nat}(hO:Ord w po pb kb vn vb D)(hgr:w.grownBy w2 (some kb))(hOr:Ord wr po pb kb vn vb D)(hg:wr.grownBy w2 row)(hne:row≠some kb):Ord w2 po pb kb vn vb D:=by
 obtain⟨kn0,h0,_⟩:=hO;obtain⟨kn,h1,hH⟩:=hOr;have h2:=h0.grown hgr (LF:=kn) (h1.own.kept hg (.inr (by simp only[Value.ownBlock];exact λe=>hne e.symm)));exact⟨kn,h2,hH⟩
theorem Fa(po pb kb:Nat)(vn vb v:Value)(D:dh)(root:Nat)(l:List Nat)(left:Bool)(w:World)(hO:Ord w po pb kb vn vb D)(hr:root<D.length)(hv:Ints w v (dB l))(hvk:∀b,v.ownBlock=some b->b≠kb)(hl:∀x,x∈l->x<D.length)(hnd:l.Nodup):
 Calls prog 116 #[.pointer (some ⟨po,0,none⟩),.int .i64 root,v,.bool left] w λe w'=>∃v' line B,e=.returned v'/\Ints w' v' (kL (dB B))/\jd D root left l line B line.length/\Ord w' po pb kb vn vb D/\w.grownBy w' (some kb)/\(∀b,v'.ownBlock=some b->w.heap.size<=b/\b<w'.heap.size):=by
 have hkb:=hO.QT;have hds:=hO.at.small;have hll:=jW hnd hl;have hD:=aW hO.at.good.wf;obtain⟨gn,cn,_,_,rfl,_,_,_⟩:=hO.lists hr;obtain⟨i0,hi,hz0,hz1,hz2⟩:=info_parts iU;obtain⟨a,cap,rfl,hlc,hcap,hcells⟩:=hv;have hsrc:=JX hlc hcap hcells (w.alloc (.cells #[] 3)) (by go_grown);rw[bG]at hlc hcap hcells hsrc;rw[bG];go_enter Tryz.func116,Tryz.ntmps116
 go_wp2_with (at_builtin;refine eO rfl (.tmp 15) (.tmp 16) 41 rfl w.heap.size 3 i0 (.int .i64 0) 1 8 underlying41 hi hz0 hz1 hz2 rfl (by decide) (.slice (some ⟨w.heap.size,0,none⟩) 0 0) 0 [] rfl (iB w _ (aJ _) _) a l.length cap ((dB l).map (Value.int .i64)) rfl (by simp[bG]) hsrc (lZ _) (by unfold maxLen;omega) (by omega) (by simp) ?_;intro v1 w1 ho1 hg1 hl1;simp only[fI,iQ]at ho1)
 have hx1:Ext w w1:=eU (by go_grown) hg1 (λk hk=>by simp[Value.ownBlock]at hk;omega);have hw1:=hx1.size;have hv1:=ho1.lt;go_loopw [9,10,11,12,13,14] (λlv ov i _ _ _ wr=>∃k line B,k<=line.length/\i=.int .i64 ((k:Nat):Int)/\nJ w wr lv ov line B/\jd D root left l line B k/\Ord wr po pb kb (.slice (some ⟨gn,0,none⟩) D.length cn) vb D/\w.grownBy wr (some kb)) (λ_ _ i _ _ _ _=>D.length-(intOf i).toNat)
 case atStart=>
  refine⟨0,l,[],aU _,rfl,⟨by simpa [bG]using ho1.alloc _,Ints.nil _ _ _,λb hb=>?_,λb hb e=>?_⟩,jd.start hnd hl,hO.grown (jX (bY hx1 _)),(jX (bY hx1 _)).but _⟩
  .simp[Value.ownBlock]at hb;subst hb;simp;omega
  .simp[Value.ownBlock]at hb;subst hb;have:=(hv1 _ e).2;omega
 case round=>
  clear hx1 hw1 hv1 ho1 hg1 hl1 hsrc hcells;obtain⟨k,line,B,hk,rfl,hM,hinv,JF,hgr⟩:=hrel;have hlen:=hinv.len;by_cases hlt:k<line.length
  .obtain⟨gl,cl,rfl,hl1,hl2,hcl⟩:=iy hM.own (by omega)
   have hck:wr.cell? ⟨gl,k,none⟩=some (.int .i64 (line[k]:Int)):=(by rw[hcl k (by omega)];simp[dB,hlt]);have hBl:(kL (dB B)).length<=1000000000:=(by have:=uW (dB B);rw[bG]at this;have:=hinv.zC;omega);have hxn:=hinv.lt _ (ai hlt);clear hcl
   go_wp2_with (first
    |(go_at_call 163;refine(Gz po pb kb _ vb D root line[k] left _ JF hr hxn).mono ?_;rintro e w1 ⟨y0,rfl,hT,hO2,qC⟩
      have hM2:=hM.grown qC hkb;have Mc:=hM2.cell hlt;have hGR:=hgr.trans qC;rcases hT with⟨rfl,hT⟩|⟨y,hy,rfl,hT⟩
      all_goals try(
       have hyn:y<D.length:=Nat.lt_trans (lU hD.out hy) hxn;have hy0:decide ((y:Int)<0)=false:=(by simp);obtain⟨aL,cL,aR,cR,hG⟩:=hO.adb hyn;obtain⟨gL,gR,iL,iR⟩:=hG w1 hGR;have HG:=aW hG;have c0:=hO2.cell0;have b0:=hO2.at.cell0;clear hG;cases left))
    |(go_at_call 161;refine(vz _ _ _ _ hM2.out hBl).mono ?_;rintro e w2 ⟨v1,rfl,hI1,hx1,hn1⟩))
   .go_roundw
    case rel=>exact⟨k+1,line,B++[line[k]],by omega,by go_num,hM2.put hI1 hx1 hn1 hGR.size,hinv.keep hlt hT,hO2.grown (jX hx1),hGR.trans ((jX hx1).but _)⟩
    case measure=>simp[intOf];omega
   .have HI:Hid (∀w',w.grownBy w' (some kb)->Ints w' (.slice aR (D[y]).2.length cR) (dB (D[y]).2)):=λw' hg=>(HG.out w' hg).2.2.2
    have uq:opt D false y=(D[y]).2:=(by simp[opt,hyn]);have hMl:(D[y]).2.length<=1152921504606846976:=(by have h:=iR;obtain⟨_,_,_,_,h,_⟩:=h;rw[bG]at h;exact h);have HO2:=aW hO2;have Qa:=aW hM2;have HV:=aW hinv;clear iL iR gL gR c0 b0 hck Mc hM HG hO2 hM2 JF hgr hinv;obtain⟨wi,rfl⟩:∃wi:World,wi=w1:=⟨_,rfl⟩;go_loopw [9,14] (λlv m wr=>∃j kW,j<=(D[y]).2.length/\m=.int .i64 ((j:Nat):Int)/\nJ w wr lv u10 kW B/\jd D root false l kW B k/\kW[k]?=some line[k]/\Ord wr po pb kb (.slice (some ⟨gn,0,none⟩) D.length cn) vb D/\w.grownBy wr (some kb)/\Hid (∀j' (h:j'<(D[y]).2.length),j'<j->(D[y]).2[j']∈kW)) (λ_ m _=>(D[y]).2.length-(intOf m).toNat)
    case atStart=>exact⟨0,line,aU _,rfl,Qa.out,HV.out,af hlt,HO2.out,hGR,λj' _ h=>absurd h (by omega)⟩
    case round=>
     obtain⟨j,kW,hj,rfl,Mm,vI,hlk,hO4,BC,HN⟩:=hrel;have agW:=vI.len;by_cases hjt:j<(D[y]).2.length
     .obtain⟨a0,c0',he,_,_,hcells⟩:=HI.out _ BC
      simp only[il]at he;obtain⟨rfl,-,rfl⟩:=he;rw[bG]at hcells;obtain⟨bM,oM,rfl,hcell⟩:=hcells (by omega);have hcm:=hcell j hjt;rw[iA hjt]at hcm;have hLI:=Ints.gm (l:=dB kW) Mm.own (by rw[bG];omega);clear hcell hcells;by_cases hin:(D[y]).2[j]∈kW
      .have hh:oV (dB kW) ((D[y]).2[j]:Int)=true:=by simp only[oV];exact decide_eq_true (wQ.2 hin)
       have BX:=aW hin;have P9:=aW Mm;have Zw:=aW vI;clear hin Mm vI;go_wp2_with (go_at_call 164;refine(sJ _ _ _ _ hLI).mono ?_;rintro e w2 ⟨he,n1,rfl⟩;rw[hh]at he;subst he)
       go_roundw
       case rel=>exact⟨j+1,kW,by omega,by go_num,P9.out.grown (mK _ _ _) hkb,Zw.out,hlk,hO4.grown (mK _ _ _),BC.trans (mK _ _ _),Bn hjt HN BX.out⟩
       case measure=>simp[intOf];omega
      .have hh:oV (dB kW) ((D[y]).2[j]:Int)=false:=by simp only[oV];exact decide_eq_false (λh=>hin (wQ.1 h))
       have BX:=aW hin;have P9:=aW Mm;have Zw:=aW vI;have LY:=Mm.own;have hw4:=BC.size;clear hin Mm vI
       go_wp2_with (first
        |(go_at_call 164;refine(sJ _ _ _ _ hLI).mono ?_;rintro e w2 ⟨he,n1,rfl⟩;rw[hh]at he;subst he)
        |(at_builtin;refine eO rfl (.tmp 78) (.tmp 83) 41 rfl w.heap.size 3 i0 (.int .i64 0) 1 8 underlying41 hi hz0 hz1 hz2 rfl (by decide) _ kW.length _ rfl ((own_drewN LY n1).alloc _) _ 1 _ [.int .i64 ((D[y]).2[j]:Int)] rfl rfl (.inr ⟨_,rfl,fD (dW _ _ _)⟩) one_cell (by unfold maxLen;omega) (by omega) (by simp;omega) ?_;intro v5 w5 lq hg5 hl5))
       go_roundw
       case rel=>
        have hrow:∀b,Value.ownBlock u9=some b->w.heap.size<=b:=λb hb=>(LY.lt b hb).1
        have WQ:wr.grownBy w5 (Value.ownBlock u9):=((mK wr n1 _).trans (World.grownBy_alloc _ _ _)).trans hg5;have hgr5:w.grownBy w5 (some kb):=BC.andThen WQ (λb hb=>.inl (hrow b hb));have hxo:(D[y]).2[j]∈opt D false y:=(by rw[uq];exact ai hjt);have hkl:k<kW.length:=(df.1 hlk).1;exact⟨j+1,kW++[(D[y]).2[j]],by omega,by go_num,P9.out.add hg5 lq hl5,Zw.out.add (Nat.lt_trans (lU hD.out hxo) hyn) BX.out hyn hT hxo (by omega) (nz hlk) hy,by rw[dN hkl];exact hlk,hO.Vy hgr5 hO4 WQ (by intro e;have:=hrow kb e;omega),hgr5,Bn hjt (λj' h h'=>by have:=HN.out j' h h';simp[this]) (by simp)⟩
       case measure=>simp[intOf];omega
     .have hjl:j=(D[y]).2.length:=by omega
      subst hjl;go_wp2
      go_roundw
      case rel=>
       have hkl:k<kW.length:=(df.1 hlk).1;have hke:kW[k]=line[k]:=(by rw[af hkl]at hlk;injection hlk);exact⟨k+1,kW,B,by omega,by go_num,Mm,vI.pass hkl (by rw[hke];exact hy) hT (λx hx=>by
        rw[uq]at hx;obtain⟨j',h,rfl⟩:=aQ.1 hx;exact HN.out j' h h),hO4,BC⟩
      case measure=>simp[intOf];omega
   .have HI:Hid (∀w',w.grownBy w' (some kb)->Ints w' (.slice aL (D[y]).1.length cL) (dB (D[y]).1)):=λw' hg=>(HG.out w' hg).2.2.1
    have uq:opt D true y=(D[y]).1:=(by simp[opt,hyn]);have hMl:(D[y]).1.length<=1152921504606846976:=(by have h:=iL;obtain⟨_,_,_,_,h,_⟩:=h;rw[bG]at h;exact h);have HO2:=aW hO2;have Qa:=aW hM2;have HV:=aW hinv;clear iL iR gL gR c0 b0 hck Mc hM HG hO2 hM2 JF hgr hinv;obtain⟨wi,rfl⟩:∃wi:World,wi=w1:=⟨_,rfl⟩;go_loopw [9,14] (λlv m wr=>∃j kW,j<=(D[y]).1.length/\m=.int .i64 ((j:Nat):Int)/\nJ w wr lv u10 kW B/\jd D root true l kW B k/\kW[k]?=some line[k]/\Ord wr po pb kb (.slice (some ⟨gn,0,none⟩) D.length cn) vb D/\w.grownBy wr (some kb)/\Hid (∀j' (h:j'<(D[y]).1.length),j'<j->(D[y]).1[j']∈kW)) (λ_ m _=>(D[y]).1.length-(intOf m).toNat)
    case atStart=>exact⟨0,line,aU _,rfl,Qa.out,HV.out,af hlt,HO2.out,hGR,λj' _ h=>absurd h (by omega)⟩
    case round=>
     obtain⟨j,kW,hj,rfl,Mm,vI,hlk,hO4,BC,HN⟩:=hrel;have agW:=vI.len;by_cases hjt:j<(D[y]).1.length
     .obtain⟨a0,c0',he,_,_,hcells⟩:=HI.out _ BC
      simp only[il]at he;obtain⟨rfl,-,rfl⟩:=he;rw[bG]at hcells;obtain⟨bM,oM,rfl,hcell⟩:=hcells (by omega);have hcm:=hcell j hjt;rw[iA hjt]at hcm;have hLI:=Ints.gm (l:=dB kW) Mm.own (by rw[bG];omega);clear hcell hcells;by_cases hin:(D[y]).1[j]∈kW
      .have hh:oV (dB kW) ((D[y]).1[j]:Int)=true:=by simp only[oV];exact decide_eq_true (wQ.2 hin)
       have BX:=aW hin;have P9:=aW Mm;have Zw:=aW vI;clear hin Mm vI;go_wp2_with (go_at_call 164;refine(sJ _ _ _ _ hLI).mono ?_;rintro e w2 ⟨he,n1,rfl⟩;rw[hh]at he;subst he)
       go_roundw
       case rel=>exact⟨j+1,kW,by omega,by go_num,P9.out.grown (mK _ _ _) hkb,Zw.out,hlk,hO4.grown (mK _ _ _),BC.trans (mK _ _ _),Bn hjt HN BX.out⟩
       case measure=>simp[intOf];omega
      .have hh:oV (dB kW) ((D[y]).1[j]:Int)=false:=by simp only[oV];exact decide_eq_false (λh=>hin (wQ.1 h))
       have BX:=aW hin;have P9:=aW Mm;have Zw:=aW vI;have LY:=Mm.own;have hw4:=BC.size;clear hin Mm vI
       go_wp2_with (first
        |(go_at_call 164;refine(sJ _ _ _ _ hLI).mono ?_;rintro e w2 ⟨he,n1,rfl⟩;rw[hh]at he;subst he)
        |(at_builtin;refine eO rfl (.tmp 78) (.tmp 83) 41 rfl w.heap.size 3 i0 (.int .i64 0) 1 8 underlying41 hi hz0 hz1 hz2 rfl (by decide) _ kW.length _ rfl ((own_drewN LY n1).alloc _) _ 1 _ [.int .i64 ((D[y]).1[j]:Int)] rfl rfl (.inr ⟨_,rfl,fD (dW _ _ _)⟩) one_cell (by unfold maxLen;omega) (by omega) (by simp;omega) ?_;intro v5 w5 lq hg5 hl5))
       go_roundw
       case rel=>
        have hrow:∀b,Value.ownBlock u9=some b->w.heap.size<=b:=λb hb=>(LY.lt b hb).1
        have WQ:wr.grownBy w5 (Value.ownBlock u9):=((mK wr n1 _).trans (World.grownBy_alloc _ _ _)).trans hg5;have hgr5:w.grownBy w5 (some kb):=BC.andThen WQ (λb hb=>.inl (hrow b hb));have hxo:(D[y]).1[j]∈opt D true y:=(by rw[uq];exact ai hjt);have hkl:k<kW.length:=(df.1 hlk).1;exact⟨j+1,kW++[(D[y]).1[j]],by omega,by go_num,P9.out.add hg5 lq hl5,Zw.out.add (Nat.lt_trans (lU hD.out hxo) hyn) BX.out hyn hT hxo (by omega) (nz hlk) hy,by rw[dN hkl];exact hlk,hO.Vy hgr5 hO4 WQ (by intro e;have:=hrow kb e;omega),hgr5,Bn hjt (λj' h h'=>by have:=HN.out j' h h';simp[this]) (by simp)⟩
       case measure=>simp[intOf];omega
     .have hjl:j=(D[y]).1.length:=by omega
      subst hjl;go_wp2
      go_roundw
      case rel=>
       have hkl:k<kW.length:=(df.1 hlk).1;have hke:kW[k]=line[k]:=(by rw[af hkl]at hlk;injection hlk);exact⟨k+1,kW,B,by omega,by go_num,Mm,vI.pass hkl (by rw[hke];exact hy) hT (λx hx=>by
        rw[uq]at hx;obtain⟨j',h,rfl⟩:=aQ.1 hx;exact HN.out j' h h),hO4,BC⟩
      case measure=>simp[intOf];omega
  .have hkl:k=line.length:=by omega
   subst hkl;obtain⟨al,cl,rfl,hl1,hl2⟩:=bT hM.own;go_wp2
   go_ret
   exact⟨_,line,B,rfl,hM.out,hinv,JF,hgr,hM.fresh⟩
