/-
  Plain law: three puts, two bypassings and two thinnings make the canonical node. (4 texts.)
-/
import Derived.Test.YteknjeohbcgpdaaGreatDoorK6
set_option maxRecDepth 100000
namespace Go.Proofs.YteknjeohbcgpdaaGreatDoor
open Tryz
section
open Go.RowKit
open bO (dH Nd vl Ge)
variable {n root i x k cap kb po pb g:Nat} {l line B:List Nat} {D:dH} {left:Bool} {w wr w2:World} {lv ov vb:Value}
structure gQ(D:dH)(root:Nat)(left:Bool)(l line B:List Nat)(i:Nat):Prop where
 nodup:line.Nodup
 lt:∀x,x∈line->x<D.length
 sub:∀x,x∈l->x∈line
 sound:∀x,x∈line->x∈l\/∃k,k<D.length/\lZ D left root k/\x∈opt D left k
 kept:∀x,x∈B->x∈line/\∀y,y∈opt D (!left) x->¬lZ D left root y
 done:∀j (h:j<line.length),j<i->line[j]∈B\/∃y,y∈opt D (!left) line[j]/\lZ D left root y/\∀x,x∈opt D left y->x∈line
 xL:B.length<=i
 um:∀P:Nat->Prop,(∀i side x,P i->x∈opt D side i->P x)->(∀x,x∈l->P x)->∀x,x∈line->P x
theorem jI(h:l.Nodup)(hl:∀x,x∈l->x<n):l.length<=n:=by
 induction n generalizing l with
 |zero=>cases l with
  |nil=>simp
  |cons x l=>have:=hl x (by simp);omega
 |succ n ih=>
  have h1:=ih (l:=l.filter (λx=>x≠n)) (h.sublist List.filter_sublist) (λx hx=>by
   obtain⟨a,b⟩:=fU.1 hx;have:=hl x a;simp at b;omega)
  have h2:l.length<=(l.filter (λx=>x≠n)).length+1:=by
   clear ih h1 hl
   induction l with
   |nil=>simp
   |cons x l ih=>
    have hd:=List.nodup_cons.1 h;by_cases e:x=n
    .subst e
     have:l.filter (λy=>y≠x)=l:=List.filter_eq_self.2 (λy hy=>by simp;rintro rfl;exact hd.1 hy);rw[List.filter_cons_of_neg (by simp),this];simp
    .simp[e];have:=ih hd.2;simp at this;omega
  omega
theorem gQ.len(h:gQ D root left l line B i):line.length<=D.length:=jI h.nodup h.lt
theorem gQ.start(hn:l.Nodup)(hl:∀x,x∈l->x<D.length):gQ D root left l l [] 0:=
 ⟨hn,hl,λ_ h=>h,λ_ h=>.inl h,by simp,λ_ _ h=>absurd h (by omega),by simp,λ_ _ h=>h⟩
theorem gQ.keep(h:gQ D root left l line B i)(hi:i<line.length)(hn:∀y,y∈opt D (!left) line[i]->¬lZ D left root y):gQ D root left l line (B++[line[i]]) (i+1):=by
 refine⟨h.nodup,h.lt,h.sub,h.sound,λx hx=>?_,λj hj hji=>?_,by simp;exact h.xL,h.um⟩
 .rcases bq.1 hx with hx|hx
  .exact h.kept x hx
  .simp at hx;subst hx;exact⟨ai hi,hn⟩
 .by_cases e:j=i
  .subst e;exact .inl (by simp)
  .rcases h.done j hj (by omega)with a|a
   .exact .inl (by simp[a])
   .exact .inr a
theorem gQ.add(h:gQ D root left l line B i)(hx:x<D.length)(hn:x ∉ line)(hk:k<D.length)(hg:lZ D left root k)(ho:x∈opt D left k)(hi:i<=line.length){z:Nat}(hz:z∈line)(hkz:k∈opt D (!left) z):gQ D root left l (line++[x]) B i:=by
 refine⟨?_,λy hy=>?_,λy hy=>by simp[h.sub y hy],λy hy=>?_,λy hy=>⟨by simp[(h.kept y hy).1],(h.kept y hy).2⟩,λj hj hji=>?_,h.xL,λP c hl y hy=>?_⟩
 .rw[l5]
  exact⟨h.nodup,by simp,λa ha b hb=>by simp at hb;subst hb;rintro rfl;exact hn ha⟩
 .rcases bq.1 hy with hy|hy
  .exact h.lt y hy
  .simp at hy;omega
 .rcases bq.1 hy with hy|hy
  .exact h.sound y hy
  .simp at hy;subst hy;exact .inr ⟨k,hk,hg,ho⟩
 .have hjl:j<line.length:=by omega
  rw[dw hjl];rcases h.done j hjl hji with a|⟨y,a,b,c⟩
  .exact .inl a
  .exact .inr ⟨y,a,b,λz hz=>by simp[c z hz]⟩
 .rcases bq.1 hy with hy|hy
  .exact h.um P c hl y hy
  .simp at hy;subst hy
   exact c _ _ _ (c _ _ _ (h.um P c hl z hz) hkz) ho
theorem gQ.pass(h:gQ D root left l line B i){y:Nat}(hi:i<line.length)(hy:y∈opt D (!left) line[i])(hg:lZ D left root y)(hs:∀x,x∈opt D left y->x∈line):gQ D root left l line B (i+1):=by
 refine⟨h.nodup,h.lt,h.sub,h.sound,h.kept,λj hj hji=>?_,by have:=h.xL;omega,h.um⟩;by_cases e:j=i
 .subst e;exact .inr ⟨y,hy,hg,hs⟩
 .exact h.done j hj (by omega)
theorem ku(hD:bO.WF D)(hx:x∈opt D left i):x<i:=by
 unfold opt at hx;cases h:D[i]? with
 |none=>rw[h]at hx;simp at hx
 |some nd=>
  rw[h]at hx;cases left
  .exact(hD i nd h).2 x (by simpa using hx)
  .exact(hD i nd h).1 x (by simpa using hx)
theorem Ip{a:Option Addr}{l:List Int}(_:l.length<=cap)(_:l.length<=1152921504606846976)(hc:0<l.length->∃b off,a=some ⟨b,off,none⟩/\∀i,i<l.length->w.cell? ⟨b,off+i,none⟩=some (.int .i64 (jo l i)))(W:World)(hE:Ext w W):
 l.length=0\/∃ad,a=some ad/\∀(j:Nat) (u:Value),(l.map (Value.int .i64))[j]?=some u->W.cell? (ad.add j)=some u:=by
 by_cases h:l.length=0
 .exact .inl h
 .obtain⟨b,off,rfl,hcell⟩:=hc (by omega)
  refine .inr ⟨_,rfl,?_⟩;have:=LU hcell hE 0 l.length (by omega)
  simpa using this
structure lY(w:World)(wr:World)(lv ov:Value)(line B:List Nat):Prop where
 own:wr.ownsRow w.heap.size 3 1 lv line.length ((dD line).map (Value.int .i64))
 out:Ints wr ov (jB (dD B))
 fresh:∀b,ov.ownBlock=some b->w.heap.size<=b/\b<wr.heap.size
 apart:∀b,ov.ownBlock=some b->lv.ownBlock≠some b
theorem lY.grown{w':World}(h:lY w wr lv ov line B)(hg:wr.grownBy w' (some kb))(hk:kb<w.heap.size):lY w w' lv ov line B:=
 ⟨h.own.kept hg (by
  cases e:lv.ownBlock with
  |none=>exact .inl rfl
  |some b=>exact .inr (λe'=>by injection e' with e';have:=h.own.lt b e;omega)),
  tY h.out hg (λb hb=>by have:=h.fresh b hb;omega),λb hb=>⟨(h.fresh b hb).1,bz (h.fresh b hb).2 hg.size⟩,h.apart⟩
theorem lY.cell{w wr:World}{gl cl:Nat}{ov:Value}{line B:List Nat}(h:lY w wr (.slice (some ⟨gl,0,none⟩) line.length cl) ov line B){k:Nat}(hk:k<line.length):wr.cell? ⟨gl,k,none⟩=some (.int .i64 (line[k]:Int)):=by
 rw[h.own.cellAt k (by omega)];simp[dD,hk]
theorem Ord.GZ(h:Ord w po pb kb (.slice (some ⟨g,0,none⟩) D.length cap) vb D)(hi:i<D.length):∃L R,(∀w',w.grownBy w' (some kb)->w'.cell? ⟨g,i*2,none⟩=some L/\w'.cell? ⟨g,i*2+1,none⟩=some R/\Ints w' L (dD (D[i]).1)/\Ints w' R (dD (D[i]).2))/\(∀b,L.ownBlock=some b->b≠kb)/\(∀b,R.ownBlock=some b->b≠kb):=by
 obtain⟨g',cap',L,R,he,h1,h2,h3⟩:=h.lists hi;simp only[Value.slice.injEq,bN,Addr.mk.injEq,true_and,and_true]at he;obtain⟨rfl,rfl⟩:=he;exact⟨L,R,h1,h2,h3⟩
theorem Ord.abH(h:Ord w po pb kb (.slice (some ⟨g,0,none⟩) D.length cap) vb D)(hi:i<D.length):∃aL cL aR cR,∀w',w.grownBy w' (some kb)->w'.cell? ⟨g,i*2,none⟩=some (.slice aL (D[i]).1.length cL)/\w'.cell? ⟨g,i*2+1,none⟩=some (.slice aR (D[i]).2.length cR)/\Ints w' (.slice aL (D[i]).1.length cL) (dD (D[i]).1)/\Ints w' (.slice aR (D[i]).2.length cR) (dD (D[i]).2):=by
 obtain⟨L,R,h1,_,_⟩:=h.GZ hi;obtain⟨aL,cL,rfl,_⟩:=(h1 w (World.grownBy.refl _ _)).2.2.1;obtain⟨aR,cR,rfl,_⟩:=(h1 w (World.grownBy.refl _ _)).2.2.2;rw[bJ,bJ]at h1;exact⟨aL,cL,aR,cR,h1⟩
theorem zm(hk:k<l.length)(h:Hid (∀j (h:j<l.length),j<k->l[j]∈line))(hn:l[k]∈line):Hid (∀j (h:j<l.length),j<k+1->l[j]∈line):=by
 intro j hj hjk;by_cases e:j=k
 .subst e;exact hn
 .exact h j hj (by omega)
theorem jO(w:World)(n:Nat)(row:Option Nat):w.grownBy (w.drewN n) row:=⟨rfl,rfl,rfl,ay _,λ_ _ _=>rfl⟩
theorem lY.put{v1:Value}(h:lY w wr lv ov line B)(hI:Ints w2 v1 (qL (jB (dD B)) (x:Int)))(hx:Ext wr w2)(hn:WZ wr w2 ov v1)(hw:w.heap.size<=wr.heap.size):lY w w2 lv v1 line (B++[x]):=by
 refine⟨bY h.own hx,?_,rZ h.fresh hw hx.size hn,λb hb e=>?_⟩
 .rw[show dD (B++[x])=dD B++[(x:Int)] by simp[dD],yt];exact hI
 .rcases hn b hb with h1|h1
  .exact h.apart b h1 e
  .have:=(h.own.lt b e).2;omega
theorem lY.add{lv2:Value}{X:Obj}(h:lY w wr lv ov line B)(hg:((wr.drewN n).alloc X).grownBy w2 lv.ownBlock)
 (ho:w2.ownsRow w.heap.size 3 1 lv2 (line.length+1) ((dD line).map (Value.int .i64)++[.int .i64 (x:Int)])) (hl:kR ((wr.drewN n).alloc X) lv lv2):lY w w2 lv2 ov (line++[x]) B:=by
 have hz:(wr.drewN n).heap.size=wr.heap.size:=rfl;have hs:=hg.size;rw[eQ,hz]at hs;refine⟨by simpa [dD]using ho,?_,λb hb=>⟨(h.fresh b hb).1,by have:=(h.fresh b hb).2;omega⟩,λb hb e=>?_⟩
 .refine h.out.keep (λb hn hb=>?_)
  have hlt:=(h.fresh b hb).2;rw[hg.block b (by rw[eQ,hz];omega) (by intro e;exact h.apart b hb e.symm),(World.grownBy_alloc _ _ none).block b (by rw[hz];omega) (by simp)];rfl
 .rcases hl with h1|⟨g,h1,h2⟩
  .exact h.apart b hb (h1 ▸ e)
  .rw[h1]at e;injection e with e
   rw[eQ,hz]at h2;have:=(h.fresh b hb).2;omega
theorem Ord.Tz{vn:Value}{row:Option Nat}(hO:Ord w po pb kb vn vb D)(hgr:w.grownBy w2 (some kb))(hOr:Ord wr po pb kb vn vb D)(hg:wr.grownBy w2 row)(hne:row≠some kb):Ord w2 po pb kb vn vb D:=by
 obtain⟨kn0,h0,_⟩:=hO;obtain⟨kn,h1,hH⟩:=hOr;have h2:=h0.grown hgr (J2:=kn) (h1.own.kept hg (.inr (by simp only[Value.ownBlock];exact λe=>hne e.symm)));exact⟨kn,h2,hH⟩
set_option maxHeartbeats 2000000 in
theorem Dx(po pb kb:Nat)(vn vb v:Value)(D:dH)(root:Nat)(l:List Nat)(left:Bool)(w:World)(hO:Ord w po pb kb vn vb D)(hr:root<D.length)(hv:Ints w v (dD l))(hvk:∀b,v.ownBlock=some b->b≠kb)(hl:∀x,x∈l->x<D.length)(hnd:l.Nodup):
 Calls prog 174 #[.pointer (some ⟨po,0,none⟩),.int .i64 root,v,.bool left] w λe w'=>∃v' line B,e=.returned v'/\Ints w' v' (jB (dD B))/\gQ D root left l line B line.length/\Ord w' po pb kb vn vb D/\w.grownBy w' (some kb)/\(∀b,v'.ownBlock=some b->w.heap.size<=b/\b<w'.heap.size):=by
 have hkb:=hO.OO;have hds:=hO.at.small;have hll:=jI hnd hl;have hD:=aQ hO.at.good.wf;obtain⟨gn,cn,_,_,rfl,_,_,_⟩:=hO.lists hr;obtain⟨i0,hi,hz0,hz1,hz2⟩:=info_parts iw;obtain⟨a,cap,rfl,hlc,hcap,hcells⟩:=hv;have hsrc:=Ip hlc hcap hcells (w.alloc (.cells #[] 3)) (by go_grown);rw[bJ]at hlc hcap hcells hsrc;rw[bJ];go_enter Tryz.func174,Tryz.ntmps174
 go_wp2_with (at_builtin;refine dC rfl (.tmp 15) (.tmp 16) 80 rfl w.heap.size 3 i0 (.int .i64 0) 1 8 underlying80 hi hz0 hz1 hz2 rfl (by decide) (.slice (some ⟨w.heap.size,0,none⟩) 0 0) 0 [] rfl (fZ w _ (ay _) _) a l.length cap ((dD l).map (Value.int .i64)) rfl (by simp[bJ]) hsrc (kJ _) (by unfold maxLen;omega) (by omega) (by simp) ?_;intro v1 w1 ho1 hg1 hl1;simp only[jf,gI]at ho1)
 have hx1:Ext w w1:=dS (by go_grown) hg1 (λk hk=>by simp[Value.ownBlock]at hk;omega);have hw1:=hx1.size;have hv1:=ho1.lt;go_loopw [9,10,11,12,13,14] (λlv ov i _ _ _ wr=>∃k line B,k<=line.length/\i=.int .i64 ((k:Nat):Int)/\lY w wr lv ov line B/\gQ D root left l line B k/\Ord wr po pb kb (.slice (some ⟨gn,0,none⟩) D.length cn) vb D/\w.grownBy wr (some kb)) (λ_ _ i _ _ _ _=>D.length-(intOf i).toNat)
 case atStart=>
  refine⟨0,l,[],aJ _,rfl,⟨by simpa [bJ]using ho1.alloc _,Ints.nil _ _ _,λb hb=>?_,λb hb e=>?_⟩,gQ.start hnd hl,hO.grown (je (bS hx1 _)),(je (bS hx1 _)).but _⟩
  .simp[Value.ownBlock]at hb;subst hb;simp;omega
  .simp[Value.ownBlock]at hb;subst hb;have:=(hv1 _ e).2;omega
 case round=>
  clear hx1 hw1 hv1 ho1 hg1 hl1 hsrc hcells;obtain⟨k,line,B,hk,rfl,hM,hinv,Lr,hgr⟩:=hrel;have hlen:=hinv.len;by_cases hlt:k<line.length
  .obtain⟨gl,cl,rfl,hl1,hl2,hcl⟩:=gV hM.own (by omega)
   have hck:wr.cell? ⟨gl,k,none⟩=some (.int .i64 (line[k]:Int)):=(by rw[hcl k (by omega)];simp[dD,hlt]);have hBl:(jB (dD B)).length<=1000000000:=(by have:=rX (dD B);rw[bJ]at this;have:=hinv.xL;omega);have hxn:=hinv.lt _ (ai hlt);clear hcl
   go_wp2_with (first
    |(go_at_call 206;refine(EJ po pb kb _ vb D root line[k] left _ Lr hr hxn).mono ?_;rintro e w1 ⟨y0,rfl,hT,hO2,qa⟩
      have hM2:=hM.grown qa hkb;have Kn:=hM2.cell hlt;have Zk:=hgr.trans qa;rcases hT with⟨rfl,hT⟩|⟨y,hy,rfl,hT⟩
      all_goals try(
       have hyn:y<D.length:=Nat.lt_trans (ku hD.out hy) hxn;have hy0:decide ((y:Int)<0)=false:=(by simp);obtain⟨aL,cL,aR,cR,hG⟩:=hO.abH hyn;obtain⟨gL,gR,iL,iR⟩:=hG w1 Zk;have HG:=aQ hG;have c0:=hO2.cell0;have b0:=hO2.at.cell0;clear hG;cases left))
    |(go_at_call 180;refine(sG _ _ _ _ hM2.out hBl).mono ?_;rintro e w2 ⟨v1,rfl,hI1,hx1,hn1⟩))
   .go_roundw
    case rel=>exact⟨k+1,line,B++[line[k]],by omega,by go_num,hM2.put hI1 hx1 hn1 Zk.size,hinv.keep hlt hT,hO2.grown (je hx1),Zk.trans ((je hx1).but _)⟩
    case measure=>simp[intOf];omega
   .have HI:Hid (∀w',w.grownBy w' (some kb)->Ints w' (.slice aR (D[y]).2.length cR) (dD (D[y]).2)):=λw' hg=>(HG.out w' hg).2.2.2
    have DL:opt D false y=(D[y]).2:=(by simp[opt,hyn]);have hMl:(D[y]).2.length<=1152921504606846976:=(by have h:=iR;obtain⟨_,_,_,_,h,_⟩:=h;rw[bJ]at h;exact h);have HO2:=aQ hO2;have Ae:=aQ hM2;have HV:=aQ hinv;clear iL iR gL gR c0 b0 hck Kn hM HG hO2 hM2 Lr hgr hinv;obtain⟨wi,rfl⟩:∃wi:World,wi=w1:=⟨_,rfl⟩;go_loopw [9,14] (λlv m wr=>∃j jM,j<=(D[y]).2.length/\m=.int .i64 ((j:Nat):Int)/\lY w wr lv u10 jM B/\gQ D root false l jM B k/\jM[k]?=some line[k]/\Ord wr po pb kb (.slice (some ⟨gn,0,none⟩) D.length cn) vb D/\w.grownBy wr (some kb)/\Hid (∀j' (h:j'<(D[y]).2.length),j'<j->(D[y]).2[j']∈jM)) (λ_ m _=>(D[y]).2.length-(intOf m).toNat)
    case atStart=>exact⟨0,line,aJ _,rfl,Ae.out,HV.out,aa hlt,HO2.out,Zk,λj' _ h=>absurd h (by omega)⟩
    case round=>
     obtain⟨j,jM,hj,rfl,Ac,sK,hlk,hO4,zG,HN⟩:=hrel;have afq:=sK.len;by_cases hjt:j<(D[y]).2.length
     .obtain⟨a0,c0',he,_,_,hcells⟩:=HI.out _ zG
      simp only[Value.slice.injEq]at he;obtain⟨rfl,-,rfl⟩:=he;rw[bJ]at hcells;obtain⟨bM,oM,rfl,hcell⟩:=hcells (by omega);have hcm:=hcell j hjt;rw[gy hjt]at hcm;have hLI:=Ints.eD (l:=dD jM) Ac.own (by rw[bJ];omega);clear hcell hcells;by_cases hin:(D[y]).2[j]∈jM
      .have hh:mI (dD jM) ((D[y]).2[j]:Int)=true:=by simp only[mI];exact decide_eq_true (tT.2 hin)
       have xO:=aQ hin;have RA:=aQ Ac;have R9:=aQ sK;clear hin Ac sK;go_wp2_with (go_at_call 207;refine(qh _ _ _ _ hLI).mono ?_;rintro e w2 ⟨he,n1,rfl⟩;rw[hh]at he;subst he)
       go_roundw
       case rel=>exact⟨j+1,jM,by omega,by go_num,RA.out.grown (jO _ _ _) hkb,R9.out,hlk,hO4.grown (jO _ _ _),zG.trans (jO _ _ _),zm hjt HN xO.out⟩
       case measure=>simp[intOf];omega
      .have hh:mI (dD jM) ((D[y]).2[j]:Int)=false:=by simp only[mI];exact decide_eq_false (λh=>hin (tT.1 h))
       have xO:=aQ hin;have RA:=aQ Ac;have R9:=aQ sK;have Kh:=Ac.own;have hw4:=zG.size;clear hin Ac sK
       go_wp2_with (first
        |(go_at_call 207;refine(qh _ _ _ _ hLI).mono ?_;rintro e w2 ⟨he,n1,rfl⟩;rw[hh]at he;subst he)
        |(at_builtin;refine dC rfl (.tmp 78) (.tmp 83) 80 rfl w.heap.size 3 i0 (.int .i64 0) 1 8 underlying80 hi hz0 hz1 hz2 rfl (by decide) _ jM.length _ rfl ((own_drewN Kh n1).alloc _) _ 1 _ [.int .i64 ((D[y]).2[j]:Int)] rfl rfl (.inr ⟨_,rfl,dJ (dh _ _ _)⟩) one_cell (by unfold maxLen;omega) (by omega) (by simp;omega) ?_;intro v5 w5 iT hg5 hl5))
       go_roundw
       case rel=>
        have hrow:∀b,Value.ownBlock u9=some b->w.heap.size<=b:=λb hb=>(Kh.lt b hb).1
        have UG:wr.grownBy w5 (Value.ownBlock u9):=((jO wr n1 _).trans (World.grownBy_alloc _ _ _)).trans hg5;have hgr5:w.grownBy w5 (some kb):=zG.andThen UG (λb hb=>.inl (hrow b hb));have hxo:(D[y]).2[j]∈opt D false y:=(by rw[DL];exact ai hjt);have hkl:k<jM.length:=(cK.1 hlk).1;exact⟨j+1,jM++[(D[y]).2[j]],by omega,by go_num,RA.out.add hg5 iT hl5,R9.out.add (Nat.lt_trans (ku hD.out hxo) hyn) xO.out hyn hT hxo (by omega) (jr hlk) hy,by rw[dN hkl];exact hlk,hO.Tz hgr5 hO4 UG (by intro e;have:=hrow kb e;omega),hgr5,zm hjt (λj' h h'=>by have:=HN.out j' h h';simp[this]) (by simp)⟩
       case measure=>simp[intOf];omega
     .have hjl:j=(D[y]).2.length:=by omega
      subst hjl;go_wp2
      go_roundw
      case rel=>
       have hkl:k<jM.length:=(cK.1 hlk).1;have hke:jM[k]=line[k]:=(by rw[aa hkl]at hlk;injection hlk);exact⟨k+1,jM,B,by omega,by go_num,Ac,sK.pass hkl (by rw[hke];exact hy) hT (λx hx=>by
        rw[DL]at hx;obtain⟨j',h,rfl⟩:=aW.1 hx;exact HN.out j' h h),hO4,zG⟩
      case measure=>simp[intOf];omega
   .have HI:Hid (∀w',w.grownBy w' (some kb)->Ints w' (.slice aL (D[y]).1.length cL) (dD (D[y]).1)):=λw' hg=>(HG.out w' hg).2.2.1
    have DL:opt D true y=(D[y]).1:=(by simp[opt,hyn]);have hMl:(D[y]).1.length<=1152921504606846976:=(by have h:=iL;obtain⟨_,_,_,_,h,_⟩:=h;rw[bJ]at h;exact h);have HO2:=aQ hO2;have Ae:=aQ hM2;have HV:=aQ hinv;clear iL iR gL gR c0 b0 hck Kn hM HG hO2 hM2 Lr hgr hinv;obtain⟨wi,rfl⟩:∃wi:World,wi=w1:=⟨_,rfl⟩;go_loopw [9,14] (λlv m wr=>∃j jM,j<=(D[y]).1.length/\m=.int .i64 ((j:Nat):Int)/\lY w wr lv u10 jM B/\gQ D root true l jM B k/\jM[k]?=some line[k]/\Ord wr po pb kb (.slice (some ⟨gn,0,none⟩) D.length cn) vb D/\w.grownBy wr (some kb)/\Hid (∀j' (h:j'<(D[y]).1.length),j'<j->(D[y]).1[j']∈jM)) (λ_ m _=>(D[y]).1.length-(intOf m).toNat)
    case atStart=>exact⟨0,line,aJ _,rfl,Ae.out,HV.out,aa hlt,HO2.out,Zk,λj' _ h=>absurd h (by omega)⟩
    case round=>
     obtain⟨j,jM,hj,rfl,Ac,sK,hlk,hO4,zG,HN⟩:=hrel;have afq:=sK.len;by_cases hjt:j<(D[y]).1.length
     .obtain⟨a0,c0',he,_,_,hcells⟩:=HI.out _ zG
      simp only[Value.slice.injEq]at he;obtain⟨rfl,-,rfl⟩:=he;rw[bJ]at hcells;obtain⟨bM,oM,rfl,hcell⟩:=hcells (by omega);have hcm:=hcell j hjt;rw[gy hjt]at hcm;have hLI:=Ints.eD (l:=dD jM) Ac.own (by rw[bJ];omega);clear hcell hcells;by_cases hin:(D[y]).1[j]∈jM
      .have hh:mI (dD jM) ((D[y]).1[j]:Int)=true:=by simp only[mI];exact decide_eq_true (tT.2 hin)
       have xO:=aQ hin;have RA:=aQ Ac;have R9:=aQ sK;clear hin Ac sK;go_wp2_with (go_at_call 207;refine(qh _ _ _ _ hLI).mono ?_;rintro e w2 ⟨he,n1,rfl⟩;rw[hh]at he;subst he)
       go_roundw
       case rel=>exact⟨j+1,jM,by omega,by go_num,RA.out.grown (jO _ _ _) hkb,R9.out,hlk,hO4.grown (jO _ _ _),zG.trans (jO _ _ _),zm hjt HN xO.out⟩
       case measure=>simp[intOf];omega
      .have hh:mI (dD jM) ((D[y]).1[j]:Int)=false:=by simp only[mI];exact decide_eq_false (λh=>hin (tT.1 h))
       have xO:=aQ hin;have RA:=aQ Ac;have R9:=aQ sK;have Kh:=Ac.own;have hw4:=zG.size;clear hin Ac sK
       go_wp2_with (first
        |(go_at_call 207;refine(qh _ _ _ _ hLI).mono ?_;rintro e w2 ⟨he,n1,rfl⟩;rw[hh]at he;subst he)
        |(at_builtin;refine dC rfl (.tmp 78) (.tmp 83) 80 rfl w.heap.size 3 i0 (.int .i64 0) 1 8 underlying80 hi hz0 hz1 hz2 rfl (by decide) _ jM.length _ rfl ((own_drewN Kh n1).alloc _) _ 1 _ [.int .i64 ((D[y]).1[j]:Int)] rfl rfl (.inr ⟨_,rfl,dJ (dh _ _ _)⟩) one_cell (by unfold maxLen;omega) (by omega) (by simp;omega) ?_;intro v5 w5 iT hg5 hl5))
       go_roundw
       case rel=>
        have hrow:∀b,Value.ownBlock u9=some b->w.heap.size<=b:=λb hb=>(Kh.lt b hb).1
        have UG:wr.grownBy w5 (Value.ownBlock u9):=((jO wr n1 _).trans (World.grownBy_alloc _ _ _)).trans hg5;have hgr5:w.grownBy w5 (some kb):=zG.andThen UG (λb hb=>.inl (hrow b hb));have hxo:(D[y]).1[j]∈opt D true y:=(by rw[DL];exact ai hjt);have hkl:k<jM.length:=(cK.1 hlk).1;exact⟨j+1,jM++[(D[y]).1[j]],by omega,by go_num,RA.out.add hg5 iT hl5,R9.out.add (Nat.lt_trans (ku hD.out hxo) hyn) xO.out hyn hT hxo (by omega) (jr hlk) hy,by rw[dN hkl];exact hlk,hO.Tz hgr5 hO4 UG (by intro e;have:=hrow kb e;omega),hgr5,zm hjt (λj' h h'=>by have:=HN.out j' h h';simp[this]) (by simp)⟩
       case measure=>simp[intOf];omega
     .have hjl:j=(D[y]).1.length:=by omega
      subst hjl;go_wp2
      go_roundw
      case rel=>
       have hkl:k<jM.length:=(cK.1 hlk).1;have hke:jM[k]=line[k]:=(by rw[aa hkl]at hlk;injection hlk);exact⟨k+1,jM,B,by omega,by go_num,Ac,sK.pass hkl (by rw[hke];exact hy) hT (λx hx=>by
        rw[DL]at hx;obtain⟨j',h,rfl⟩:=aW.1 hx;exact HN.out j' h h),hO4,zG⟩
      case measure=>simp[intOf];omega
  .have hkl:k=line.length:=by omega
   subst hkl;obtain⟨al,cl,rfl,hl1,hl2⟩:=bH hM.own;go_wp2
   go_ret
   exact⟨_,line,B,rfl,hM.out,hinv,Lr,hgr,hM.fresh⟩
end
section
open bO
variable {D:dH} {i x root:Nat} {g:Gm} {l:List Nat}
def wD(D:dH)(left:Bool)(B F:List Nat):Prop:=(∀x,x∈F->x∈B/\∀z,z∈B->lZ D left z x->z=x)/\(∀x,x∈B->∃z,z∈F/\lZ D left z x)
theorem Bw(hD:WF D)(h:x∈opt D true i):vl D x∈(vl D i).l:=by
 unfold opt at h;cases e:D[i]? with
 |none=>rw[e]at h;simp at h
 |some nd=>rw[e]at h;rw[ow hD e];exact aH.2 ⟨x,by simpa using h,rfl⟩
theorem Bv(hD:WF D)(h:x∈opt D false i):vl D x∈(vl D i).r:=by
 unfold opt at h;cases e:D[i]? with
 |none=>rw[e]at h;simp at h
 |some nd=>rw[e]at h;rw[ou hD e];exact aH.2 ⟨x,by simpa using h,rfl⟩
theorem OH(hD:WF D)(h:g∈(vl D i).l):∃x,x∈opt D true i/\g=vl D x:=by
 cases e:D[i]? with
 |none=>rw[Gv e]at h;simp[Gm.l]at h
 |some nd=>
  rw[ow hD e]at h;obtain⟨x,hx,rfl⟩:=aH.1 h;exact⟨x,by simp[opt,e,hx],rfl⟩
theorem Ov(hD:WF D)(h:g∈(vl D i).r):∃x,x∈opt D false i/\g=vl D x:=by
 cases e:D[i]? with
 |none=>rw[Gv e]at h;simp[Gm.r]at h
 |some nd=>
  rw[ou hD e]at h;obtain⟨x,hx,rfl⟩:=aH.1 h;exact⟨x,by simp[opt,e,hx],rfl⟩
theorem mg(hD:WF D){left:Bool}{line B:List Nat}(h:gQ D root left l line B i)(hc:∀x,x∈l->Canon (vl D x)):∀x,x∈line->Canon (vl D x):=by
 refine h.um (λx=>Canon (vl D x)) (λi side x hi hx=>?_) hc;cases side
 .exact hi.r (Bv hD hx)
 .exact hi.l (Bw hD hx)
theorem T9(hD:WF D){r vE BL vz BR FL FR:List Nat}(hroot:D[root]?=some (l,r))(cl:∀x,x∈l->Canon (vl D x))(cr:∀x,x∈r->Canon (vl D x))
 (iL:gQ D root true l vE BL vE.length) (iR:gQ D root false r vz BR vz.length) (mL:wD D true BL FL) (mR:wD D false BR FR):
 iO (.mk (FL.map (vl D)) (FR.map (vl D))) (vl D root)/\Canon (.mk (FL.map (vl D)) (FR.map (vl D))):=by
 have hl:(vl D root).l=l.map (vl D):=ow hD hroot;have hr:(vl D root).r=r.map (vl D):=ou hD hroot;have sR:∀x,x∈FR->¬Ge (vl D root) (vl D x):=by
  intro x hx;rcases iR.sound x (iR.kept x (mR.1 x hx).1).1 with h|⟨k,_,hk,h⟩
  .exact nX (by rw[hr];exact aH.2 ⟨x,h,rfl⟩)
  .exact Om (by simpa [lZ]using hk) (Bv hD h)
 have sL:∀x,x∈FL->¬Ge (vl D x) (vl D root):=by
  intro x hx;rcases iL.sound x (iL.kept x (mL.1 x hx).1).1 with h|⟨k,_,hk,h⟩
  .exact nY (by rw[hl];exact aH.2 ⟨x,h,rfl⟩)
  .exact Oo (by simpa [lZ]using hk) (Bw hD h)
 have g1:Ge (.mk (FL.map (vl D)) (FR.map (vl D))) (vl D root):=by
  refine Fy (λg=>∃x,x∈vE/\g=vl D x) ?_ ?_ ?_
  .intro g hg
   rw[hl]at hg;obtain⟨x,hx,rfl⟩:=aH.1 hg;exact⟨_,⟨x,iL.sub x hx,rfl⟩,mW _⟩
  .rintro _ ⟨x,hx,rfl⟩
   obtain⟨j,hj,rfl⟩:=aW.1 hx;rcases iL.done j hj hj with h|⟨y,hy,hg,hz⟩
   .obtain⟨z,hz,hg⟩:=mL.2 _ h
    exact .inl ⟨vl D z,aH.2 ⟨z,hz,rfl⟩,by simpa [lZ]using hg⟩
   .refine .inr ⟨vl D y,Bv hD (by simpa using hy),by simpa [lZ]using hg,λg hg'=>?_⟩
    obtain⟨z,hz',rfl⟩:=OH hD hg';exact⟨z,hz z hz',rfl⟩
  .intro g hg
   obtain⟨x,hx,rfl⟩:=aH.1 hg;exact sR x hx
 have g2:Ge (vl D root) (.mk (FL.map (vl D)) (FR.map (vl D))):=by
  refine Fx (λg=>∃x,x∈vz/\g=vl D x) ?_ ?_ ?_
  .intro g hg
   rw[hr]at hg;obtain⟨x,hx,rfl⟩:=aH.1 hg;exact⟨_,⟨x,iR.sub x hx,rfl⟩,mW _⟩
  .rintro _ ⟨x,hx,rfl⟩
   obtain⟨j,hj,rfl⟩:=aW.1 hx;rcases iR.done j hj hj with h|⟨y,hy,hg,hz⟩
   .obtain⟨z,hz,hg⟩:=mR.2 _ h
    exact .inl ⟨vl D z,aH.2 ⟨z,hz,rfl⟩,by simpa [lZ]using hg⟩
   .refine .inr ⟨vl D y,Bw hD (by simpa using hy),by simpa [lZ]using hg,λg hg'=>?_⟩
    obtain⟨z,hz',rfl⟩:=Ov hD hg';exact⟨z,hz z hz',rfl⟩
  .intro g hg
   obtain⟨x,hx,rfl⟩:=aH.1 hg;exact sL x hx
 refine⟨⟨g1,g2⟩,Canon.mk _ ⟨?_,?_,?_,?_⟩ ?_ ?_⟩
 .intro x y hx hy h
  obtain⟨a,ha,rfl⟩:=aH.1 hx;obtain⟨b,hb,rfl⟩:=aH.1 hy;rw[(mL.1 b hb).2 a (mL.1 a ha).1 (by simpa [lZ]using h)];exact iP _
 .intro x y hx hy h
  obtain⟨a,ha,rfl⟩:=aH.1 hx;obtain⟨b,hb,rfl⟩:=aH.1 hy;rw[(mR.1 a ha).2 b (mR.1 b hb).1 (by simpa [lZ]using h)];exact iP _
 .intro x hx y hy h
  obtain⟨a,ha,rfl⟩:=aH.1 hx;obtain⟨c,hc,rfl⟩:=Ov hD hy;have:=(iL.kept a (mL.1 a ha).1).2 c (by simpa using hc);simp[lZ]at this;exact this (dQ _ _ _ g2 h)
 .intro x hx y hy h
  obtain⟨a,ha,rfl⟩:=aH.1 hx;obtain⟨c,hc,rfl⟩:=OH hD hy;have:=(iR.kept a (mR.1 a ha).1).2 c (by simpa using hc);simp[lZ]at this;exact this (dQ _ _ _ h g1)
 .intro x hx
  obtain⟨a,ha,rfl⟩:=aH.1 hx;exact mg hD iL cl a (iL.kept a (mL.1 a ha).1).1
 .intro x hx
  obtain⟨a,ha,rfl⟩:=aH.1 hx;exact mg hD iR cr a (iR.kept a (mR.1 a ha).1).1
end
section
open bO
variable {l:List Nat} {z:List Int} {D:dH} {left:Bool}
def Bl(l:List Nat)(z:List Int):List Nat:=((List.range l.length).filter λ(i:Nat)=>!mI z (i:Int)).map λi=>l.getD i 0
theorem yN(l:List Nat)(z:List Int):qo (dD l) z=dD (Bl l z):=by
 unfold qo Jb Bl;rw[bJ]
 conv=>rhs;rw[dD,gM]
 refine df λi hi=>?_
 have h:=dM.1 (fU.1 hi).1;simp[gy h,h]
theorem Cm{x:Nat}:x∈Bl l z↔∃i,∃h:i<l.length,x=l[i]/\(i:Int) ∉ z:=by
 unfold Bl;rw[aH];constructor
 .rintro⟨i,hi,rfl⟩
  obtain⟨h1,h2⟩:=fU.1 hi;have h:=dM.1 h1;exact⟨i,h,by simp[h],by simpa [mI]using h2⟩
 .rintro⟨i,h,rfl,hn⟩
  exact⟨i,fU.2 ⟨dM.2 h,by simpa [mI]using hn⟩,by simp[h]⟩
theorem Ap(hn:l.Nodup){i j:Nat}(hi:i<l.length)(hj:j<l.length)(e:l[i]=l[j]):i=j:=by
 have h:=dx.1 hn;rcases Nat.lt_trichotomy i j with c|c|c
 .exact absurd e (h i j hi hj c)
 .exact c
 .exact absurd e.symm (h j i hj hi c)
theorem VK(D:dH)(left:Bool)(a:Nat):lZ D left a a:=by cases left <;> simp[lZ,mW]
theorem Q6{a b c:Nat}(h:lZ D left a b)(k:lZ D left b c):lZ D left a c:=by
 cases left <;> simp[lZ]at h k ⊢
 .exact dQ _ _ _ k h
 .exact dQ _ _ _ h k
theorem Cq(hG:bO.Good D)(hn:l.Nodup)(hl:∀x,x∈l->x<D.length)(hc:∀x,x∈l->Canon (vl D x))(hz:ic D left l z l.length 0):wD D left l (Bl l z):=by
 have ZN:∀a b,a∈l->b∈l->lZ D left a b->lZ D left b a->a=b:=by
  intro a b ha hb h k;have e:iO (vl D a) (vl D b):=by
   cases left <;> simp[lZ]at h k
   .exact⟨k,h⟩
   .exact⟨h,k⟩
  exact mO hG a b (hl a ha) (hl b hb) (kL (hc a ha) (hc b hb) e)
 have dom:∀i,i<l.length->((i:Int)∈z↔Xy D left l i):=by
  intro i hi;rw[hz.mem];constructor
  .rintro(⟨_,h⟩|⟨rfl,_⟩)
   .exact h
   .omega
  .intro h;exact .inl ⟨hi,h⟩
 constructor
 .intro x hx
  obtain⟨i,hi,rfl,hz'⟩:=Cm.1 hx;refine⟨ai hi,λy hy hg=>?_⟩;obtain⟨k,hk,rfl⟩:=aW.1 hy;by_cases e:k=i
  .subst e;rfl
  .rw[dom i hi]at hz'
   by_cases g2:lZ D left l[i] l[k]
   .exact ZN _ _ (ai hk) (ai hi) hg g2
   .exact absurd ⟨k,hk,e,by simpa [hk,hi]using hg,.inl (by simpa [hk,hi]using g2)⟩ hz'
 .intro x hx
  obtain⟨b,hb,hbx,hm⟩:=stays (lZ D left) (VK D left) (λ_ _ _=>Q6) l ZN x hx;refine⟨b,?_,hbx⟩;obtain⟨i,hi,rfl⟩:=aW.1 hb;refine Cm.2 ⟨i,hi,rfl,λhz'=>?_⟩;obtain⟨k,hk,hne,hg,_⟩:=(dom i hi).1 hz';simp only[List.getD,aa hk,aa hi,bW]at hg;have e:=hm _ (ai hk) hg;exact hne (Ap hn hk hi e)
end
section
open bO
variable {D D':dH} {l r B F:List Nat} {i:Nat} {left:Bool}
theorem jm.ext(h:jm D l r D' i):∃E,D'=D++E/\E.length<=1:=by
 rcases h.2 with h|h
 .exact⟨[],by simp[h],by simp⟩
 .exact⟨_,h,by simp⟩
theorem jm.lt(h:jm D l r D' i):i<D'.length:=(cK.1 h.1).1
theorem jm.node(h:jm D l r D' i):D'[i]'h.lt=(bQ l,bQ r):=by have k:=h.1;rw[aa h.lt]at k;injection k
theorem jm.len(h:jm D l r D' i):D.length<=D'.length/\D'.length<=D.length+1:=by
 obtain⟨E,rfl,h⟩:=h.ext;simp;omega
theorem jm.vl{D D':dH}{l r:List Nat}{i:Nat}(h:jm D l r D' i)(hD:WF D)(hD':WF D'){x:Nat}(hx:x<D.length):bO.vl D' x=bO.vl D x:=by
 obtain⟨E,rfl,_⟩:=h.ext;exact ik hD hD' x hx
theorem Ag{a b c d:List Gm}(h1:∀x,x∈a↔x∈c)(h2:∀x,x∈b↔x∈d):Same (.mk a b) (.mk c d):=by
 rw[same_iff];exact⟨λx hx=>⟨x,(h1 x).1 hx,iP x⟩,λx hx=>⟨x,(h1 x).2 hx,iP x⟩,λx hx=>⟨x,(h2 x).1 hx,iP x⟩,λx hx=>⟨x,(h2 x).2 hx,iP x⟩⟩
theorem lU(h:Asc l):l.Nodup:=h.imp (λh=>iJ h)
theorem E8(h:wD D left (bQ B) F):wD D left B (bQ F):=
 ⟨λx hx=>by obtain⟨a,b⟩:=h.1 x (bZ.1 hx);exact⟨bZ.1 a,λz hz=>b z (bZ.2 hz)⟩,
  λx hx=>by obtain⟨z,hz,hg⟩:=h.2 x (bZ.2 hx);exact⟨z,bZ.2 hz,hg⟩⟩
theorem CU(hv:∀x,x<D.length->vl D' x=vl D x)(hB:∀x,x∈B->x<D.length)(h:wD D' left B F):wD D left B F:=by
 have e:∀x y,x∈B->y∈B->(lZ D' left x y↔lZ D left x y):=λx y hx hy=>by unfold lZ;rw[hv x (hB x hx),hv y (hB y hy)]
 refine⟨λx hx=>?_,λx hx=>?_⟩
 .obtain⟨a,b⟩:=h.1 x hx
  exact⟨a,λz hz hg=>b z hz ((e z x hz a).2 hg)⟩
 .obtain⟨z,hz,hg⟩:=h.2 x hx
  exact⟨z,hz,(e z x (h.1 z hz).1 hx).1 hg⟩
def Within(D:dH)(l r:List Nat)(D':dH)(i:Nat):Prop:=∀P:Nat->Prop,(∀j side x,P j->x∈opt D side j->P x)->(∀x,x∈l->P x)->(∀x,x∈r->P x)->∀side x,x∈opt D' side i->P x
theorem oK{E:dH}{side:Bool}(h:i<D.length):opt (D++E) side i=opt D side i:=by simp[opt,dN h]
theorem Qw{D1 D2 D3:dH}{vE BL vz BR:List Nat}{zL zR:List Int}{i1 i2 i3:Nat}(g:bO.Good D)(g1:bO.Good D1)(g2:bO.Good D2)(g3:bO.Good D3)
 (p1:jm D l r D1 i1) (p2:jm D1 (bQ BL) (bQ BR) D2 i2) (p3:jm D2 (Bl (bQ BL) zL) (Bl (bQ BR) zR) D3 i3)
 (hl:∀x,x∈l->x<D.length) (hr:∀x,x∈r->x<D.length) (cl:∀x,x∈l->Canon (vl D x)) (cr:∀x,x∈r->Canon (vl D x))
 (iL:gQ D1 i1 true (bQ l) vE BL vE.length) (iR:gQ D1 i1 false (bQ r) vz BR vz.length)
 (dL:ic D2 true (bQ BL) zL (bQ BL).length 0) (dR:ic D2 false (bQ BR) zR (bQ BR).length 0):
 (∃E,D3=D++E/\E.length<=3)/\i3<D3.length/\Canon (vl D3 i3)/\iO (vl D3 i3) (.mk (l.map (vl D)) (r.map (vl D)))/\Within D l r D3 i3:=by
 have e1:∀x,x<D.length->vl D1 x=vl D x:=λx hx=>p1.vl g.wf g1.wf hx
 have e2:∀x,x<D1.length->vl D2 x=vl D1 x:=λx hx=>p2.vl g1.wf g2.wf hx
 have e3:∀x,x<D2.length->vl D3 x=vl D2 x:=λx hx=>p3.vl g2.wf g3.wf hx
 have n1:=p1.len;have n2:=p2.len;have cl1:∀x,x∈bQ l->Canon (vl D1 x):=λx hx=>by have hx:=bZ.1 hx;rw[e1 x (hl x hx)];exact cl x hx
 have cr1:∀x,x∈bQ r->Canon (vl D1 x):=λx hx=>by have hx:=bZ.1 hx;rw[e1 x (hr x hx)];exact cr x hx
 have bL:∀x,x∈BL->x<D1.length/\Canon (vl D1 x):=λx hx=>⟨iL.lt x (iL.kept x hx).1,mg g1.wf iL cl1 x (iL.kept x hx).1⟩
 have bR:∀x,x∈BR->x<D1.length/\Canon (vl D1 x):=λx hx=>⟨iR.lt x (iR.kept x hx).1,mg g1.wf iR cr1 x (iR.kept x hx).1⟩
 have mL:wD D1 true BL (bQ (Bl (bQ BL) zL)):=by
  refine CU e2 (λx hx=>(bL x hx).1) (E8 (Cq g2 (lU (jv _)) ?_ ?_ dL))
  .intro x hx;have:=(bL x (bZ.1 hx)).1;omega
  .intro x hx;have h:=bL x (bZ.1 hx);rw[e2 x h.1];exact h.2
 have mR:wD D1 false BR (bQ (Bl (bQ BR) zR)):=by
  refine CU e2 (λx hx=>(bR x hx).1) (E8 (Cq g2 (lU (jv _)) ?_ ?_ dR))
  .intro x hx;have:=(bR x (bZ.1 hx)).1;omega
  .intro x hx;have h:=bR x (bZ.1 hx);rw[e2 x h.1];exact h.2
 obtain⟨hE,hC⟩:=T9 g1.wf p1.1 cl1 cr1 iL iR mL mR;have v3:vl D3 i3=.mk ((bQ (Bl (bQ BL) zL)).map (vl D1)) ((bQ (Bl (bQ BR) zR)).map (vl D1)):=by
  rw[nT g3.wf p3.1];congr 1
  .refine df λx hx=>?_
   have h:=(bL x (mL.1 x hx).1).1;rw[e3 x (by omega),e2 x h]
  .refine df λx hx=>?_
   have h:=(bR x (mR.1 x hx).1).1;rw[e3 x (by omega),e2 x h]
 have v1:iO (vl D1 i1) (.mk (l.map (vl D)) (r.map (vl D))):=by
  rw[nT g1.wf p1.1];refine(Ag (λy=>?_) (λy=>?_)).eqv
  .simp only[aH,bZ]
   exact⟨λ⟨x,hx,e⟩=>⟨x,hx,by rw[<-e,e1 x (hl x hx)]⟩,λ⟨x,hx,e⟩=>⟨x,hx,by rw[<-e,e1 x (hl x hx)]⟩⟩
  .simp only[aH,bZ]
   exact⟨λ⟨x,hx,e⟩=>⟨x,hx,by rw[<-e,e1 x (hr x hx)]⟩,λ⟨x,hx,e⟩=>⟨x,hx,by rw[<-e,e1 x (hr x hx)]⟩⟩
 refine⟨?_,p3.lt,by rw[v3];exact hC,by rw[v3];exact hE.trans v1,λP hP pl pr side x hx=>?_⟩
 rotate_left
 .have hP1:∀i side x,(P i/\i<D.length)->x∈opt D1 side i->P x/\x<D.length:=λi side x hi hx=>by
   obtain⟨E,rfl,_⟩:=p1.ext;rw[oK hi.2]at hx;exact⟨hP i side x hi.1 hx,by have:=ku g.wf hx;omega⟩
  have e:D3[i3]?=some (bQ (Bl (bQ BL) zL),bQ (Bl (bQ BR) zR)):=p3.1;unfold opt at hx;rw[e]at hx;cases side
  .have hx:x∈bQ (Bl (bQ BR) zR):=by simpa using hx
   exact(iR.um (λx=>P x/\x<D.length) hP1 (λx hx=>⟨pr x (bZ.1 hx),hr x (bZ.1 hx)⟩) x (iR.kept x (mR.1 x hx).1).1).1
  .have hx:x∈bQ (Bl (bQ BL) zL):=by simpa using hx
   exact(iL.um (λx=>P x/\x<D.length) hP1 (λx hx=>⟨pl x (bZ.1 hx),hl x (bZ.1 hx)⟩) x (iL.kept x (mL.1 x hx).1).1).1
 obtain⟨E1,rfl,h1⟩:=p1.ext;obtain⟨E2,rfl,h2⟩:=p2.ext;obtain⟨E3,rfl,h3⟩:=p3.ext;exact⟨E1++(E2++E3),by simp,by simp;omega⟩
end
end Go.Proofs.YteknjeohbcgpdaaGreatDoor