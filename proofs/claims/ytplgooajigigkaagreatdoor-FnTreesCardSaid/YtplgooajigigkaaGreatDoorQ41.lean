/- 41 -/
import Derived.Test.YtplgooajigigkaaGreatDoorQ36
import Derived.Test.YtplgooajigigkaaGreatDoorQ37
import Derived.Test.YtplgooajigigkaaGreatDoorQ38
import Derived.Test.YtplgooajigigkaaGreatDoorQ40
set_option maxRecDepth 100000
set_option maxHeartbeats 4000000
namespace Go.Proofs.YtplgooajigigkaaGreatDoor
open Tryz
section
open Go.RowKit
open aZ (cZ Nd vl eD eQ Same)
variable {w:World} {D:cZ} {at_:List Nat} {root:Nat}
theorem jB.one(w:World)(i:Nat)(t:TypeId):jB (λb=>b=w.heap.size) (w.alloc (.cells #[.int .i64 (i:Int)] t)) (.slice (some ⟨w.heap.size,0,none⟩) 1 1) [i]:=by
 have hc:=bY w (.int .i64 (i:Int)) t;refine⟨λb hb=>by subst hb;rw[eX];omega,λw' h=>?_⟩;have hb:=lh (a:=⟨w.heap.size,0,none⟩) (h _ rfl);refine⟨_,1,rfl,by simp[bV],by simp[bV],λ_=>⟨w.heap.size,0,rfl,λj hj=>?_⟩⟩;have hj0:j=0:=by simp[bV]at hj;omega
 subst hj0;rw[hb,hc];simp[bV,dD]
def Oh(G:List En)(j:Nat):Value:=((G.flatMap En.two)[j]?).getD undef
theorem Nz:∀(G:List En) (j:Nat) (hj:j<G.length) (t:Nat),t<2->(G.flatMap En.two)[j*2+t]?=(G[j].two)[t]?
 |[],j,hj,_,_=>by simp at hj
 |x :: G,0,_,t,ht=>by
  rw[jr,bQ (by simp[En.two];omega)];simp
 |x :: G,j+1,hj,t,ht=>by
  rw[jr,dC (by simp[En.two];omega)];have e:(j+1)*2+t-x.two.length=j*2+t:=by simp[En.two];omega
  rw[e,Nz G j (by simpa using hj) t ht];simp
theorem GN(G:List En)(j:Nat)(hj:j<2*G.length):∃e,e∈G/\∃h:j / 2<G.length,e=G[j / 2]/\(G.flatMap En.two)[j]?=some (Oh G j)/\Oh G j=if j % 2=0 then e.lv else e.rv:=by
 have h:j / 2<G.length:=by omega
 refine⟨G[j / 2],aj h,h,rfl,?_⟩;have h1:=Nz G (j / 2) h (j % 2) (by omega);have e:j / 2*2+j % 2=j:=by omega
 rw[e]at h1;have h2:(G[j / 2].two)[j % 2]?=some (if j % 2=0 then G[j / 2].lv else G[j / 2].rv):=by
  by_cases c:j % 2=0
  .rw[c];rfl
  .have c1:j % 2=1:=by omega
   rw[c1];rfl
 rw[h2]at h1;unfold Oh;rw[h1];exact⟨rfl,rfl⟩
theorem OM.form{w1 wr:World}{lb lc rb mr:Nat}{nv gv:Value}{Lc:List Nat}{fm:Value->Option Value}{nodes:List En}(m:OM w1 wr lb lc rb nv gv Lc mr fm nodes [] nodes)(hx:Ext w w1):FO wr w.heap.size nv (nodes.map En.nd).length (Oh nodes) (vS (nodes.map En.nd)):=by
 have hz:=hx.size;rw[bH];have hown:∀j,j<2*nodes.length->wr.ownsRow w.heap.size 3 1 (Oh nodes j) (vS (nodes.map En.nd) j).length ((vS (nodes.map En.nd) j).map (Value.int .i64)):=by
  intro j hj;obtain⟨e,he,h,e1,-,e2⟩:=GN nodes j hj;have ha:=m.uQ e he;have hd:(nodes.map En.nd).getD (j / 2) ([],[])=e.nd:=by rw[aO,bO,ae h,e1];rfl
  rw[e2];unfold vS;rw[hd];by_cases c:j % 2=0
  .simp only[c,if_true]
   have:=jD ha.1 hz;rw[aP];exact this
  .simp only[c,if_false]
   have:=jD ha.2.1 hz;rw[aP];exact this
 refine⟨⟨nodes.flatMap En.two,jD m.node hz,λj hj=>?_⟩,hown,λi j hi hj hne b hb hc=>?_,λj hj b hb hc=>?_⟩
 .obtain⟨e,he,h,e1,e2,e3⟩:=GN nodes j hj;exact e2
 .obtain⟨e,he,h,e1,-,e2⟩:=GN nodes i hi
  obtain⟨e',he',h',e1',-,e2'⟩:=GN nodes j hj;rw[e2]at hb;rw[e2']at hc;have hbe:e.blk b:=by
   by_cases c:i % 2=0
   .rw[if_pos c]at hb;exact .inl hb
   .rw[if_neg c]at hb;exact .inr hb
  have ade:e'.blk b:=by
   by_cases c:j % 2=0
   .rw[if_pos c]at hc;exact .inl hc
   .rw[if_neg c]at hc;exact .inr hc
  by_cases hij:i / 2=j / 2
  .have Ta:e=e':=by
    rw[e1,e1'];congr 1
   subst Ta;have hs:=m.self e he;by_cases c:i % 2=0
   .have c':¬j % 2=0:=by omega
    rw[if_pos c]at hb;rw[if_neg c']at hc;exact hs b hb hc
   .have c':j % 2=0:=by omega
    rw[if_neg c]at hb;rw[if_pos c']at hc;exact hs b hc hb
  .rcases Nat.lt_or_gt_of_ne hij with hl|hl
   .have:=bP.1 m.apart (i / 2) (j / 2) h h' hl
    rw[<-e1,<-e1']at this;exact this b hbe ade
   .have:=bP.1 m.apart (j / 2) (i / 2) h' h hl
    rw[<-e1,<-e1']at this;exact this b ade hbe
 .obtain⟨e,he,h,e1,-,e2⟩:=GN nodes j hj
  have hbe:e.blk b:=by
   rw[e2]at hb;by_cases c:j % 2=0
   .rw[if_pos c]at hb;exact .inl hb
   .rw[if_neg c]at hb;exact .inr hb
  exact(m.far e he b hbe).2.2.1 hc
theorem FO.lower{B B':Nat}{v:Value}{n:Nat}{sl:Nat->Value}{ls:Nat->List Int}(h:FO w B v n sl ls)(hB:B'<=B):FO w B' v n sl ls:=by
 obtain⟨xs,h1,h2⟩:=h.row;exact⟨⟨xs,jD h1 hB,h2⟩,λj hj=>jD (h.own j hj) hB,h.ap,h.ap0⟩
theorem FO.none(w:World)(sl:Nat->Value)(ls:Nat->List Int)(B:Nat):FO w B (.slice none 0 0) 0 sl ls:=
 ⟨⟨[],⟨by simp,.inl ⟨rfl,rfl⟩⟩,λj hj=>absurd hj (by omega)⟩,λj hj=>absurd hj (by omega),λi j hi=>absurd hi (by omega),λj hj=>absurd hj (by omega)⟩
def Vd(s:iK)(root:Nat)(w:World)(e:Ending)(w':World):Prop:=
 ∃F vN Fr ok sl,e=.returned (.tuple #[.agg #[vN],.bool ok])/\eD F/\Same (eQ F) (vl s.D root)/\ok=mP F/\Fr=(if ok then F else [])/\FO w' w.heap.size vN Fr.length sl (vS Fr)/\Ext w w'
theorem QV{A B:List Nat}(ha:A.Nodup)(hb:B.Nodup)(h:∀x,x∈A↔x∈B):A.length=B.length:=by
 have p:A.Perm B:=by
  rw[List.perm_ext_iff_of_nodup ha hb];exact h
 exact p.length_eq
theorem Jh(P:Nat->Prop):∀rest:List Nat,∃q,q<=rest.length/\(∀j (hj:j<rest.length),j<q->P rest[j])/\(∀hl:q<rest.length,¬P rest[q])
 |[]=>⟨0,ax _,λj hj=>absurd hj (by simp),λh=>absurd h (by simp)⟩
 |x :: rest=>by
  by_cases c:P x
  .obtain⟨q,h1,h2,h3⟩:=Jh P rest
   refine⟨q+1,by simp;omega,λj hj hq=>?_,λhl=>?_⟩
   .cases j with
    |zero=>exact c
    |succ j=>exact h2 j (by simpa using hj) (by omega)
   .exact h3 (by simpa using hl)
  .exact⟨0,az _,λj _ h=>absurd h (by omega),λ_=>c⟩
def Vp(D:cZ)(at_:List Nat)(x y:Nat):Bool:=decide (aZ.nc (Xn D at_ x) (Xn D at_ y)<=0)
theorem le_total(x y:Nat):(Vp D at_ x y || Vp D at_ y x)=true:=by
 unfold Vp;have:=aZ.yZ (Xn D at_ x) (Xn D at_ y);rw[qm,decide_eq_true_eq,decide_eq_true_eq];omega
theorem le_trans'(x y z:Nat)(h:Vp D at_ x y=true)(k:Vp D at_ y z=true):Vp D at_ x z=true:=by
 unfold Vp at *;rw[decide_eq_true_eq]at *;by_cases e:aZ.nc (Xn D at_ x) (Xn D at_ y)=0
 .rw[aZ.xQ e];exact k
 .by_cases e2:aZ.nc (Xn D at_ y) (Xn D at_ z)=0
  .rw[<-aZ.xQ e2];exact h
  .have:=aZ.qY (a:=Xn D at_ x) (b:=Xn D at_ y) (c:=Xn D at_ z) (by omega) (by omega);omega
theorem TE(g:aZ.Good D)(hr:root<D.length):∀(n:Nat) (F:cZ) (idx at_:List Nat) (b:Nat) (rest:List Nat),rest.length<=n->nO D root F idx at_ b rest->∃F',eD F'/\Same (eQ F') (vl D root)/\F'.length=(idx++rest).length:=by
 intro n
 induction n with
 |zero=>
  intro F idx at_ b rest hn h;have e:rest=[]:=cz (by omega);subst e;have h1:=h.last g hr;exact⟨F,h1.1,h1.2,by rw[gK];exact h.form.len.symm⟩
 |succ n ih=>
  intro F idx at_ b rest hn h;by_cases h0:0<rest.length
  .have hs:=h.stage h0
   obtain⟨q,q1,q2,q3⟩:=Jh (λx=>aZ.born (vl D x)=aZ.born (vl D rest[0])) rest;have hq0:0<q:=by
    rcases pM q with e|e
    .subst e;exact absurd rfl (q3 h0)
    .exact e
   have hp:=List.mergeSort_perm (rest.take q) (Vp D at_);have hw:=List.pairwise_mergeSort (le:=Vp D at_) le_trans' le_total (rest.take q);have h2:=hs.next g hr q1 q2 q3 hp (hw.imp (λ{a c} hac=>by
    unfold Vp at hac;rw[decide_eq_true_eq]at hac;have:=aZ.yZ (Xn D at_ a) (Xn D at_ c);omega))
   obtain⟨F',f1,f2,f3⟩:=ih _ _ _ _ (rest.drop q) (by rw[ug];omega) h2.1;refine⟨F',f1,f2,?_⟩;rw[f3];have:=hp.length_eq;simp only[aK,ug,gZ]at this ⊢;omega
  .exact ih F idx at_ b rest (by omega) h
theorem XN(g:aZ.Good D)(hr:root<D.length){Ls:List Nat}(hn:Ls.Nodup)(hm:∀j,j∈Ls↔aZ.Reach D root j):∃F,eD F/\Same (eQ F) (vl D root)/\F.length=Ls.length:=by
 have hp:=List.mergeSort_perm Ls (λx y=>decide (aZ.born (vl D x)<=aZ.born (vl D y)));have hw:=List.pairwise_mergeSort (le:=λx y=>decide (aZ.born (vl D x)<=aZ.born (vl D y))) (λa b c h k=>by simp only[decide_eq_true_eq]at *;omega) (λa b=>by simp only[qm,decide_eq_true_eq];omega) Ls;have hS:=nO.start (D:=D) (root:=root) (hp.symm.nodup hn) (λj=>by rw[hp.mem_iff];exact hm j) (hw.imp (λ{a b} h=>by simpa using h));obtain⟨F,f1,f2,f3⟩:=TE g hr _ _ _ _ _ _ (ax _) hS;exact⟨F,f1,f2,by rw[f3];simp⟩
theorem PD{F:cZ}(h:120<F.length):mP F=false:=decide_eq_false (λk=>by omega)
theorem OC(pp h:Nat)(s:iK)(root:Nat)(w:World)(hP:bX w pp h s)(hr:root<s.D.length):
 Calls prog 72 #[.pointer (some ⟨pp,0,none⟩),.int .i64 (root:Int)] w (Vd s root w):=by
 have hds:=hP.small;have hb1:(w.alloc (.cells #[.slice none 0 0] 30)).heap[w.heap.size]?=some (.cells #[.slice none 0 0] 30 (0,0)):=dV _ _;have hx1:Ext w (w.alloc (.cells #[.slice none 0 0] 30)):=by go_grown
 go_enter Tryz.func72,Tryz.ntmps72
 go_upto_region 1 with fail
 generalize w.alloc (.cells #[.slice none 0 0] 30)=W1 at *;have hx2:Ext W1 (W1.alloc (.cells #[.int .i64 (root:Int)] 3)):=by go_grown
 have hv1:=jB.one W1 root 3;have hE2:=ah hx1 hx2;generalize hf1:w.heap.size=f1 at *;have Pn:f1<W1.heap.size:=bq hb1;go_upto_region 2 with(go_at_call 123;refine(DN pp h s _ [root] _ _ (hP.ext hE2) (by simpa using hr) (by simp) hv1).mono ?_;rintro e w2 ⟨v2,Ls,rfl,ho2,Li,hm2,hx3⟩;obtain⟨a2,c2,rfl,-,-⟩:=bu ho2)
 .have pG:=ah hE2 hx3
  have hbf:=((ah hx2 hx3).block f1 Pn).trans hb1;have c0:=bI w2 f1 0 _ _ _ hbf;have q0:=iW w2 f1 0 _ _ hbf;have hl:120<Ls.length:=by omega
  obtain⟨F,g1,g2,g3⟩:=XN hP.good hr Li (λj=>by rw[hm2];simp);have HF:=yD g1 g2 g3;have HH:=aI (iV w2 f1 0 _ _ (.slice none 0 0) hbf);clear hv1 hm2 g1 g2 g3;go_wp2
  refine tO f1 30 #[.slice none 0 0] HH.out underlying30 ?_;exact⟨F,_,[],false,λ_=>undef,rfl,HF.out.1,HF.out.2.1,(PD (by rw[HF.out.2.2];exact hl)).symm,rfl,FO.none _ _ _ _,oG pG f1 0 _⟩
 .have hx4:Ext w2 (w2.alloc (.cells #[.int .i64 (root:Int)] 3)):=by go_grown
  have hv4:=jB.one w2 root 3;have pG:=ah hE2 hx3;have Jg:=ah pG hx4;refine(OE pp h s root _ _ _ (hP.ext Jg) hr hv4).mono ?_;rintro e w5 ⟨W5,lv,nv,lb,lc,rb,gv,Lc,mr,fm,nodes,rfl,hx5,hm,hF1,hF2,hnn,hmm⟩;have hx6:Ext W1 w5:=ah (ah hx2 (ah hx3 hx4)) (ah hx5 hm.ext);have Jf:=ah hx1 hx6;have zU:=ah Jg hx5;have agT:f1<W5.heap.size:=aJ Pn (ah (ah hx2 (ah hx3 hx4)) hx5).size;have hnl:nodes.length=Ls.length:=by
   have:=QV hnn Li (λj=>by rw[hmm,hm2];simp);rw[bH]at this;exact this
  have hn1:1<=nodes.length:=by
   have h1:root∈nodes.map En.id:=(hmm root).2 .here;have:=List.length_pos_of_mem h1;rw[bH]at this;exact this
  have hlen:nodes.length<=120:=by omega
  clear hnl;obtain⟨g,cv,rfl,-,-,-⟩:=gY hm.node hn1;have HF:=jW hF1 hF2;clear hv1 hv4 hm2 hmm hnn hF1 hF2 hx3 hx4 ho2 hx5 hE2 pG Jg hx2 Li;go_wp2
  go_loopw [9,26] (λ_ kk wr=>∃i,i<=nodes.length/\kk=.int .i64 ((i:Nat):Int)/\Ext w5 wr/\Hid (∀j (hj:j<nodes.length),j<i->nodes[j].l.length<=24/\nodes[j].r.length<=24)) (λ_ kk _=>nodes.length-(intOf kk).toNat)
  case atStart=>exact⟨0,az _,rfl,fJ _ _,aI (λj _ h=>absurd h (by omega))⟩
  case round=>
   obtain⟨i,hi,rfl,hx,HP⟩:=hrel;have hmr:=hm.ext' hx;have hbr:=(hx.block f1 (aJ Pn hx6.size)).trans ((hx6.block f1 Pn).trans hb1);have hEr:=ah Jf hx;by_cases hlt:i<nodes.length
   .have h1:((i:Nat):Int)<(nodes.length:Int):=by omega
    have k0:wr.cell? ⟨g,i*2,none⟩=some nodes[i].lv:=by
     have:=hmr.node.cellAt (i*2) (by omega);rw[this];exact Nz nodes i hlt 0 (by omega)
    have k1:wr.cell? ⟨g,i*2+1,none⟩=some nodes[i].rv:=by
     have:=hmr.node.cellAt (i*2+1) (by omega);rw[this];exact Nz nodes i hlt 1 (by omega)
    have hen:=hmr.uQ _ (aj hlt);obtain⟨b1,d1,e1,-,-⟩:=bu hen.1;obtain⟨b2,d2,e2,-,-⟩:=bu hen.2.1;rw[e1]at k0;rw[e2]at k1;obtain⟨nl,SE⟩:=eu (nodes[i].l.length);obtain⟨nr,Xb⟩:=eu (nodes[i].r.length);rw[<-SE]at k0;rw[<-Xb]at k1;have ami:nl<=1000000:=(by rw[SE];exact hen.2.2.2.2.1);have amh:nr<=1000000:=(by rw[Xb];exact hen.2.2.2.2.2);have HL:=jW SE Xb;have HX:=aI hx;have c0:=bI wr f1 0 _ _ _ hbr;have q0:=iW wr f1 0 _ _ hbr;clear hen e1 e2 SE Xb hmr hm hx;by_cases hb:nl<=24/\nr<=24
    .obtain⟨hbl,amU⟩:=hb
     have h2:¬((24:Int)<(nl:Int)):=(by omega);have h3:¬((24:Int)<(nr:Int)):=(by omega);go_wp2
     go_roundw
     case rel=>exact⟨i+1,by omega,by go_num,bJ HX.out _,aI (λj hj hji=>by
      by_cases e:j=i
      .subst e;rw[<-HL.out.1,<-HL.out.2];omega
      .exact HP.out j hj (by omega))⟩
     case measure=>simp[intOf];omega
    .have Xl:mP (nodes.map En.nd)=false:=decide_eq_false (λk=>by
      have h1:=k.2.2 i (by rw[bH];exact hlt);rw[fT]at h1;have h2:nodes[i].nd=(nodes[i].l,nodes[i].r):=rfl;rw[h2,<-HL.out.1,<-HL.out.2]at h1;exact hb h1)
     have HFF:=aI Xl;have hbn:=(bJ (fJ _ wr) (.cells #[.slice b1 nl d1,.slice b2 nr d2] 91)).block f1 (bq hbr);have hxn:Ext wr (wr.alloc (.cells #[.slice b1 nl d1,.slice b2 nr d2] 91)):=bJ (fJ _ _) _;have hbw:=hbn.trans hbr;have HW:=aI (iV _ f1 0 _ _ (.slice none 0 0) hbw);have HEr:=aI (oG (ah hEr hxn) f1 0 (.slice none 0 0));have c0':=bI _ f1 0 _ _ _ hbw;have q0':=iW _ f1 0 _ _ hbw;clear Xl hbn hbw c0 q0 hxn hEr;by_cases hl:24<nl
     .have h2:((24:Int)<(nl:Int)):=by omega
      clear hb;go_wp2
      refine tO f1 30 #[.slice none 0 0] HW.out underlying30 ?_;exact⟨_,_,[],false,λ_=>undef,rfl,HF.out.1,HF.out.2,HFF.out.symm,rfl,FO.none _ _ _ _,HEr.out⟩
     .have h2:¬((24:Int)<(nl:Int)):=by omega
      have h3:((24:Int)<(nr:Int)):=(by omega);clear hb;go_wp2
      refine tO f1 30 #[.slice none 0 0] HW.out underlying30 ?_;exact⟨_,_,[],false,λ_=>undef,rfl,HF.out.1,HF.out.2,HFF.out.symm,rfl,FO.none _ _ _ _,HEr.out⟩
   .have h1:¬(((i:Nat):Int)<(nodes.length:Int)):=by omega
    have Xl:mP (nodes.map En.nd)=true:=decide_eq_true ⟨by rw[bH];exact hn1,by rw[bH];exact hlen,λj hj=>by
     rw[bH]at hj;rw[fT];exact HP.out j hj (by omega)⟩
    have HFF:=aI Xl;have VB:=hmr.form (fJ _ _);have c0:=bI wr f1 0 _ _ _ hbr;have q0:=iW wr f1 0 _ _ hbr;have HW:=aI (iV _ f1 0 _ _ (.slice (some ⟨g,0,none⟩) nodes.length cv) hbr);have HEr:=aI (oG hEr f1 0 (.slice (some ⟨g,0,none⟩) nodes.length cv));have HFO:=aI VB;clear Xl VB hmr hEr;go_wp2
    refine tO f1 30 #[.slice (some ⟨g,0,none⟩) nodes.length cv] HW.out underlying30 ?_;exact⟨nodes.map En.nd,_,nodes.map En.nd,true,Oh nodes,rfl,HF.out.1,HF.out.2,HFF.out.symm,rfl,(HFO.out.BP dx (λb hb=>by subst hb;exact agT)).lower zU.size,HEr.out⟩
end
section
open aZ
variable {f i:Nat} {cn:Nat->Option Nat} {D D2 D3:cZ} {left:Bool} {FL FR:List Nat}
theorem RN{a b c d:List Gm}(h1:∀x,x∈a->∃y,y∈c/\eU x y)(h2:∀y,y∈c->∃x,x∈a/\eU x y)(h3:∀x,x∈b->∃y,y∈d/\eU x y)(h4:∀y,y∈d->∃x,x∈b/\eU x y):eU (.mk a b) (.mk c d):=by
 constructor
 .refine zV (λr hr=>?_) (λl hl=>?_)
  .obtain⟨y,hy,e⟩:=h3 r hr
   exact .inl ⟨y,hy,e.1⟩
  .obtain⟨x,hx,e⟩:=h2 l hl
   exact .inl ⟨x,hx,e.1⟩
 .refine zV (λr hr=>?_) (λl hl=>?_)
  .obtain⟨y,hy,e⟩:=h4 r hr
   exact .inl ⟨y,hy,e.2⟩
  .obtain⟨x,hx,e⟩:=h1 l hl
   exact .inl ⟨x,hx,e.2⟩
theorem RO{N:Nat}(hf:f<N)(h:cn f=none):1<=miss N cn:=by
 have:f∈(List.range N).filter λx=>(cn x).isNone:=iY.2 ⟨dJ.2 hf,by simp[h]⟩
 exact List.length_pos_of_mem this
theorem lX.more{D E:cZ}{cn Am:Nat->Option Nat}{f:Nat}{left:Bool}{F:List Nat}(hD:WF D)(hE:WF (D++E))(hf:f<D.length)(hm:∀i j,cn i=some j->Am i=some j)(h:lX D cn f left F):lX (D++E) Am f left F:=by
 obtain⟨h1,line,B,h2,h3⟩:=h;have ho:opt (D++E) left f=opt D left f:=nY hf;have hk:∀x,x∈opt D left f->Am x=cn x:=λx hx=>by
  have:=h1 x hx;cases e:cn x with
  |none=>rw[e]at this;cases this
  |some j=>exact hm x j e
 have hc:qE (D++E) Am left f=qE D cn left f:=by
  unfold qE;rw[ho];exact bE λx hx=>by rw[hk x hx]
 refine⟨λx hx=>?_,line,B,?_,h3.more hD hE (λx hx=>h2.lt x (h2.kept x hx).1)⟩
 .rw[ho]at hx;rw[hk x hx];exact h1 x hx
 .rw[hc];exact h2.more hD hE hf
theorem qD(_hc:zA D cn)(h:∀x,x∈opt D left f->(cn x).isSome):∀y,y∈qE D cn left f->∃x,x∈opt D left f/\cn x=some y:=by
 intro y hy;obtain⟨x,hx,rfl⟩:=ay.1 hy;have:=h x hx;cases e:cn x with
 |none=>rw[e]at this;cases this
 |some j=>exact⟨x,hx,by simp[e]⟩
theorem vg(hD:WF D)(hc:zA D cn){F:List Nat}(h:lX D cn f left F):∀x,x∈F->x<D.length/\born (vl D x)<born (vl D f)/\(cn x).isSome:=by
 obtain⟨h1,line,B,h2,h3⟩:=h;intro x hx;have hl:=(h2.kept x (h3.1 x hx).1).1;refine⟨h2.lt x hl,?_,?_⟩
 .refine h2.sV (λx=>born (vl D x)<born (vl D f)) (λi side x hi hx=>?_) (λy hy=>?_) x hl
  .have:=mZ hD hx;omega
  .obtain⟨z,hz,e⟩:=qD hc h1 y hy
   have:=mZ hD hz;have:=(hc.ok z y e).2.2;omega
 .refine h2.sV (λx=>(cn x).isSome) (λi side x hi hx=>?_) (λy hy=>?_) x hl
  .cases e:cn i with
   |none=>rw[e]at hi;cases hi
   |some j=>
    unfold opt at hx;cases e2:D[i]? with
    |none=>rw[e2]at hx;simp at hx
    |some nd=>
     rw[e2]at hx;exact hc.sub i j nd e e2 x (by cases side <;> simp at hx ⊢ <;> simp[hx])
  .obtain⟨z,hz,e⟩:=qD hc h1 y hy
   rw[hc.self z y e];rfl
def kC(cn:Nat->Option Nat)(f i:Nat):Nat->Option Nat:=λx=>if x=f\/x=i then some i else cn x
theorem Cs(g2:aZ.Good D2)(g3:aZ.Good D3)(hc:zA D2 cn)(hf:f<D2.length)(R1:lX D2 cn f true FL)(R2:lX D2 cn f false FR)(p:jA D2 FL FR D3 i):
 Canon (vl D3 i)/\eU (vl D3 i) (vl D3 f)/\born (vl D3 i)<=born (vl D3 f):=by
 have m1:=vg g2.wf hc R1;have m2:=vg g2.wf hc R2;obtain⟨h1,line,B,iL,tL⟩:=R1;obtain⟨h2,ajo,B',iR,tR⟩:=R2;have hvl:∀x,x<D2.length->vl D3 x=vl D2 x:=λx hx=>p.vl g2.wf g3.wf hx
 have hfe:D2[f]?=some D2[f]:=ae hf;have ho:=ow hf;have hE:eU (.mk ((qE D2 cn true f).map (vl D2)) ((qE D2 cn false f).map (vl D2))) (vl D2 f):=by
  rw[mK g2.wf hfe,<-ho.1,<-ho.2];have key:∀left,(∀x,x∈opt D2 left f->(cn x).isSome)->(∀x,x∈(qE D2 cn left f).map (vl D2)->∃y,y∈(opt D2 left f).map (vl D2)/\eU x y)/\∀y,y∈(opt D2 left f).map (vl D2)->∃x,x∈(qE D2 cn left f).map (vl D2)/\eU x y:=by
   intro left hk;constructor
   .intro x hx
    obtain⟨y,hy,rfl⟩:=ay.1 hx;obtain⟨z,hz,e⟩:=qD hc hk y hy;exact⟨vl D2 z,ay.2 ⟨z,hz,rfl⟩,(hc.ok z y e).2.1⟩
   .intro y hy
    obtain⟨z,hz,rfl⟩:=ay.1 hy;have:=hk z hz;cases e:cn z with
    |none=>rw[e]at this;cases this
    |some j=>exact⟨vl D2 j,ay.2 ⟨j,ay.2 ⟨z,hz,by simp[e]⟩,rfl⟩,(hc.ok z j e).2.1⟩
  exact RN (key true h1).1 (key true h1).2 (key false h2).1 (key false h2).2
 have cc:∀left,(∀x,x∈opt D2 left f->(cn x).isSome)->∀x,x∈qE D2 cn left f->Canon (vl D2 x):=λleft hk x hx=>by
  obtain⟨z,hz,e⟩:=qD hc hk x hx;exact(hc.ok z x e).1
 have tS:∀{left:Bool} {B F:List Nat},uX D2 left B F->uX D2 left B (aS F):=λ{left B F} t=>
  ⟨λx hx=>t.1 x (bU.1 hx),λx hx=>by obtain⟨z,hz,hg⟩:=t.2 x hx;exact⟨z,bU.2 hz,hg⟩⟩
 obtain⟨q1,q2⟩:=OG g2.wf hE (cc true h1) (cc false h2) iL iR (tS tL) (tS tR);have hv:vl D3 i=.mk ((aS FL).map (vl D2)) ((aS FR).map (vl D2)):=by
  rw[mK g3.wf p.1];congr 1
  .exact bE λx hx=>hvl x (m1 x (bU.1 hx)).1
  .exact bE λx hx=>hvl x (m2 x (bU.1 hx)).1
 refine⟨by rw[hv];exact q2,by rw[hv,hvl f hf];exact q1,?_⟩;rw[hvl f hf,hv,qF];constructor
 .intro x hx
  obtain⟨y,hy,rfl⟩:=ay.1 (show x∈(aS FL).map (vl D2) from hx);exact(m1 y (bU.1 hy)).2.1
 .intro x hx
  obtain⟨y,hy,rfl⟩:=ay.1 (show x∈(aS FR).map (vl D2) from hx);exact(m2 y (bU.1 hy)).2.1
theorem Uf(g2:aZ.Good D2)(g3:aZ.Good D3)(hc:zA D2 cn)(hc3:zA D3 cn)(hf:f<D2.length)(hn:cn f=none)(R1:lX D2 cn f true FL)(R2:lX D2 cn f false FR)(p:jA D2 FL FR D3 i):
 zA D3 (kC cn f i)/\∀x j,cn x=some j->kC cn f i x=some j:=by
 obtain⟨c1,c2,c3⟩:=Cs g2 g3 hc hf R1 R2 p;have m1:=vg g2.wf hc R1;have m2:=vg g2.wf hc R2;have hil:=p.lt;have hfl:f<D3.length:=by have:=p.len;omega
 have hmono:∀x j,cn x=some j->kC cn f i x=some j:=by
  intro x j hx;unfold kC;split
  .rename_i h
   rcases h with rfl|rfl
   .rw[hn]at hx;cases hx
   .have h1:=hc3.ok x j hx
    have h2:=(hc3.lt x j hx).2;rw[ma g3 j x h2 hil (iA h1.1 c1 h1.2.1)]
  .exact hx
 have hsome:∀x,(cn x).isSome->(kC cn f i x).isSome:=λx hx=>by
  cases e:cn x with
  |none=>rw[e]at hx;cases hx
  |some j=>rw[hmono x j e];rfl
 have hi:kC cn f i i=some i:=by simp[kC]
 have hinv:∀x j,kC cn f i x=some j->(x=f/\j=i)\/(x=i/\j=i)\/cn x=some j:=by
  intro x j h;unfold kC at h;split at h
  .rename_i hx
   injection h with h;rcases hx with rfl|rfl
   .exact .inl ⟨rfl,h.symm⟩
   .exact .inr (.inl ⟨rfl,h.symm⟩)
  .exact .inr (.inr h)
 refine⟨⟨λx j h=>?_,λx j h=>?_,λx j h=>?_,λx j nd h hnd y hy=>?_⟩,hmono⟩
 .rcases hinv x j h with⟨rfl,rfl⟩|⟨rfl,rfl⟩|h
  .exact⟨hfl,hil⟩
  .exact⟨hil,hil⟩
  .exact hc3.lt x j h
 .rcases hinv x j h with⟨rfl,rfl⟩|⟨rfl,rfl⟩|h
  .exact⟨c1,c2,c3⟩
  .exact⟨c1,eU.refl _,ax _⟩
  .exact hc3.ok x j h
 .rcases hinv x j h with⟨rfl,rfl⟩|⟨rfl,rfl⟩|h
  .exact hi
  .exact hi
  .exact hmono j j (hc3.self x j h)
 .rcases hinv x j h with⟨rfl,rfl⟩|⟨rfl,rfl⟩|h
  .have hfe:D2[x]?=some D2[x]:=ae hf
   obtain⟨E,e,_⟩:=p.ext;rw[e,bQ hf,hfe]at hnd;injection hnd with hnd;subst hnd;have ho:=ow hf;rcases aM.1 hy with hy|hy
   .exact hsome y (R1.1 y (by rw[ho.1];exact hy))
   .exact hsome y (R2.1 y (by rw[ho.2];exact hy))
  .rw[p.1]at hnd
   injection hnd with hnd;subst hnd;rcases aM.1 hy with hy|hy
   .exact hsome y (m1 y (bU.1 hy)).2.2
   .exact hsome y (m2 y (bU.1 hy)).2.2
  .exact hsome y (hc3.sub x j nd h hnd y hy)
end
section
open Go.RowKit
open aZ (cZ Nd vl Same Ge)
variable {w w1 w2:World} {pp h f i n m:Nat} {s:iK} {f0:Value->Option Value}
theorem bX.Cr(k:bX w pp h s):∃f,fM prog 3 w (h+1+1) 900000 f/\(∀i:Nat,f (.int .i64 (i:Int))=(s.cn i).map λj=>.int .i64 (j:Int))/\∀k v,f k=some v->∃i:Nat,k=.int .i64 (i:Int):=by
 obtain⟨n,f,h1,h2,h3⟩:=k.zm;refine⟨f,(h1.room ((List.range s.D.length).map λ(a:Nat)=>.int .i64 (a:Int)) λkey v hv=>?_).mono ?_,h2,h3⟩
 .obtain⟨i,rfl⟩:=h3 key v hv
  rw[h2]at hv;cases e:s.cn i with
  |none=>rw[e]at hv;cases hv
  |some j=>exact ay.2 ⟨i,dJ.2 (k.uT.lt i j e).1,rfl⟩
 .rw[bH,List.length_range];exact k.small
theorem FP{cn:Nat->Option Nat}(h:∀x:Nat,f0 (.int .i64 (x:Int))=(cn x).map λj=>.int .i64 (j:Int))(x:Nat):
 upd (λ_ _=>Classical.propDecidable _) (upd (λ_ _=>Classical.propDecidable _) f0 (.int .i64 (f:Int)) (.int .i64 (i:Int))) (.int .i64 (i:Int)) (.int .i64 (i:Int)) (.int .i64 (x:Int))=(kC cn f i x).map λj=>.int .i64 (j:Int):=by
 unfold kC;by_cases c:x=i
 .subst c;rw[upd_same];simp
 .rw[upd_ne (by simp;omega)]
  by_cases d:x=f
  .subst d;rw[upd_same];simp
  .rw[upd_ne (by simp;omega),h];simp[c,d]
theorem bX.XY(k:bX w pp h s)(hf:∀x:Nat,f0 (.int .i64 (x:Int))=(s.cn x).map λj=>.int .i64 (j:Int))(hk:∀k v,f0 k=some v->∃i:Nat,k=.int .i64 (i:Int))
 (hg1:w.grownBy w1 (some (h+1+1))) (hM:fM prog 3 w2 (h+1+1) n (upd (λ_ _=>Classical.propDecidable _) (upd (λ_ _=>Classical.propDecidable _) f0 (.int .i64 (f:Int)) (.int .i64 (i:Int))) (.int .i64 (i:Int)) (.int .i64 (i:Int)))) (hg2:w1.grownBy w2 (some (h+1+1)))
 (hc:zA s.D (kC s.cn f i)) (hm:∀x j,s.cn x=some j->kC s.cn f i x=some j):jd pp h s w ⟨s.lv,s.rv,s.bv,s.D,s.S,kC s.cn f i⟩ w2:=by
 have kk:=(gH hg1).trans (gH hg2) (λ_ _ h=>h);obtain⟨h1,h2⟩:=k.maps kk (λb hb=>by omega) hc (k.Ji (kk.block _ (k.ni (by omega)) (by omega))) (k.Ku (kk.block _ (k.ni (by omega)) (by omega))) ⟨n,_,hM,FP hf,λkey v hv=>by
  rcases xA hv with⟨rfl,rfl⟩|hv
  .exact⟨i,rfl⟩
  .rcases xA hv with⟨rfl,rfl⟩|hv
   .exact⟨f,rfl⟩
   .exact hk key v hv⟩
 exact⟨h1,h2,λ_ h=>.inl h,λ_ h=>h,λ_ h=>.inl h,⟨[],by simp⟩,hm⟩
theorem qi.mono(h:qi n)(hm:m<=n):qi m:=λpp hh s f w a b c d=>h pp hh s f w a b (by omega) d
theorem Md{s1 s2 s3:iK}{w3:World}{FL FR:List Nat}(hP:bX w pp h s)(hf:f<s.D.length)(hn:s.cn f=none)
 (k1:jd pp h s w s1 w1) (G1:tX s f s1) (R1:lX s1.D s1.cn f true FL) (k2:jd pp h s1 w1 s2 w2) (G2:tX s1 f s2) (R2:lX s2.D s2.cn f false FR) (k3:jd pp h s2 w2 s3 w3) (p:jA s2.D FL FR s3.D i) (hcn:s3.cn=s2.cn):
 zA s3.D (kC s3.cn f i)/\(∀x j,s3.cn x=some j->kC s3.cn f i x=some j)/\Grow s f ⟨s3.lv,s3.rv,s3.bv,s3.D,s3.S,kC s3.cn f i⟩:=by
 have hw:=hP.good.wf;have h1:=k1.len;have h2:=k2.len;have h3:=p.len;have hv1:=k1.vl hw hf;have hn1:s1.cn f=none:=by
  cases e:s1.cn f with
  |none=>rfl
  |some j=>have:=G1.2.1 f hf hn (by rw[e];rfl);omega
 have hn2:s2.cn f=none:=by
  cases e:s2.cn f with
  |none=>rfl
  |some j=>have:=G2.2.1 f (by omega) hn1 (by rw[e];rfl);omega
 have R1':lX s2.D s2.cn f true FL:=by
  obtain⟨E,hE⟩:=k2.more;have hg:=k2.pool.good.wf;rw[hE]at hg ⊢;exact R1.more k1.pool.good.wf hg (by omega) k2.known
 have hc3:=k3.pool.uT;rw[hcn]at hc3 ⊢;obtain⟨c1,c2⟩:=Uf k2.pool.good k3.pool.good k2.pool.uT hc3 (by omega) hn2 R1' R2 p;obtain⟨d1,d2,d3⟩:=Cs k2.pool.good k3.pool.good k2.pool.uT (by omega) R1' R2 p;refine⟨c1,c2,λN a b=>?_,λx a b c=>?_,λx a b=>?_⟩
 .have g1:=G1.1 N a b
  have g2:=G2.1 N a (by omega);have g3:=Wy (N:=N) (cn:=s2.cn) (Am:=kC s2.cn f i) (λx _ hx=>by cases e:s2.cn x with|none=>rw[e]at hx;cases hx|some j=>rw[c2 x j e];rfl) a hn2 (by simp[kC]);show s3.D.length+miss N (kC s2.cn f i)<=_;omega
 .have acV:=(k1.trans k2).trans k3
  by_cases e1:x=f
  .subst e1;exact ax _
  .by_cases e2:x=i
   .subst e2
    rw[acV.vl hw a,acV.vl hw hf]at d3;exact d3
   .have e3:kC s2.cn f i x=s2.cn x:=by simp[kC,e1,e2]
    rw[show(⟨s3.lv,s3.rv,s3.bv,s3.D,s3.S,kC s2.cn f i⟩:iK).cn x=s2.cn x from e3]at c;cases e:s1.cn x with
    |some j=>exact Nat.le_of_lt (G1.2.1 x a b (by rw[e];rfl))
    |none=>
     have:=G2.2.1 x (by omega) e c;rw[k1.vl hw a,hv1]at this;omega
 .have hs2:∀x,x<s2.D.length->s.D.length<=x->(s2.cn x).isSome:=λx h a=>by
   by_cases c:x<s1.D.length
   .have h1:=G1.2.2 x a c
    cases e:s1.cn x with
    |none=>rw[e]at h1;cases h1
    |some j=>rw[k2.known x j e];rfl
   .exact G2.2.2 x (by omega) h
  by_cases c:x<s2.D.length
  .have h1:=hs2 x c a
   cases e:s2.cn x with
   |none=>rw[e]at h1;cases h1
   |some j=>show(kC s2.cn f i x).isSome=true;rw[c2 x j e];rfl
  .have hxi:x=i:=by
    obtain⟨p1,p2⟩:=p;have b':x<s3.D.length:=b;rcases p2 with e|e
    .rw[e]at b';omega
    .have hx:x=s2.D.length:=by rw[e]at b';simp at b';omega
     have h1:s3.D[x]?=some (aS FL,aS FR):=(by rw[e,hx,dC (ax _)];simp);have h2:i<s3.D.length:=by
      rcases fe i s3.D.length with h|h
      .exact h
      .rw[ic h]at p1;cases p1
     exact(List.getElem?_inj (by rw[hx,e];simp) k3.pool.good.nodup).1 (h1.trans p1.symm)
   subst hxi;show(kC s2.cn f x x).isSome=true;simp[kC]
theorem Mc(ih:qi m):qi (m+1):=by
 intro pp h s f w hP hf hm hroom;have hds:=hP.small;obtain⟨f0,hM,hf0,hk0⟩:=hP.Cr;have hkf:=qN f (by omega);have c5:=hP.c5;go_enter Tryz.func73,Tryz.ntmps73
 cases hcn:s.cn f with
 |some j=>
  have e0:f0 (.int .i64 (f:Int))=some (.int .i64 (j:Int)):=by rw[hf0,hcn];rfl
  have HCN:=aI hcn;have HF0:=aI hf0;clear hcn hf0;go_wp2_with (at_lookup;refine vI rfl _ _ 152 true rfl 3 3 oz underlying152 (.int .i64 0) (Gi _) (h+1+1) 900000 f0 rfl (hM.keep rfl) (.int .i64 (f:Int)) rfl hkf ?_;rw[e0];simp only[if_true,gM,Option.isSome_some])
  go_ret
  exact⟨s,j,rfl,jd.refl hP (fJ _ _),HCN.out,λ_ _ _=>ax _,λx _ h k=>(by rw[h]at k;cases k),λx a b=>absurd b (by omega)⟩
 |none=>
  have e0:f0 (.int .i64 (f:Int))=none:=by rw[hf0,hcn];rfl
  have HCN:=aI hcn;have ihf:=ih.mono (show f<=m by omega);have R1:=aI (zH pp h s f true w ihf hP hf hroom);have IH:=aI ihf;have HM:=aI hM;clear hcn hf0 hk0 ih ihf hM
  go_upto_region 5 with(first
   |(at_lookup;refine vI rfl _ _ 152 true rfl 3 3 oz underlying152 (.int .i64 0) (Gi _) (h+1+1) 900000 f0 rfl (HM.out.keep rfl) (.int .i64 (f:Int)) rfl hkf ?_;rw[e0];simp only[if_true,Option.getD_none,Option.isSome_none])
   |(go_at_call 125;refine(Bv pp h s2 _ _ FL FR w2 hP2 Su VC JJ Xh hlR hI1 hI2).mono ?_;rintro e w3 ⟨s3,i,rfl,gU,hp3,hc3⟩)
   |(go_at_call 126;refine(zH pp h s1 f false w1 IH.out I7.pool hf1 hroom1).mono ?_;rintro e w2 ⟨s2,v2,FR,rfl,ho2,fZ,aag,hG2,hR2,hlR⟩
     have ahx:=aI hG2;have hP2:=fZ.pool;have hf2:f<s2.D.length:=aJ hf1 fZ.len;have hn1:s1.cn f=none:=by
      cases e:s1.cn f with
      |none=>rfl
      |some j=>exact absurd (adJ.out.2.1 f hf HCN.out (by rw[e];rfl)) (Nat.lt_irrefl _)
     have hn2:s2.cn f=none:=by
      cases e:s2.cn f with
      |none=>rfl
      |some j=>exact absurd (hG2.2.1 f hf1 hn1 (by rw[e];rfl)) (Nat.lt_irrefl _)
     have Su:s2.D.length+1<=900000:=df (Nat.add_le_add_left (RO (Nat.lt_succ_self f) hn2) _) (df (hG2.1 (f+1) (Nat.lt_succ_self f) hf1) hroom1);have adw:lX s2.D s2.cn f true FL:=by
      obtain⟨E,hE⟩:=fZ.more;have hg:=fZ.pool.good.wf;rw[hE]at hg ⊢;exact adx.out.more I7.pool.good.wf hg hf1 fZ.known
     have VC:∀x,x∈FL->x<s2.D.length:=λx hx=>(vg hP2.good.wf hP2.uT adw x hx).1
     have JJ:∀x,x∈FR->x<s2.D.length:=λx hx=>(vg hP2.good.wf hP2.uT hR2 x hx).1
     have hI1:Ints w2 v1 (bV FL):=Ints.dX (aV ho1 fZ.keep (λb hb=>(Fz b hb).1)) (by rw[aP];exact df Xh (by decide));have hI2:Ints w2 v2 (bV FR):=Ints.dX ho2 (by rw[aP];exact df hlR (by decide));have ahd:=aI hR2;clear hn1 hn2 adw hG2 hR2)
   |(go_at_call 126;refine R1.out.mono ?_;rintro e w1 ⟨s1,v1,FL,rfl,ho1,I7,Fz,hG1,hR1,Xh⟩
     have hf1:f<s1.D.length:=aJ hf I7.len;have hroom1:s1.D.length+miss (f+1) s1.cn<=900000:=df (hG1.1 (f+1) (Nat.lt_succ_self f) hf) hroom;have adJ:=aI hG1;have adx:=aI hR1;clear hG1 hR1))
  have hdone:=aI (Md hP hf HCN.out I7 adJ.out adx.out fZ ahx.out ahd.out gU hp3 hc3);have hP3:=gU.pool;have hi3:=hp3.lt;have amH:=hP3.small;obtain⟨f3,oD,hf3,hk3⟩:=hP3.Cr;have hki:=qN i (by omega);have c53:=hP3.c5;have agd:¬(pp=h+1+1):=by have:=hP3.Zd;omega
  have hlt3:=bq hP3.box;have HF3:=jW hf3 hk3;clear hf3 hk3 c5 e0 hI1 hI2 VC JJ ho1 ho2 hroom1 Su
  go_wp2_with (first
   |(at_mapUpdate;refine iO rfl _ _ _ 152 rfl 3 3 oz underlying152 (h+1+1) 900001 _ rfl yJ (by unfold maxLen;omega) (.int .i64 (i:Int)) (.int .i64 (i:Int)) rfl rfl hki ?_;intro w5 JI hg5)
   |(at_mapUpdate;refine iO rfl _ _ _ 152 rfl 3 3 oz underlying152 (h+1+1) 900000 f3 rfl (oD.keep rfl) (by unfold maxLen;omega) (.int .i64 (f:Int)) (.int .i64 (i:Int)) rfl rfl hkf ?_;intro w4 yJ hg4
     have c54:w4.cell? ⟨pp,5,none⟩=some (.map (some (h+1+1))):=(lh ((gH hg4).block pp hlt3 agd)).trans c53))
  go_ret
  have hin:=bX.XY hP3 HF3.out.1 HF3.out.2 hg4 JI hg5 hdone.out.1 hdone.out.2.1;exact⟨_,i,rfl,((I7.trans fZ).trans gU).trans hin,by simp[kC],hdone.out.2.2⟩
theorem Rj:∀m,qi m:=by
 intro m
 induction m with
 |zero=>intro pp h s f w _ _ h;omega
 |succ m ih=>exact Mc ih
theorem Bi(pp h:Nat)(s:iK)(f:Nat)(w:World)(hP:bX w pp h s)(hf:f<s.D.length)(hroom:s.D.length+miss (f+1) s.cn<=900000):Calls prog 73 #[.pointer (some ⟨pp,0,none⟩),.int .i64 (f:Int)] w (Cy pp h s f w):=
 Rj (f+1) pp h s f w hP hf (by omega) hroom
end
section
open Go.RowKit
open aZ (cZ Nd Gm vl Same eQ)
def PU(pp h:Nat)(s:iK)(F:cZ)(w0 w:World)(e:Ending)(w':World):Prop:=
 ∃s' j,e=.returned (.int .i64 ((j:Nat):Int))/\j<s'.D.length/\Same (vl s'.D j) (eQ F)/\jd pp h s w s' w'/\s'.D.length<=s.D.length+F.length/\Ext w0 w'/\(∀b,jI pp h s' b->w0.heap.size<=b)
theorem OB(pp h:Nat)(s:iK)(vf:Value)(F:cZ)(w0 w:World)(hf:eZ w0 0 vf F)(hF:aZ.WF F)(hne:0<F.length)(hA:∀x,x∈F->x.1.length<=1000000/\x.2.length<=1000000)(hx:Ext w0 w)(hP:bX w pp h s)(hb0:∀b,jI pp h s b->w0.heap.size<=b)(Ak:s.D.length+F.length<=900000):
 Calls prog 74 #[.pointer (some ⟨pp,0,none⟩),.agg #[vf]] w (PU pp h s F w0 w):=by
 obtain⟨aF,fI,rfl,hcap,yH,-⟩:=id hf;have hx1:Ext w (w.alloc (.cells #[.slice aF F.length fI] 30)):=by go_grown
 have hbx:=bI (w.alloc (.cells #[.slice aF F.length fI] 30)) w.heap.size 0 _ _ _ (dV w _);go_enter Tryz.func74,Tryz.ntmps74
 go_upto_region 1 with fail
 have HC:=aI (λV (hV:Ext w V)=>RQ pp h s (.slice aF F.length fI) F w0 V hf hF hA (ah hx hV) (hP.ext hV) hb0 Ak);have Ag:∀{s' w1 w2},Ext w w1->jd pp h s w1 s' w2->jd pp h s w s' w2:=λhV g=>(jd.refl hP hV).trans g
 have HG:=jW hne hx1;simp only[gE]at hbx;clear hf hA hx hb0 Ak hP hne;generalize w.alloc (.cells #[.slice aF F.length fI] 30)=W at *;go_upto_region 2 with(go_at_call 127;refine(HC.out _ (by first|exact HG.out.2|exact ah HG.out.2 (dz ⟨1,rfl⟩))).mono ?_;rintro e w2 ⟨s2,v2,L,rfl,ho2,fZ,hL2,hd2,hE2,hb2⟩)
 have hln:=hL2.len;obtain⟨g,cap,rfl,hc1,hc2,hc3⟩:=gY ho2 (by have:=HG.out.1;omega);have hlt:F.length-1<L.length:=by have:=HG.out.1;omega
 have hcl:=hc3 (L.length-1) (by omega);have hcz:((bV L).map (Value.int .i64))[L.length-1]?=some (.int .i64 ((L[F.length-1]:Nat):Int)):=by
  have e:L.length-1=F.length-1:=by omega
  rw[e,bO,bV,bO,ae hlt];rfl
 rw[hcz]at hcl;have hat:=aI (hL2.at_ _ hlt);have HE:=yD hd2 hE2 hb2;obtain⟨n,hn⟩:∃n,L.length=n+1:=⟨L.length-1,by omega⟩;rw[hn,jE]at hcl;rw[hn]at hc1 ⊢;clear hcz hc3 ho2 hd2 hE2 hb2 hL2 hln;have hi:((n:Nat):Int)<(((n+1:Nat)):Int):=by omega
 have hwk:wrap64 ((n:Nat):Int)=((n:Nat):Int):=by unfold maxLen at hc2;unfold wrap64;omega
 go_wp2
 go_ret
 exact⟨s2,_,rfl,hat.out.1,hat.out.2,Ag (by first|exact HG.out.2|exact ah HG.out.2 (dz ⟨1,rfl⟩)) fZ,HE.out.1,HE.out.2.1,HE.out.2.2⟩
end
section
open Go.RowKit
open aZ (cZ Nd vl Same eD eQ)
def ET:iK:=⟨.slice none 0 0,.slice none 0 0,.slice none 0 0,[],λ_=>False,λ_=>none⟩
theorem Ri{pp h b:Nat}(hb:jI pp h ET b):b=pp\/(h<=b/\b<h+1+1+1):=by
 rcases hb with h|h|h|h|h
 .exact .inl h
 .exact .inr h
 .simp[ET,Value.ownBlock]at h
 .simp[ET,Value.ownBlock]at h
 .simp[ET,Value.ownBlock]at h
end
section
open Go.RowKit
open aZ (cZ Nd Gm vl Same nf nw bG bT eQ)
theorem CG.go{V V':World}{b:Nat}{t:Int}{p:Nat}{pp h:Nat}{s s':iK}(k:CG V b t p)(hgo:jd pp h s V s' V')(o:Off pp h s V λx=>x=b):CG V' b t p:=
 (hgo.keep.block b (o b rfl).1 (o b rfl).2).trans k
end
section
open Go.RowKit
open aZ (cZ Nd Gm vl Same nf nw bG bT eQ)
theorem AQ(w1:World)(k:Int)(q:Nat):∃V,V=w1.alloc (.cells #[.int .i64 k,.int .i64 (q:Int)] 34)/\Ext w1 V/\CG V w1.heap.size k q/\w1.heap.size<V.heap.size:=
 ⟨_,rfl,by go_grown,dV w1 _,by rw[eX];omega⟩
end
section
open Go.RowKit
open aZ (cZ Nd Gm vl eD eQ Same Canon eU)
theorem KE(N:Nat)(cn:Nat->Option Nat):miss N cn<=N:=by
 unfold miss;have:=List.length_filter_le (λx=>(cn x).isNone) (List.range N);rwa [List.length_range]at this
end
