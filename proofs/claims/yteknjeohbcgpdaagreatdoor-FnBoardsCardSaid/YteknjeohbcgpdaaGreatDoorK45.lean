/-
  The solver's own memory: the two lists, the block that holds them. (3 texts.)
-/
import Derived.Test.YteknjeohbcgpdaaGreatDoorK43
import Derived.Test.YteknjeohbcgpdaaGreatDoorK44
set_option maxRecDepth 100000
namespace Go.Proofs.YteknjeohbcgpdaaGreatDoor
open Tryz
section
open Go.RowKit
open bO (dH Nd vl fC dZ Same)
variable {w:World} {D:dH} {at_:List Nat} {root:Nat}
theorem kg.one(w:World)(i:Nat)(t:TypeId):kg (λb=>b=w.heap.size) (w.alloc (.cells #[.int .i64 (i:Int)] t)) (.slice (some ⟨w.heap.size,0,none⟩) 1 1) [i]:=by
 have hc:=dh w (.int .i64 (i:Int)) t;refine⟨λb hb=>by subst hb;rw[eQ];omega,λw' h=>?_⟩;have hb:=World.cell?_of_block (a:=⟨w.heap.size,0,none⟩) (h _ rfl);refine⟨_,1,rfl,by simp[dD],by simp[dD],λ_=>⟨w.heap.size,0,rfl,λj hj=>?_⟩⟩;have hj0:j=0:=by simp[dD]at hj;omega
 subst hj0;rw[hb,hc];simp[dD,jo]
def P7(G:List En)(j:Nat):Value:=((G.flatMap En.two)[j]?).getD undef
theorem Pq:∀(G:List En) (j:Nat) (hj:j<G.length) (t:Nat),t<2->(G.flatMap En.two)[j*2+t]?=(G[j].two)[t]?
 |[],j,hj,_,_=>by simp at hj
 |x :: G,0,_,t,ht=>by
  rw[ji,dN (by simp[En.two];omega)];simp
 |x :: G,j+1,hj,t,ht=>by
  rw[ji,dW (by simp[En.two];omega)];have e:(j+1)*2+t-x.two.length=j*2+t:=by simp[En.two];omega
  rw[e,Pq G j (by simpa using hj) t ht];simp
theorem Jn(G:List En)(j:Nat)(hj:j<2*G.length):∃e,e∈G/\∃h:j / 2<G.length,e=G[j / 2]/\(G.flatMap En.two)[j]?=some (P7 G j)/\P7 G j=if j % 2=0 then e.lv else e.rv:=by
 have h:j / 2<G.length:=by omega
 refine⟨G[j / 2],ai h,h,rfl,?_⟩;have h1:=Pq G (j / 2) h (j % 2) (by omega);have e:j / 2*2+j % 2=j:=by omega
 rw[e]at h1;have h2:(G[j / 2].two)[j % 2]?=some (if j % 2=0 then G[j / 2].lv else G[j / 2].rv):=by
  by_cases c:j % 2=0
  .rw[c];rfl
  .have c1:j % 2=1:=by omega
   rw[c1];rfl
 rw[h2]at h1;unfold P7;rw[h1];exact⟨rfl,rfl⟩
theorem OM.form{w1 wr:World}{lb lc rb mr:Nat}{nv gv:Value}{Lc:List Nat}{fm:Value->Option Value}{nodes:List En}(m:OM w1 wr lb lc rb nv gv Lc mr fm nodes [] nodes)(hx:Ext w w1):FO wr w.heap.size nv (nodes.map En.nd).length (P7 nodes) (oZ (nodes.map En.nd)):=by
 have hz:=hx.size;rw[bD];have hown:∀j,j<2*nodes.length->wr.ownsRow w.heap.size 3 1 (P7 nodes j) (oZ (nodes.map En.nd) j).length ((oZ (nodes.map En.nd) j).map (Value.int .i64)):=by
  intro j hj;obtain⟨e,he,h,e1,-,e2⟩:=Jn nodes j hj;have ha:=m.uk e he;have hd:(nodes.map En.nd).getD (j / 2) ([],[])=e.nd:=by rw[aj,dm,aa h,e1];rfl
  rw[e2];unfold oZ;rw[hd];by_cases c:j % 2=0
  .simp only[c,if_true]
   have:=jS ha.1 hz;rw[bJ];exact this
  .simp only[c,if_false]
   have:=jS ha.2.1 hz;rw[bJ];exact this
 refine⟨⟨nodes.flatMap En.two,jS m.node hz,λj hj=>?_⟩,hown,λi j hi hj hne b hb hc=>?_,λj hj b hb hc=>?_⟩
 .obtain⟨e,he,h,e1,e2,e3⟩:=Jn nodes j hj;exact e2
 .obtain⟨e,he,h,e1,-,e2⟩:=Jn nodes i hi
  obtain⟨e',he',h',e1',-,e2'⟩:=Jn nodes j hj;rw[e2]at hb;rw[e2']at hc;have hbe:e.blk b:=by
   by_cases c:i % 2=0
   .rw[if_pos c]at hb;exact .inl hb
   .rw[if_neg c]at hb;exact .inr hb
  have afQ:e'.blk b:=by
   by_cases c:j % 2=0
   .rw[if_pos c]at hc;exact .inl hc
   .rw[if_neg c]at hc;exact .inr hc
  by_cases hij:i / 2=j / 2
  .have Y1:e=e':=by
    rw[e1,e1'];congr 1
   subst Y1;have hs:=m.self e he;by_cases c:i % 2=0
   .have c':¬j % 2=0:=by omega
    rw[if_pos c]at hb;rw[if_neg c']at hc;exact hs b hb hc
   .have c':j % 2=0:=by omega
    rw[if_neg c]at hb;rw[if_pos c']at hc;exact hs b hc hb
  .rcases Nat.lt_or_gt_of_ne hij with hl|hl
   .have:=dx.1 m.apart (i / 2) (j / 2) h h' hl
    rw[<-e1,<-e1']at this;exact this b hbe afQ
   .have:=dx.1 m.apart (j / 2) (i / 2) h' h hl
    rw[<-e1,<-e1']at this;exact this b afQ hbe
 .obtain⟨e,he,h,e1,-,e2⟩:=Jn nodes j hj
  have hbe:e.blk b:=by
   rw[e2]at hb;by_cases c:j % 2=0
   .rw[if_pos c]at hb;exact .inl hb
   .rw[if_neg c]at hb;exact .inr hb
  exact(m.far e he b hbe).2.2.1 hc
theorem FO.lower{B B':Nat}{v:Value}{n:Nat}{sl:Nat->Value}{ls:Nat->List Int}(h:FO w B v n sl ls)(hB:B'<=B):FO w B' v n sl ls:=by
 obtain⟨xs,h1,h2⟩:=h.row;exact⟨⟨xs,jS h1 hB,h2⟩,λj hj=>jS (h.own j hj) hB,h.ap,h.R7⟩
theorem FO.none(w:World)(sl:Nat->Value)(ls:Nat->List Int)(B:Nat):FO w B (.slice none 0 0) 0 sl ls:=
 ⟨⟨[],⟨by simp,.inl ⟨rfl,rfl⟩⟩,λj hj=>absurd hj (by omega)⟩,λj hj=>absurd hj (by omega),λi j hi=>absurd hi (by omega),λj hj=>absurd hj (by omega)⟩
def Xw(s:iH)(root:Nat)(w:World)(e:Ending)(w':World):Prop:=
 ∃F vN Fr ok sl,e=.returned (.tuple #[.agg #[vN],.bool ok])/\fC F/\Same (dZ F) (vl s.D root)/\ok=iQ F/\Fr=(if ok then F else [])/\FO w' w.heap.size vN Fr.length sl (oZ Fr)/\Ext w w'
theorem Te{A B:List Nat}(ha:A.Nodup)(hb:B.Nodup)(h:∀x,x∈A↔x∈B):A.length=B.length:=by
 have p:A.Perm B:=by
  rw[List.perm_ext_iff_of_nodup ha hb];exact h
 exact p.length_eq
theorem Ku(P:Nat->Prop):∀rest:List Nat,∃q,q<=rest.length/\(∀j (hj:j<rest.length),j<q->P rest[j])/\(∀hl:q<rest.length,¬P rest[q])
 |[]=>⟨0,ay _,λj hj=>absurd hj (by simp),λh=>absurd h (by simp)⟩
 |x :: rest=>by
  by_cases c:P x
  .obtain⟨q,h1,h2,h3⟩:=Ku P rest
   refine⟨q+1,by simp;omega,λj hj hq=>?_,λhl=>?_⟩
   .cases j with
    |zero=>exact c
    |succ j=>exact h2 j (by simpa using hj) (by omega)
   .exact h3 (by simpa using hl)
  .exact⟨0,aJ _,λj _ h=>absurd h (by omega),λ_=>c⟩
def XF(D:dH)(at_:List Nat)(x y:Nat):Bool:=decide (bO.nc (Xn D at_ x) (Xn D at_ y)<=0)
theorem le_total(x y:Nat):(XF D at_ x y || XF D at_ y x)=true:=by
 unfold XF;have:=bO.Aq (Xn D at_ x) (Xn D at_ y);rw[Bool.or_eq_true,decide_eq_true_eq,decide_eq_true_eq];omega
theorem le_trans'(x y z:Nat)(h:XF D at_ x y=true)(k:XF D at_ y z=true):XF D at_ x z=true:=by
 unfold XF at *;rw[decide_eq_true_eq]at *;by_cases e:bO.nc (Xn D at_ x) (Xn D at_ y)=0
 .rw[bO.zl e];exact k
 .by_cases e2:bO.nc (Xn D at_ y) (Xn D at_ z)=0
  .rw[<-bO.zl e2];exact h
  .have:=bO.ve (a:=Xn D at_ x) (b:=Xn D at_ y) (c:=Xn D at_ z) (by omega) (by omega);omega
theorem VP(g:bO.Good D)(hr:root<D.length):∀(n:Nat) (F:dH) (idx at_:List Nat) (b:Nat) (rest:List Nat),rest.length<=n->oD D root F idx at_ b rest->∃F',fC F'/\Same (dZ F') (vl D root)/\F'.length=(idx++rest).length:=by
 intro n
 induction n with
 |zero=>
  intro F idx at_ b rest hn h;have e:rest=[]:=fK (by omega);subst e;have h1:=h.last g hr;exact⟨F,h1.1,h1.2,by rw[fV];exact h.form.len.symm⟩
 |succ n ih=>
  intro F idx at_ b rest hn h;by_cases h0:0<rest.length
  .have hs:=h.stage h0
   obtain⟨q,q1,q2,q3⟩:=Ku (λx=>bO.born (vl D x)=bO.born (vl D rest[0])) rest;have hq0:0<q:=by
    rcases qi q with e|e
    .subst e;exact absurd rfl (q3 h0)
    .exact e
   have hp:=List.mergeSort_perm (rest.take q) (XF D at_);have hw:=List.pairwise_mergeSort (le:=XF D at_) le_trans' le_total (rest.take q);have h2:=hs.next g hr q1 q2 q3 hp (hw.imp (λ{a c} hac=>by
    unfold XF at hac;rw[decide_eq_true_eq]at hac;have:=bO.Aq (Xn D at_ a) (Xn D at_ c);omega))
   obtain⟨F',f1,f2,f3⟩:=ih _ _ _ _ (rest.drop q) (by rw[iB];omega) h2.1;refine⟨F',f1,f2,?_⟩;rw[f3];have:=hp.length_eq;simp only[aK,iB,dI]at this ⊢;omega
  .exact ih F idx at_ b rest (by omega) h
theorem Zr(g:bO.Good D)(hr:root<D.length){Ls:List Nat}(hn:Ls.Nodup)(hm:∀j,j∈Ls↔bO.Reach D root j):∃F,fC F/\Same (dZ F) (vl D root)/\F.length=Ls.length:=by
 have hp:=List.mergeSort_perm Ls (λx y=>decide (bO.born (vl D x)<=bO.born (vl D y)));have hw:=List.pairwise_mergeSort (le:=λx y=>decide (bO.born (vl D x)<=bO.born (vl D y))) (λa b c h k=>by simp only[decide_eq_true_eq]at *;omega) (λa b=>by simp only[Bool.or_eq_true,decide_eq_true_eq];omega) Ls;have hS:=oD.start (D:=D) (root:=root) (hp.symm.nodup hn) (λj=>by rw[hp.mem_iff];exact hm j) (hw.imp (λ{a b} h=>by simpa using h));obtain⟨F,f1,f2,f3⟩:=VP g hr _ _ _ _ _ _ (ay _) hS;exact⟨F,f1,f2,by rw[f3];simp⟩
theorem Q8{F:dH}(h:120<F.length):iQ F=false:=decide_eq_false (λk=>by omega)
set_option maxHeartbeats 4000000 in
theorem Al(pp h:Nat)(s:iH)(root:Nat)(w:World)(hP:dz w pp h s)(hr:root<s.D.length):
 Calls prog 69 #[.pointer (some ⟨pp,0,none⟩),.int .i64 (root:Int)] w (Xw s root w):=by
 have hds:=hP.small;have hb1:(w.alloc (.cells #[.slice none 0 0] 28)).heap[w.heap.size]?=some (.cells #[.slice none 0 0] 28 (0,0)):=heap_alloc_new _ _;have hx1:Ext w (w.alloc (.cells #[.slice none 0 0] 28)):=by go_grown
 go_enter Tryz.func69,Tryz.ntmps69
 go_upto_region 1 with fail
 generalize w.alloc (.cells #[.slice none 0 0] 28)=W1 at *;have hx2:Ext W1 (W1.alloc (.cells #[.int .i64 (root:Int)] 3)):=by go_grown
 have hv1:=kg.one W1 root 3;have hE2:=ax hx1 hx2;generalize hf1:w.heap.size=f1 at *;have QU:f1<W1.heap.size:=bu hb1;go_upto_region 2 with(go_at_call 117;refine(FH pp h s _ [root] _ _ (hP.ext hE2) (by simpa using hr) (by simp) hv1).mono ?_;rintro e w2 ⟨v2,Ls,rfl,ho2,MW,hm2,hx3⟩;obtain⟨a2,c2,rfl,-,-⟩:=bH ho2)
 .have ui:=ax hE2 hx3
  have hbf:=((ax hx2 hx3).block f1 QU).trans hb1;have c0:=cell_of_row w2 f1 0 _ _ _ hbf;have q0:=frozen_of_row w2 f1 0 _ _ hbf;have hl:120<Ls.length:=by omega
  obtain⟨F,g1,g2,g3⟩:=Zr hP.good hr MW (λj=>by rw[hm2];simp);have HF:=aQ (And.intro g1 (And.intro g2 g3));have HH:=aQ (heap_setCell_same w2 f1 0 _ _ (.slice none 0 0) hbf);clear hv1 hm2 g1 g2 g3;go_wp2
  (try simp only[Exit.inBlock,Exit.then]);refine bodyPost_ret (dO rfl _ _ f1 28 #[.slice none 0 0] (0,0) _ rfl HH.out underlying28 rfl (by kernel_rfl) rfl) rfl ?_;exact⟨F,_,[],false,λ_=>undef,rfl,HF.out.1,HF.out.2.1,(Q8 (by rw[HF.out.2.2];exact hl)).symm,rfl,FO.none _ _ _ _,ui.setCell (p:=⟨f1,0,none⟩) (by show w.heap.size<=f1;omega) _⟩
 .have hx4:Ext w2 (w2.alloc (.cells #[.int .i64 (root:Int)] 3)):=by go_grown
  have hv4:=kg.one w2 root 3;have ui:=ax hE2 hx3;have IV:=ax ui hx4;refine(Qu pp h s root _ _ _ (hP.ext IV) hr hv4).mono ?_;rintro e w5 ⟨W5,lv,nv,lb,lc,rb,gv,Lc,mr,fm,nodes,rfl,hx5,hm,hF1,hF2,hnn,hmm⟩;have hx6:Ext W1 w5:=ax (ax hx2 (ax hx3 hx4)) (ax hx5 hm.ext);have Q4:=ax hx1 hx6;have hE5:=ax IV hx5;have akc:f1<W5.heap.size:=bz QU (ax (ax hx2 (ax hx3 hx4)) hx5).size;have hnl:nodes.length=Ls.length:=by
   have:=Te hnn MW (λj=>by rw[hmm,hm2];simp);rw[bD]at this;exact this
  have hn1:1<=nodes.length:=by
   have h1:root∈nodes.map En.id:=(hmm root).2 .here;have:=List.length_pos_of_mem h1;rw[bD]at this;exact this
  have hlen:nodes.length<=120:=by omega
  clear hnl;obtain⟨g,cv,rfl,-,-,-⟩:=gV hm.node hn1;have HF:=aQ (And.intro hF1 hF2);clear hv1 hv4 hm2 hmm hnn hF1 hF2 hx3 hx4 ho2 hx5 hE2 ui IV hx2 MW;go_wp2
  go_loopw [9,26] (λ_ kk wr=>∃i,i<=nodes.length/\kk=.int .i64 ((i:Nat):Int)/\Ext w5 wr/\Hid (∀j (hj:j<nodes.length),j<i->nodes[j].l.length<=24/\nodes[j].r.length<=24)) (λ_ kk _=>nodes.length-(intOf kk).toNat)
  case atStart=>exact⟨0,aJ _,rfl,Below.refl _ _,aQ (λj _ h=>absurd h (by omega))⟩
  case round=>
   obtain⟨i,hi,rfl,hx,HP⟩:=hrel;have hmr:=hm.ext' hx;have hbr:=(hx.block f1 (bz QU hx6.size)).trans ((hx6.block f1 QU).trans hb1);have hEr:=ax Q4 hx;by_cases hlt:i<nodes.length
   .have h1:((i:Nat):Int)<(nodes.length:Int):=by omega
    have k0:wr.cell? ⟨g,i*2,none⟩=some nodes[i].lv:=by
     have:=hmr.node.cellAt (i*2) (by omega);rw[this];exact Pq nodes i hlt 0 (by omega)
    have k1:wr.cell? ⟨g,i*2+1,none⟩=some nodes[i].rv:=by
     have:=hmr.node.cellAt (i*2+1) (by omega);rw[this];exact Pq nodes i hlt 1 (by omega)
    have hen:=hmr.uk _ (ai hlt);obtain⟨b1,d1,e1,-,-⟩:=bH hen.1;obtain⟨b2,d2,e2,-,-⟩:=bH hen.2.1;rw[e1]at k0;rw[e2]at k1;obtain⟨nl,U1⟩:∃n,n=nodes[i].l.length:=⟨_,rfl⟩;obtain⟨nr,YS⟩:∃n,n=nodes[i].r.length:=⟨_,rfl⟩;rw[<-U1]at k0;rw[<-YS]at k1;have aql:nl<=1000000:=(by rw[U1];exact hen.2.2.2.2.1);have aqk:nr<=1000000:=(by rw[YS];exact hen.2.2.2.2.2);have HL:=aQ (And.intro U1 YS);have HX:=aQ hx;have c0:=cell_of_row wr f1 0 _ _ _ hbr;have q0:=frozen_of_row wr f1 0 _ _ hbr;clear hen e1 e2 U1 YS hmr hm hx;by_cases hb:nl<=24/\nr<=24
    .obtain⟨hbl,ara⟩:=hb
     have h2:¬((24:Int)<(nl:Int)):=(by omega);have h3:¬((24:Int)<(nr:Int)):=(by omega);go_wp2
     go_roundw
     case rel=>exact⟨i+1,by omega,by go_num,bS HX.out _,aQ (λj hj hji=>by
      by_cases e:j=i
      .subst e;rw[<-HL.out.1,<-HL.out.2];omega
      .exact HP.out j hj (by omega))⟩
     case measure=>simp[intOf];omega
    .have XO:iQ (nodes.map En.nd)=false:=decide_eq_false (λk=>by
      have h1:=k.2.2 i (by rw[bD];exact hlt);rw[fT]at h1;have h2:nodes[i].nd=(nodes[i].l,nodes[i].r):=rfl;rw[h2,<-HL.out.1,<-HL.out.2]at h1;exact hb h1)
     have HFF:=aQ XO;have hbn:=(bS (Below.refl _ wr) (.cells #[.slice b1 nl d1,.slice b2 nr d2] 89)).block f1 (bu hbr);have hxn:Ext wr (wr.alloc (.cells #[.slice b1 nl d1,.slice b2 nr d2] 89)):=bS (Below.refl _ _) _;have hbw:=hbn.trans hbr;have HW:=aQ (heap_setCell_same _ f1 0 _ _ (.slice none 0 0) hbw);have HEr:=aQ ((ax hEr hxn).setCell (p:=⟨f1,0,none⟩) (by show w.heap.size<=f1;omega) (.slice none 0 0));have c0':=cell_of_row _ f1 0 _ _ _ hbw;have q0':=frozen_of_row _ f1 0 _ _ hbw;clear XO hbn hbw c0 q0 hxn hEr;by_cases hl:24<nl
     .have h2:((24:Int)<(nl:Int)):=by omega
      clear hb;go_wp2
      (try simp only[Exit.inBlock,Exit.then]);refine bodyPost_ret (dO rfl _ _ f1 28 #[.slice none 0 0] (0,0) _ rfl HW.out underlying28 rfl (by kernel_rfl) rfl) rfl ?_;exact⟨_,_,[],false,λ_=>undef,rfl,HF.out.1,HF.out.2,HFF.out.symm,rfl,FO.none _ _ _ _,HEr.out⟩
     .have h2:¬((24:Int)<(nl:Int)):=by omega
      have h3:((24:Int)<(nr:Int)):=(by omega);clear hb;go_wp2
      (try simp only[Exit.inBlock,Exit.then]);refine bodyPost_ret (dO rfl _ _ f1 28 #[.slice none 0 0] (0,0) _ rfl HW.out underlying28 rfl (by kernel_rfl) rfl) rfl ?_;exact⟨_,_,[],false,λ_=>undef,rfl,HF.out.1,HF.out.2,HFF.out.symm,rfl,FO.none _ _ _ _,HEr.out⟩
   .have h1:¬(((i:Nat):Int)<(nodes.length:Int)):=by omega
    have XO:iQ (nodes.map En.nd)=true:=decide_eq_true ⟨by rw[bD];exact hn1,by rw[bD];exact hlen,λj hj=>by
     rw[bD]at hj;rw[fT];exact HP.out j hj (by omega)⟩
    have HFF:=aQ XO;have DX:=hmr.form (Below.refl _ _);have c0:=cell_of_row wr f1 0 _ _ _ hbr;have q0:=frozen_of_row wr f1 0 _ _ hbr;have HW:=aQ (heap_setCell_same _ f1 0 _ _ (.slice (some ⟨g,0,none⟩) nodes.length cv) hbr);have HEr:=aQ (hEr.setCell (p:=⟨f1,0,none⟩) (by show w.heap.size<=f1;omega) (.slice (some ⟨g,0,none⟩) nodes.length cv));have HFO:=aQ DX;clear XO DX hmr hEr;go_wp2
    (try simp only[Exit.inBlock,Exit.then]);refine bodyPost_ret (dO rfl _ _ f1 28 #[.slice (some ⟨g,0,none⟩) nodes.length cv] (0,0) _ rfl HW.out underlying28 rfl (by kernel_rfl) rfl) rfl ?_;exact⟨nodes.map En.nd,_,nodes.map En.nd,true,P7 nodes,rfl,HF.out.1,HF.out.2,HFF.out.symm,rfl,(HFO.out.xV dV (λb hb=>by subst hb;exact akc)).lower hE5.size,HEr.out⟩
end
section
open Go.RowKit
open bO (dH Nd vl Gm Canon iO)
variable {fk:Value->Option Value} {sb:ByteArray} {v:Value} {n b pp h kb q i f:Nat} {s s' s1:iH} {w w' w0 w1:World} {D E:dH} {x g:Gm} {ss:List ByteArray} {l r:List Nat}
structure Sv where
 fn:FuncId
 T:Nat->Gm->ByteArray->Prop
 U:List ByteArray
 G:World->Prop
def Bh(V:Sv)(n:Nat)(opts:List Gm)(ss:List ByteArray):Prop:=
 (∀j (h:j<ss.length),∃m x,m<n/\x∈opts/\V.T m x ss[j])/\∀x,x∈opts->∃j,∃(h:j<ss.length),∃m,V.T m x ss[j]
def side(g:Gm)(left:Bool):List Gm:=if left then g.l else g.r
def Gl(V:Sv)(n:Nat)(g:Gm)(left:Bool)(w:World)(e:Ending)(w':World):Prop:=
 ∃(v:Value) (ss:List ByteArray),e=.returned v/\w'.ownsRow w.heap.size 9 1 v ss.length (ss.map Value.string)/\ss.length<=1000/\Bh V n (side g left) ss/\Ext w w'
structure Sv.Ok(V:Sv):Prop where
 room:V.U.length<=400000
 mem:∀{n g sb},V.T n g sb->sb∈V.U
 one:∀{n g sb n' g'},V.T n g sb->V.T n' g' sb->n=n'/\iO g g'
 size:∀{n g sb},V.T n g sb->sb.size<=maxLen
 ac3:∀{w w'},V.G w->Ext w w'->V.G w'
 ent:∀(args:Array Value) (w:World),(callFunc V.fn args).run prog w=.ok (.enter V.fn args) w
 moves:∀{n g sb} left w,V.T n g sb->V.G w->Calls prog V.fn #[.string sb,.bool left] w (Gl V n g left w)
def kc(V:Sv)(fk:Value->Option Value):Nat:=V.U.countP λsb=>(fk (.string sb)).isSome
theorem aax{V:Sv}(h:V.Ok)(fk:Value->Option Value):kc V fk<=400000:=dn List.countP_le_length h.room
theorem KG{α:Type}{p q:α->Bool}{l:List α}(h:∀x,p x=true->q x=true){a:α}(ha:a∈l)(hp:p a=false)(hq:q a=true):l.countP p+1<=l.countP q:=by
 induction l with
 |nil=>cases ha
 |cons b l ih=>
  rw[j6,j6];have hm:l.countP p<=l.countP q:=List.countP_mono_left λx _ k=>h x k
  rcases eT.1 ha with e|e
  .subst e;rw[hp,hq];simp;omega
  .have:=ih e
   have hb:=h b;cases c:p b <;> cases d:q b <;> simp_all <;> omega
theorem abI{V:Sv}(hm:sb∈V.U)(hn:fk (.string sb)=none):kc V fk+1<=kc V (upd (λ_ _=>Classical.propDecidable _) fk (.string sb) v):=by
 refine KG (λx hx=>?_) hm (by rw[hn];rfl) (by rw[upd_same];rfl);by_cases c:Value.string x=.string sb
 .rw[c,upd_same];rfl
 .rw[upd_ne c];exact hx
def ry(V:Sv)(D:dH)(fk:Value->Option Value):Prop:=∀key v,fk key=some v->∃n g sb i,key=.string sb/\V.T n g sb/\v=.int .i64 ((i:Nat):Int)/\i<D.length/\Canon (vl D i)/\iO (vl D i) g
def uA(V:Sv)(n:Nat)(fk IZ:Value->Option Value):Prop:=∀key,(IZ key).isSome->(fk key).isSome\/∃m g sb,key=.string sb/\V.T m g sb/\m<n
theorem uA.refl(V:Sv)(n:Nat)(fk:Value->Option Value):uA V n fk fk:=λ_ h=>.inl h
theorem uA.trans{V:Sv}{m:Nat}{a b c:Value->Option Value}(h:uA V n a b)(k:uA V m b c)(hm:m<=n):uA V n a c:=λkey hk=>by
 rcases k key hk with e|⟨q,g,sb,e1,e2,e3⟩
 .exact h key e
 .exact .inr ⟨q,g,sb,e1,e2,by omega⟩
theorem uA.none{V:Sv}(hV:V.Ok){n:Nat}{a b:Value->Option Value}(h:uA V n a b){g:Gm}{sb:ByteArray}(hT:V.T n g sb)(ha:a (.string sb)=none):b (.string sb)=none:=by
 cases e:b (.string sb)with
 |none=>rfl
 |some v=>
  rcases h _ (by rw[e];rfl)with k|⟨q,g',sb',e1,e2,e3⟩
  .rw[ha]at k;cases k
  .injection e1 with e1;subst e1
   have:=(hV.one hT e2).1;omega
structure Ep(V:Sv)(q:Nat)(w0 w:World)(pp h kb:Nat)(s:iH)(fk:Value->Option Value):Prop where
 pool:dz w pp h s
 all:∀x,x<s.D.length->(s.cn x).isSome
 kn:gz prog 9 w kb (kc V fk) fk
 known:ry V s.D fk
 small:s.D.length<=2*kc V fk+q
 kb1:¬jN pp h s kb
 XG:¬s.S kb
 kb0:w0.heap.size<=kb
 base:∀b,jN pp h s b->w0.heap.size<=b
 ext:Ext w0 w
structure tq(pp h kb:Nat)(s:iH)(w:World)(s':iH)(w':World):Prop where
 keep:dX (λb=>jN pp h s b\/b=kb) w w'
 own:∀b,jN pp h s' b->jN pp h s b\/w.heap.size<=b
 lists:∀b,s'.S b->s.S b\/w.heap.size<=b
 more:∃E,s'.D=s.D++E
theorem tq.ext(hx:Ext w w'):tq pp h kb s w s w':=⟨fq hx,λ_ h=>.inl h,λ_ h=>.inl h,⟨[],by simp⟩⟩
theorem tq.trans{pp h kb:Nat}{s1 s2 s3:iH}{w1 w2 w3:World}(k:tq pp h kb s1 w1 s2 w2)(m:tq pp h kb s2 w2 s3 w3)(hk:kb<w1.heap.size):tq pp h kb s1 w1 s3 w3:=by
 have hz:=k.keep.size;refine⟨k.keep.trans m.keep (λx hx hi=>?_),λx hx=>?_,λx hx=>?_,?_⟩
 .rcases hi with h|h
  .rcases k.own x h with h|h
   .exact .inl h
   .omega
  .exact .inr h
 .rcases m.own x hx with h1|h1
  .exact k.own x h1
  .exact .inr (by omega)
 .rcases m.lists x hx with h1|h1
  .exact k.lists x h1
  .exact .inr (by omega)
 .obtain⟨E,e⟩:=k.more
  obtain⟨F,f⟩:=m.more;exact⟨E++F,by rw[f,e,dA]⟩
theorem tq.pool(k:jK pp h s w s' w'):tq pp h kb s w s' w':=
 ⟨⟨k.keep.os,k.keep.tape,k.keep.output,k.keep.size,λb hb hn=>k.keep.block b hb (λh=>hn (.inl h))⟩,k.own,k.lists,k.more⟩
theorem tq.len(k:tq pp h kb s w s' w'):s.D.length<=s'.D.length:=by
 obtain⟨E,e⟩:=k.more;rw[e,aK];omega
def Aside(pp h kb:Nat)(s:iH)(w:World)(b:Nat):Prop:=b<w.heap.size/\¬jN pp h s b/\¬s.S b/\b≠kb
theorem Aside.go(a:Aside pp h kb s w b)(k:tq pp h kb s w s' w'):Aside pp h kb s' w' b/\w'.heap[b]?=w.heap[b]?:=by
 have hz:=k.keep.size;obtain⟨a1,a2,a3,a4⟩:=a;refine⟨⟨by omega,λh1=>?_,λh1=>?_,a4⟩,k.keep.block b a1 (λh1=>?_)⟩
 .rcases k.own b h1 with h|h
  .exact a2 h
  .omega
 .rcases k.lists b h1 with h|h
  .exact a3 h
  .omega
 .rcases h1 with h|h
  .exact a2 h
  .exact a4 h
theorem Ep.aside{V:Sv}(k:Ep V q w0 w pp h kb s fk)(h1:w.heap.size<=b)(h2:b<w'.heap.size):Aside pp h kb s w' b:=by
 have hM:=k.kn;refine⟨h2,λh=>?_,λh=>?_,λh=>?_⟩
 .have:=k.pool.JH h;omega
 .have:=k.pool.yA h;omega
 .have:=hM.lt;omega
theorem Ep.ext'{V:Sv}(k:Ep V q w0 w pp h kb s fk)(hx:Ext w w'):Ep V q w0 w' pp h kb s fk:=
 ⟨k.pool.ext hx,k.all,k.kn.keep (hx.block _ k.kn.lt),k.known,k.small,k.kb1,k.XG,k.kb0,k.base,ax k.ext hx⟩
theorem Ep.side{V:Sv}{G:Nat->Prop}(k:Ep V q w0 w pp h kb s fk)(hk:dX G w w')(hG:∀b,G b->Aside pp h kb s w b)(hb:∀b,G b->w0.heap.size<=b):Ep V q w0 w' pp h kb s fk:=
 ⟨k.pool.keep hk (λb h1 h2=>(hG b h2).2.1 h1) (λb h1 h2=>(hG b h2).2.2.1 h1),k.all,k.kn.keep (hk.block _ k.kn.lt (λh=>(hG _ h).2.2.2 rfl)),k.known,k.small,k.kb1,k.XG,k.kb0,k.base,kK k.ext hk hb⟩
theorem ry.more{V:Sv}(h:ry V D fk)(g:bO.WF D)(g':bO.WF (D++E)):ry V (D++E) fk:=by
 intro key v hv;obtain⟨n,x,sb,i,h1,h2,h3,h4,h5,h6⟩:=h key v hv;refine⟨n,x,sb,i,h1,h2,h3,by rw[aK];omega,?_,?_⟩
 .rw[bO.ik g g' i h4];exact h5
 .rw[bO.ik g g' i h4];exact h6
theorem ry.add{V:Sv}(h:ry V D fk)(ht:V.T n x sb)(hi:i<D.length)(hc:Canon (vl D i))(he:iO (vl D i) x):ry V D (upd (λ_ _=>Classical.propDecidable _) fk (.string sb) (.int .i64 ((i:Nat):Int))):=by
 intro key v hv;rcases wK hv with⟨rfl,rfl⟩|hv
 .exact⟨n,x,sb,i,rfl,ht,rfl,hi,hc,he⟩
 .exact h key v hv
def NY(V:Sv)(D:dH)(ss:List ByteArray)(l:List Nat):Prop:=∀j (h:j<l.length),∃sb,ss[j]?=some sb/\l[j]<D.length/\∀m x,V.T m x sb->iO (vl D l[j]) x
theorem NY.nil(V:Sv)(D:dH)(ss:List ByteArray):NY V D ss []:=λj h=>absurd h (by simp)
theorem NY.more{V:Sv}(h:NY V D ss l)(g:bO.WF D)(g':bO.WF (D++E)):NY V (D++E) ss l:=λj hj=>by
 obtain⟨e,h1,h2,h3⟩:=h j hj;exact⟨e,h1,by rw[aK];omega,λm x hT=>by rw[bO.ik g g' _ h2];exact h3 m x hT⟩
theorem NY.add{V:Sv}(hV:V.Ok)(h:NY V D ss l)(he:ss[l.length]?=some sb)(hT:V.T n x sb)(hi:i<D.length)(hv:iO (vl D i) x):NY V D ss (l++[i]):=λj hj=>by
 by_cases c:j<l.length
 .rw[dw c];exact h j c
 .have hj':j=l.length:=by simp at hj;omega
  subst hj';simp only[dU (ay _),Nat.sub_self,List.getElem_cons_zero];exact⟨sb,he,hi,λm y hy=>hv.trans (hV.one hT hy).2⟩
theorem NY.lt{V:Sv}(h:NY V D ss l):∀x,x∈l->x<D.length:=λx hx=>by
 obtain⟨j,hj,rfl⟩:=aW.1 hx;obtain⟨e,_,h2,_⟩:=h j hj;exact h2
def Side(V:Sv)(D:dH)(n:Nat)(opts:List Gm)(l:List Nat):Prop:=∃ss,Bh V n opts ss/\NY V D ss l/\l.length=ss.length/\ss.length<=1000
theorem Side.more{V:Sv}{D E:dH}{n:Nat}{opts:List Gm}{l:List Nat}(h:Side V D n opts l)(g:bO.WF D)(g':bO.WF (D++E)):Side V (D++E) n opts l:=by
 obtain⟨ss,h1,h2,h3,h4⟩:=h;exact⟨ss,h1,h2.more g g',h3,h4⟩
theorem Side.lt{V:Sv}{D:dH}{n:Nat}{opts:List Gm}{l:List Nat}(h:Side V D n opts l):(∀x,x∈l->x<D.length)/\l.length<=1000:=by
 obtain⟨ss,h1,h2,h3,h4⟩:=h;exact⟨h2.lt,by omega⟩
theorem P8{V:Sv}{D':dH}(hw:bO.WF D)(hw':bO.WF D')(hl:Side V D n g.l l)(hr:Side V D n g.r r)(p:jm D l r D' i):iO (vl D' i) g:=by
 obtain⟨p1,p2⟩:=p;have hE:∃E,D'=D++E:=by
  rcases p2 with e|e
  .exact⟨[],by rw[e];simp⟩
  .exact⟨_,e⟩
 obtain⟨E,rfl⟩:=hE;have hl:=hl.more hw hw';have hr:=hr.more hw hw';have e:g=.mk g.l g.r:=by cases g;rfl
 rw[bO.nT hw' p1,e];have key:∀{opts:List Gm} {q:List Nat},Side V (D++E) n opts q->(∀x,x∈(bQ q).map (vl (D++E))->∃y,y∈opts/\iO x y)/\(∀y,y∈opts->∃x,x∈(bQ q).map (vl (D++E))/\iO x y):=by
  rintro opts q ⟨ss,hc,hk,hn,-⟩;refine⟨λx hx=>?_,λy hy=>?_⟩
  .obtain⟨a,ha,rfl⟩:=aH.1 hx
   obtain⟨j,hj,rfl⟩:=aW.1 (bZ.1 ha);obtain⟨sb,h1,h2,h3⟩:=hk j hj;obtain⟨m,x,_,hx,hT⟩:=hc.1 j (by omega);rw[aa (by omega)]at h1;injection h1 with h1;exact⟨x,hx,h3 m x (by rw[<-h1];exact hT)⟩
  .obtain⟨j,hj,m,hT⟩:=hc.2 y hy
   obtain⟨sb,h1,h2,h3⟩:=hk j (by omega);rw[aa hj]at h1;injection h1 with h1;exact⟨_,aH.2 ⟨_,bZ.2 (ai (by omega)),rfl⟩,h3 m y (by rw[<-h1];exact hT)⟩
 exact Uf (key hl).1 (key hl).2 (key hr).1 (key hr).2
theorem JM{N:Nat}{cn:Nat->Option Nat}(h:∀x,x<N->x≠f->(cn x).isSome):miss N cn<=1:=by
 unfold miss;have key:∀l:List Nat,l.Nodup->(∀x,x∈l->x<N)->(l.filter λx=>(cn x).isNone).length<=1:=by
  intro l hn hl;have hs:∀x,x∈l.filter (λx=>(cn x).isNone)->x=f:=λx hx=>by
   obtain⟨h1,h2⟩:=fU.1 hx;by_cases c:x=f
   .exact c
   .have:=h x (hl x h1) c
    cases e:cn x with
    |none=>rw[e]at this;cases this
    |some j=>simp[e]at h2
  have hd:(l.filter λx=>(cn x).isNone).Nodup:=hn.sublist List.filter_sublist
  match hq:l.filter (λx=>(cn x).isNone)with
  |[]=>simp
  |[a]=>simp
  |a :: b :: t=>
   rw[hq]at hs hd;have h1:=hs a (by simp);have h2:=hs b (by simp);rw[h1,h2]at hd;simp at hd
 exact key _ List.nodup_range (λx hx=>dM.1 hx)
theorem step_done{V:Sv}{w2:World}{s2:iH}{j:Nat}(K:Ep V 0 w0 w pp h kb s fk)(k1:jK pp h s w s1 w1)(p:jm s.D l r s1.D f)(hc:s1.cn=s.cn)(k2:jK pp h s1 w1 s2 w2)(hj:s2.cn f=some j)(G:Grow s1 f s2):
 Ep V 2 w0 w2 pp h kb s2 fk/\tq pp h kb s w s2 w2/\s2.D.length<=s.D.length+2/\j<s2.D.length/\Canon (vl s2.D j)/\iO (vl s2.D j) (vl s1.D f):=by
 have k:=k1.trans k2;have hl1:s1.D.length<=s.D.length+1:=by
  rcases p.2 with e|e
  .rw[e];omega
  .rw[e];simp
 have hf:f<s1.D.length:=by
  rcases fI f s1.D.length with h|h
  .exact h
  .have:=p.1;rw[ek h]at this;cases this
 have hk1:∀x,x<s1.D.length->x≠f->(s1.cn x).isSome:=by
  intro x hx hxf;rw[hc];by_cases c:x<s.D.length
  .exact K.all x c
  .exfalso
   rcases p.2 with e|e
   .rw[e]at hx;omega
   .have hxe:x=s.D.length:=by rw[e]at hx;simp at hx;omega
    have h1:s1.D[x]?=some (bQ l,bQ r):=(by rw[e,hxe,dW (ay _)];simp);exact hxf ((List.getElem?_inj hx k1.pool.good.nodup).1 (h1.trans p.1.symm))
 have hm:=JM hk1;have hg:=G.1 s1.D.length hf (ay _);obtain⟨c1,c2,-⟩:=k2.pool.vY.ok f j hj;have hjl:=(k2.pool.vY.lt f j hj).2;have hM:=K.kn;have hO:=K.known;have hs0:=K.small;have hkl:=hM.lt;obtain⟨E,hE⟩:=k.more;have hw2:=k.pool.good.wf;have hO2:ry V s2.D fk:=by rw[hE]at hw2 ⊢;exact hO.more K.pool.good.wf hw2
 refine⟨⟨k.pool,λx hx=>?_,hM.keep (k.keep.block _ hkl K.kb1),hO2,by omega,λh1=>?_,λh1=>?_,K.kb0,λb hb=>?_,kK K.ext k.keep K.base⟩,tq.pool k,by omega,hjl,c1,?_⟩
 .by_cases c:x<s1.D.length
  .by_cases e:x=f
   .rw[e,hj];rfl
   .have:=hk1 x c e
    cases e2:s1.cn x with
    |none=>rw[e2]at this;cases this
    |some y=>rw[k2.known x y e2];rfl
  .exact G.2.2 x (by omega) hx
 .rcases k.own kb h1 with h|h
  .exact K.kb1 h
  .omega
 .rcases k.lists kb h1 with h|h
  .exact K.XG h
  .omega
 .rcases k.own b hb with h|h
  .exact K.base b h
  .have:=K.ext.size;omega
 .rw[k2.vl k1.pool.good.wf hf]at c2;exact c2
theorem Ep.learn{V:Sv}(hV:V.Ok)(k:Ep V 2 w0 w pp h kb s fk)
 (hM:gz prog 9 w' kb (kc V fk+1) (upd (λ_ _=>Classical.propDecidable _) fk (.string sb) (.int .i64 ((i:Nat):Int)))) (hg:w.grownBy w' (some kb))
 (hT:V.T n g sb) (hn:fk (.string sb)=none) (hi:i<s.D.length) (hc:Canon (vl s.D i)) (he:iO (vl s.D i) g):Ep V 0 w0 w' pp h kb s (upd (λ_ _=>Classical.propDecidable _) fk (.string sb) (.int .i64 ((i:Nat):Int))):=by
 have hk:=gJ hg;have hq:=abI (v:=.int .i64 ((i:Nat):Int)) (hV.mem hT) hn;have hs:=k.small;exact⟨k.pool.keep hk (λb h1 h2=>k.kb1 (by subst h2;exact h1)) (λb h1 h2=>k.XG (by subst h2;exact h1)),k.all,hM.mono hq,k.known.add hT hi hc he,by omega,k.kb1,k.XG,k.kb0,k.base,kK k.ext hk (λb hb=>by subst hb;exact k.kb0)⟩
theorem tq.learn{w3:World}(k:tq pp h kb s w s1 w1)(hg:w1.grownBy w3 (some kb)):tq pp h kb s w s1 w3:=
 ⟨k.keep.trans (gJ hg) (λx _ hx=>.inr hx),k.own,k.lists,k.more⟩
theorem uA.learn{V:Sv}{IZ:Value->Option Value}(h:uA V n fk IZ)(hT:V.T n g sb):uA V (n+1) fk (upd (λ_ _=>Classical.propDecidable _) IZ (.string sb) v):=λkey hk=>by
 by_cases c:key=.string sb
 .exact .inr ⟨n,g,sb,c,hT,by omega⟩
 .rw[upd_ne c]at hk
  rcases h key hk with e|⟨q,x,sb',e1,e2,e3⟩
  .exact .inl e
  .exact .inr ⟨q,x,sb',e1,e2,by omega⟩
end
section
open Go.RowKit
open bO (dH Nd vl Gm Canon iO)
theorem tq.side{pp h kb:Nat}{s s1:iH}{w w1 w3:World}{G:Nat->Prop}(k:tq pp h kb s w s1 w1)(hk:dX G w1 w3)(hG:∀b,G b->w.heap.size<=b):tq pp h kb s w s1 w3:=
 ⟨k.keep.trans (G:=G) (F:=λb=>jN pp h s b\/b=kb) hk (λx hx hg=>by have:=hG x hg;omega),k.own,k.lists,k.more⟩
structure GM(w wr:World)(pp h kb:Nat)(s:iH)(ab:Nat)(v0 v1:Value)(l0 l1:List Nat)(X:Nat->Prop):Prop where
 arr:wr.heap[ab]?=some (.cells #[v0,v1] 177 (0,0))
 r0:wr.ownsRow w.heap.size 3 1 v0 l0.length ((dD l0).map (Value.int .i64))
 r1:wr.ownsRow w.heap.size 3 1 v1 l1.length ((dD l1).map (Value.int .i64))
 a0:∀b,v0.ownBlock=some b->Aside pp h kb s wr b/\b≠ab
 a1:∀b,v1.ownBlock=some b->Aside pp h kb s wr b/\b≠ab
 a01:∀b,v0.ownBlock=some b->v1.ownBlock≠some b
 WQ:Aside pp h kb s wr ab
 ZR:w.heap.size<=ab
 qM:∀b,X b->Aside pp h kb s wr b/\v0.ownBlock≠some b/\v1.ownBlock≠some b/\b≠ab
section
variable {V:Sv} {q:Nat} {w0 w wr w2 w3 wa:World} {pp h kb ab:Nat} {s s':iH} {fk:Value->Option Value} {v0 v1 v':Value} {l0 l1:List Nat} {X Y:Nat->Prop}
variable {i n:Nat} {ys:List Value}
theorem GM.go(g:GM w wr pp h kb s ab v0 v1 l0 l1 X)(k:tq pp h kb s wr s' w2):GM w w2 pp h kb s' ab v0 v1 l0 l1 X/\(∀b,X b->w2.heap[b]?=wr.heap[b]?):=by
 have hG:∀b,Aside pp h kb s wr b->¬(jN pp h s b\/b=kb):=λb a h1=>by
  rcases h1 with h1|h1
  .exact a.2.1 h1
  .exact a.2.2.2 h1
 refine⟨⟨((g.WQ.go k).2).trans g.arr,bI g.r0 k.keep (λb hb=>hG b (g.a0 b hb).1),bI g.r1 k.keep (λb hb=>hG b (g.a1 b hb).1),λb hb=>⟨((g.a0 b hb).1.go k).1,(g.a0 b hb).2⟩,λb hb=>⟨((g.a1 b hb).1.go k).1,(g.a1 b hb).2⟩,g.a01,(g.WQ.go k).1,g.ZR,λb hb=>⟨((g.qM b hb).1.go k).1,(g.qM b hb).2⟩⟩,λb hb=>((g.qM b hb).1.go k).2⟩
theorem GM.mono(g:GM w wr pp h kb s ab v0 v1 l0 l1 X)(hX:∀b,Y b->X b):GM w wr pp h kb s ab v0 v1 l0 l1 Y:=
 ⟨g.arr,g.r0,g.r1,g.a0,g.a1,g.a01,g.WQ,g.ZR,λb hb=>g.qM b (hX b hb)⟩
theorem GM.agZ(g:GM w wr pp h kb s ab v0 v1 l0 l1 X)(K:Ep V q w0 wr pp h kb s fk)(hx:Ext wr w2)(hY:∀b,Y b->X b\/(wr.heap.size<=b/\b<w2.heap.size)):GM w w2 pp h kb s ab v0 v1 l0 l1 Y:=by
 obtain⟨g2,-⟩:=g.go (tq.ext hx);refine⟨g2.arr,g2.r0,g2.r1,g2.a0,g2.a1,g2.a01,g2.WQ,g2.ZR,λb hb=>?_⟩;rcases hY b hb with h1|⟨h1,h2⟩
 .exact g2.qM b h1
 .refine⟨K.aside h1 h2,λe=>?_,λe=>?_,λe=>?_⟩
  .have:=(g.a0 b e).1.1;omega
  .have:=(g.a1 b e).1.1;omega
  .have:=g.WQ.1;omega
theorem GM.aiC(g:GM w wr pp h kb s ab v0 v1 l0 l1 X)(hx:Ext wr wa)(hz:wr.heap.size<=wa.heap.size)(K:Ep V q w0 wr pp h kb s fk)(hg:wa.grownBy w2 v0.ownBlock)(ho:w2.ownsRow w.heap.size 3 1 v' n ys)(hn:n=(l0++[i]).length)(hy:ys=(dD (l0++[i])).map (Value.int .i64))(hl:kR wa v0 v'):
 GM w (w2.setCell ⟨ab,0,none⟩ v') pp h kb s ab v' v1 (l0++[i]) l1 X/\dX (λb=>v0.ownBlock=some b\/b=ab) wr (w2.setCell ⟨ab,0,none⟩ v')/\(∀b,X b->(w2.setCell ⟨ab,0,none⟩ v').heap[b]?=wr.heap[b]?)/\w2.cell? ⟨ab,0,none⟩=some v0/\w2.frozen? ⟨ab,0,none⟩=false:=by
 have hkg:=fH hg;have hk1:dX (λb=>v0.ownBlock=some b\/b=ab) wr w2:=(fq hx).trans hkg (λx _ h=>.inl h);have hks:dX (λb=>v0.ownBlock=some b\/b=ab) w2 (w2.setCell ⟨ab,0,none⟩ v'):=by
  have:=dV (w:=w2) (p:=⟨ab,0,none⟩) (v:=v');exact⟨this.os,this.tape,this.output,this.size,λb hb hn=>this.block b hb (λh=>hn (.inr h))⟩
 have hk:=hk1.trans hks (λx _ h=>h);have hxz:=hkg.size;have hab:=g.WQ.1;have harr:w2.heap[ab]?=some (.cells #[v0,v1] 177 (0,0)):=(hkg.block ab (by omega) (λe=>(g.a0 ab e).2 rfl)).trans ((hx.block ab hab).trans g.arr);have hL:∀b,v'.ownBlock=some b->v0.ownBlock=some b\/wr.heap.size<=b:=λb hb=>by
  rcases hl with e|⟨c,e,k⟩
  .exact .inl (e ▸ hb)
  .rw[e]at hb;injection hb with hb;exact .inr (by omega)
 have hup:∀b,Aside pp h kb s wr b->Aside pp h kb s (w2.setCell ⟨ab,0,none⟩ v') b:=λb a=>⟨bz a.1 hk.size,a.2⟩
 have hv':∀b,v'.ownBlock=some b->Aside pp h kb s (w2.setCell ⟨ab,0,none⟩ v') b/\b≠ab:=λb hb=>by
  rcases hL b hb with e|e
  .exact⟨hup b (g.a0 b e).1,(g.a0 b e).2⟩
  .exact⟨K.aside e (bz (ho.lt b hb).2 hks.size),by omega⟩
 subst hn hy;have Vx:∀b,v'.ownBlock=some b->¬b=ab:=λb hb=>(hv' b hb).2
 refine⟨⟨?_,bI ho (dV (p:=⟨ab,0,none⟩)) Vx,bI g.r1 hk (λb hb e=>?_),hv',λb hb=>⟨hup b (g.a1 b hb).1,(g.a1 b hb).2⟩,λb hb e=>?_,hup ab g.WQ,g.ZR,λb hb=>⟨hup b (g.qM b hb).1,λe=>?_,(g.qM b hb).2.2⟩⟩,hk,λb hb=>hk.block b (g.qM b hb).1.1 (λe=>?_),cell_of_row w2 ab 0 _ _ _ harr,frozen_of_row w2 ab 0 _ _ harr⟩
 .have:=heap_setCell_same w2 ab 0 _ _ v' harr;exact this
 .rcases e with e|e
  .exact g.a01 b e hb
  .exact(g.a1 b hb).2 e
 .rcases hL b hb with h1|h1
  .exact g.a01 b h1 e
  .have:=(g.a1 b e).1.1;omega
 .rcases hL b e with h1|h1
  .exact(g.qM b hb).2.1 h1
  .have:=(g.qM b hb).1.1;omega
 .rcases e with e|e
  .exact(g.qM b hb).2.1 e
  .exact(g.qM b hb).2.2.2 e
theorem GM.aiB(g:GM w wr pp h kb s ab v0 v1 l0 l1 X)(hx:Ext wr wa)(hz:wr.heap.size<=wa.heap.size)(K:Ep V q w0 wr pp h kb s fk)(hg:wa.grownBy w2 v1.ownBlock)(ho:w2.ownsRow w.heap.size 3 1 v' n ys)(hn:n=(l1++[i]).length)(hy:ys=(dD (l1++[i])).map (Value.int .i64))(hl:kR wa v1 v'):
 GM w (w2.setCell ⟨ab,1,none⟩ v') pp h kb s ab v0 v' l0 (l1++[i]) X/\dX (λb=>v1.ownBlock=some b\/b=ab) wr (w2.setCell ⟨ab,1,none⟩ v')/\(∀b,X b->(w2.setCell ⟨ab,1,none⟩ v').heap[b]?=wr.heap[b]?)/\w2.cell? ⟨ab,1,none⟩=some v1/\w2.frozen? ⟨ab,1,none⟩=false:=by
 have hkg:=fH hg;have hk1:dX (λb=>v1.ownBlock=some b\/b=ab) wr w2:=(fq hx).trans hkg (λx _ h=>.inl h);have hks:dX (λb=>v1.ownBlock=some b\/b=ab) w2 (w2.setCell ⟨ab,1,none⟩ v'):=by
  have:=dV (w:=w2) (p:=⟨ab,1,none⟩) (v:=v');exact⟨this.os,this.tape,this.output,this.size,λb hb hn=>this.block b hb (λh=>hn (.inr h))⟩
 have hk:=hk1.trans hks (λx _ h=>h);have hxz:=hkg.size;have hab:=g.WQ.1;have harr:w2.heap[ab]?=some (.cells #[v0,v1] 177 (0,0)):=(hkg.block ab (by omega) (λe=>(g.a1 ab e).2 rfl)).trans ((hx.block ab hab).trans g.arr);have hL:∀b,v'.ownBlock=some b->v1.ownBlock=some b\/wr.heap.size<=b:=λb hb=>by
  rcases hl with e|⟨c,e,k⟩
  .exact .inl (e ▸ hb)
  .rw[e]at hb;injection hb with hb;exact .inr (by omega)
 have hup:∀b,Aside pp h kb s wr b->Aside pp h kb s (w2.setCell ⟨ab,1,none⟩ v') b:=λb a=>⟨bz a.1 hk.size,a.2⟩
 have hv':∀b,v'.ownBlock=some b->Aside pp h kb s (w2.setCell ⟨ab,1,none⟩ v') b/\b≠ab:=λb hb=>by
  rcases hL b hb with e|e
  .exact⟨hup b (g.a1 b e).1,(g.a1 b e).2⟩
  .exact⟨K.aside e (bz (ho.lt b hb).2 hks.size),by omega⟩
 subst hn hy;have Vx:∀b,v'.ownBlock=some b->¬b=ab:=λb hb=>(hv' b hb).2
 refine⟨⟨?_,bI g.r0 hk (λb hb e=>?_),bI ho (dV (p:=⟨ab,1,none⟩)) Vx,λb hb=>⟨hup b (g.a0 b hb).1,(g.a0 b hb).2⟩,hv',λb hb e=>?_,hup ab g.WQ,g.ZR,λb hb=>⟨hup b (g.qM b hb).1,(g.qM b hb).2.1,λe=>?_,(g.qM b hb).2.2.2⟩⟩,hk,λb hb=>hk.block b (g.qM b hb).1.1 (λe=>?_),cell_of_row w2 ab 1 _ _ _ harr,frozen_of_row w2 ab 1 _ _ harr⟩
 .have:=heap_setCell_same w2 ab 1 _ _ v' harr;exact this
 .rcases e with e|e
  .exact g.a01 b hb e
  .exact(g.a0 b hb).2 e
 .rcases hL b e with h1|h1
  .exact g.a01 b hb h1
  .have:=(g.a0 b hb).1.1;omega
 .rcases hL b e with h1|h1
  .exact(g.qM b hb).2.2.1 h1
  .have:=(g.qM b hb).1.1;omega
 .rcases e with e|e
  .exact(g.qM b hb).2.2.1 e
  .exact(g.qM b hb).2.2.2 e
end
end
end Go.Proofs.YteknjeohbcgpdaaGreatDoor