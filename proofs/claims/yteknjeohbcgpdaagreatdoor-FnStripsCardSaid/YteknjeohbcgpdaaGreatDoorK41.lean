/-
  The solver's own memory: the two lists, the block that holds them. (3 texts.)
-/
import Derived.Test.YteknjeohbcgpdaaGreatDoorK38
import Derived.Test.YteknjeohbcgpdaaGreatDoorK40
set_option maxRecDepth 100000
namespace Go.Proofs.YteknjeohbcgpdaaGreatDoor
open Tryz
section
open Go.RowKit
open bz (dC Nd vl fq eu Same)
variable {w:World} {D:dC} {at_:List Nat} {root:Nat}
theorem kD.one(w:World)(i:Nat)(t:TypeId):kD (λb=>b=w.heap.size) (w.alloc (.cells #[.int .i64 (i:Int)] t)) (.slice (some ⟨w.heap.size,0,none⟩) 1 1) [i]:=by
 have hc:=bP w (.int .i64 (i:Int)) t;refine⟨λb hb=>by subst hb;rw[fw];omega,λw' h=>?_⟩;have hb:=World.cell?_of_block (a:=⟨w.heap.size,0,none⟩) (h _ rfl);refine⟨_,1,rfl,by simp[dx],by simp[dx],λ_=>⟨w.heap.size,0,rfl,λj hj=>?_⟩⟩;have hj0:j=0:=by simp[dx]at hj;omega
 subst hj0;rw[hb,hc];simp[dx,jv]
def Ow(G:List En)(j:Nat):Value:=((G.flatMap En.two)[j]?).getD undef
theorem NQ:∀(G:List En) (j:Nat) (hj:j<G.length) (t:Nat),t<2->(G.flatMap En.two)[j*2+t]?=(G[j].two)[t]?
 |[],j,hj,_,_=>by simp at hj
 |x :: G,0,_,t,ht=>by
  rw[gV,dN (by simp[En.two];omega)];simp
 |x :: G,j+1,hj,t,ht=>by
  rw[gV,dV (by simp[En.two];omega)];have e:(j+1)*2+t-x.two.length=j*2+t:=by simp[En.two];omega
  rw[e,NQ G j (by simpa using hj) t ht];simp
theorem Ir(G:List En)(j:Nat)(hj:j<2*G.length):∃e,e∈G/\∃h:j / 2<G.length,e=G[j / 2]/\(G.flatMap En.two)[j]?=some (Ow G j)/\Ow G j=if j % 2=0 then e.lv else e.rv:=by
 have h:j / 2<G.length:=by omega
 refine⟨G[j / 2],ah h,h,rfl,?_⟩;have h1:=NQ G (j / 2) h (j % 2) (by omega);have e:j / 2*2+j % 2=j:=by omega
 rw[e]at h1;have h2:(G[j / 2].two)[j % 2]?=some (if j % 2=0 then G[j / 2].lv else G[j / 2].rv):=by
  by_cases c:j % 2=0
  .rw[c];rfl
  .have c1:j % 2=1:=by omega
   rw[c1];rfl
 rw[h2]at h1;unfold Ow;rw[h1];exact⟨rfl,rfl⟩
theorem OM.form{w1 wr:World}{lb lc rb mr:Nat}{nv gv:Value}{Lc:List Nat}{fm:Value->Option Value}{nodes:List En}(m:OM w1 wr lb lc rb nv gv Lc mr fm nodes [] nodes)(hx:Ext w w1):FO wr w.heap.size nv (nodes.map En.nd).length (Ow nodes) (o9 (nodes.map En.nd)):=by
 have hz:=hx.size;rw[aJ];have hown:∀j,j<2*nodes.length->wr.ownsRow w.heap.size 3 1 (Ow nodes j) (o9 (nodes.map En.nd) j).length ((o9 (nodes.map En.nd) j).map (Value.int .i64)):=by
  intro j hj;obtain⟨e,he,h,e1,-,e2⟩:=Ir nodes j hj;have ha:=m.tC e he;have hd:(nodes.map En.nd).getD (j / 2) ([],[])=e.nd:=by rw[aV,dB,aa h,e1];rfl
  rw[e2];unfold o9;rw[hd];by_cases c:j % 2=0
  .simp only[c,if_true]
   have:=jX ha.1 hz;rw[bu];exact this
  .simp only[c,if_false]
   have:=jX ha.2.1 hz;rw[bu];exact this
 refine⟨⟨nodes.flatMap En.two,jX m.node hz,λj hj=>?_⟩,hown,λi j hi hj hne b hb hc=>?_,λj hj b hb hc=>?_⟩
 .obtain⟨e,he,h,e1,e2,e3⟩:=Ir nodes j hj;exact e2
 .obtain⟨e,he,h,e1,-,e2⟩:=Ir nodes i hi
  obtain⟨e',he',h',ZR,-,e2'⟩:=Ir nodes j hj;rw[e2]at hb;rw[e2']at hc;have hbe:e.blk b:=by
   by_cases c:i % 2=0
   .rw[if_pos c]at hb;exact .inl hb
   .rw[if_neg c]at hb;exact .inr hb
  have acr:e'.blk b:=by
   by_cases c:j % 2=0
   .rw[if_pos c]at hc;exact .inl hc
   .rw[if_neg c]at hc;exact .inr hc
  by_cases hij:i / 2=j / 2
  .have Wh:e=e':=by
    rw[e1,ZR];congr 1
   subst Wh;have hs:=m.self e he;by_cases c:i % 2=0
   .have c':¬j % 2=0:=by omega
    rw[if_pos c]at hb;rw[if_neg c']at hc;exact hs b hb hc
   .have c':j % 2=0:=by omega
    rw[if_neg c]at hb;rw[if_pos c']at hc;exact hs b hc hb
  .rcases Nat.lt_or_gt_of_ne hij with hl|hl
   .have:=dh.1 m.apart (i / 2) (j / 2) h h' hl
    rw[<-e1,<-ZR]at this;exact this b hbe acr
   .have:=dh.1 m.apart (j / 2) (i / 2) h' h hl
    rw[<-e1,<-ZR]at this;exact this b acr hbe
 .obtain⟨e,he,h,e1,-,e2⟩:=Ir nodes j hj
  have hbe:e.blk b:=by
   rw[e2]at hb;by_cases c:j % 2=0
   .rw[if_pos c]at hb;exact .inl hb
   .rw[if_neg c]at hb;exact .inr hb
  exact(m.far e he b hbe).2.2.1 hc
theorem FO.lower{B B':Nat}{v:Value}{n:Nat}{sl:Nat->Value}{ls:Nat->List Int}(h:FO w B v n sl ls)(hB:B'<=B):FO w B' v n sl ls:=by
 obtain⟨xs,h1,h2⟩:=h.row;exact⟨⟨xs,jX h1 hB,h2⟩,λj hj=>jX (h.own j hj) hB,h.ap,h.ap0⟩
theorem FO.none(w:World)(sl:Nat->Value)(ls:Nat->List Int)(B:Nat):FO w B (.slice none 0 0) 0 sl ls:=
 ⟨⟨[],⟨by simp,.inl ⟨rfl,rfl⟩⟩,λj hj=>absurd hj (by omega)⟩,λj hj=>absurd hj (by omega),λi j hi=>absurd hi (by omega),λj hj=>absurd hj (by omega)⟩
def U3(s:iQ)(root:Nat)(w:World)(e:Ending)(w':World):Prop:=
 ∃F vN Fr ok sl,e=.returned (.tuple #[.agg #[vN],.bool ok])/\fq F/\Same (eu F) (vl s.D root)/\ok=gQ F/\Fr=(if ok then F else [])/\FO w' w.heap.size vN Fr.length sl (o9 Fr)/\Ext w w'
theorem Q4{A B:List Nat}(ha:A.Nodup)(hb:B.Nodup)(h:∀x,x∈A↔x∈B):A.length=B.length:=by
 have p:A.Perm B:=by
  rw[List.perm_ext_iff_of_nodup ha hb];exact h
 exact p.length_eq
theorem JF(P:Nat->Prop):∀rest:List Nat,∃q,q<=rest.length/\(∀j (hj:j<rest.length),j<q->P rest[j])/\(∀hl:q<rest.length,¬P rest[q])
 |[]=>⟨0,ai _,λj hj=>absurd hj (by simp),λh=>absurd h (by simp)⟩
 |x :: rest=>by
  by_cases c:P x
  .obtain⟨q,h1,h2,h3⟩:=JF P rest
   refine⟨q+1,by simp;omega,λj hj hq=>?_,λhl=>?_⟩
   .cases j with
    |zero=>exact c
    |succ j=>exact h2 j (by simpa using hj) (by omega)
   .exact h3 (by simpa using hl)
  .exact⟨0,az _,λj _ h=>absurd h (by omega),λ_=>c⟩
def U8(D:dC)(at_:List Nat)(x y:Nat):Bool:=decide (bz.nc (Xn D at_ x) (Xn D at_ y)<=0)
theorem le_total(x y:Nat):(U8 D at_ x y || U8 D at_ y x)=true:=by
 unfold U8;have:=bz.zN (Xn D at_ x) (Xn D at_ y);rw[Bool.or_eq_true,decide_eq_true_eq,decide_eq_true_eq];omega
theorem le_trans'(x y z:Nat)(h:U8 D at_ x y=true)(k:U8 D at_ y z=true):U8 D at_ x z=true:=by
 unfold U8 at *;rw[decide_eq_true_eq]at *;by_cases e:bz.nc (Xn D at_ x) (Xn D at_ y)=0
 .rw[bz.yG e];exact k
 .by_cases e2:bz.nc (Xn D at_ y) (Xn D at_ z)=0
  .rw[<-bz.yG e2];exact h
  .have:=bz.uE (a:=Xn D at_ x) (b:=Xn D at_ y) (c:=Xn D at_ z) (by omega) (by omega);omega
theorem TT(g:bz.Good D)(hr:root<D.length):∀(n:Nat) (F:dC) (idx at_:List Nat) (b:Nat) (rest:List Nat),rest.length<=n->oq D root F idx at_ b rest->∃F',fq F'/\Same (eu F') (vl D root)/\F'.length=(idx++rest).length:=by
 intro n
 induction n with
 |zero=>
  intro F idx at_ b rest hn h;have e:rest=[]:=fE (by omega);subst e;have h1:=h.last g hr;exact⟨F,h1.1,h1.2,by rw[bq];exact h.form.len.symm⟩
 |succ n ih=>
  intro F idx at_ b rest hn h;by_cases h0:0<rest.length
  .have hs:=h.stage h0
   obtain⟨q,q1,q2,q3⟩:=JF (λx=>bz.born (vl D x)=bz.born (vl D rest[0])) rest;have hq0:0<q:=by
    rcases kg q with e|e
    .subst e;exact absurd rfl (q3 h0)
    .exact e
   have hp:=List.mergeSort_perm (rest.take q) (U8 D at_);have hw:=List.pairwise_mergeSort (le:=U8 D at_) le_trans' le_total (rest.take q);have h2:=hs.next g hr q1 q2 q3 hp (hw.imp (λ{a c} hac=>by
    unfold U8 at hac;rw[decide_eq_true_eq]at hac;have:=bz.zN (Xn D at_ a) (Xn D at_ c);omega))
   obtain⟨F',f1,f2,f3⟩:=ih _ _ _ _ (rest.drop q) (by rw[mV];omega) h2.1;refine⟨F',f1,f2,?_⟩;rw[f3];have:=hp.length_eq;simp only[aj,mV,ek]at this ⊢;omega
  .exact ih F idx at_ b rest (by omega) h
theorem WM(g:bz.Good D)(hr:root<D.length){Ls:List Nat}(hn:Ls.Nodup)(hm:∀j,j∈Ls↔bz.Reach D root j):∃F,fq F/\Same (eu F) (vl D root)/\F.length=Ls.length:=by
 have hp:=List.mergeSort_perm Ls (λx y=>decide (bz.born (vl D x)<=bz.born (vl D y)));have hw:=List.pairwise_mergeSort (le:=λx y=>decide (bz.born (vl D x)<=bz.born (vl D y))) (λa b c h k=>by simp only[decide_eq_true_eq]at *;omega) (λa b=>by simp only[Bool.or_eq_true,decide_eq_true_eq];omega) Ls;have hS:=oq.start (D:=D) (root:=root) (hp.symm.nodup hn) (λj=>by rw[hp.mem_iff];exact hm j) (hw.imp (λ{a b} h=>by simpa using h));obtain⟨F,f1,f2,f3⟩:=TT g hr _ _ _ _ _ _ (ai _) hS;exact⟨F,f1,f2,by rw[f3];simp⟩
theorem PN{F:dC}(h:120<F.length):gQ F=false:=decide_eq_false (λk=>by omega)
set_option maxHeartbeats 4000000 in
theorem zI(pp h:Nat)(s:iQ)(root:Nat)(w:World)(hP:dm w pp h s)(hr:root<s.D.length):
 Calls prog 69 #[.pointer (some ⟨pp,0,none⟩),.int .i64 (root:Int)] w (U3 s root w):=by
 have hds:=hP.small;have hb1:(w.alloc (.cells #[.slice none 0 0] 28)).heap[w.heap.size]?=some (.cells #[.slice none 0 0] 28 (0,0)):=heap_alloc_new _ _;have hx1:Ext w (w.alloc (.cells #[.slice none 0 0] 28)):=by go_grown
 go_enter Tryz.func69,Tryz.ntmps69
 go_upto_region 1 with fail
 generalize w.alloc (.cells #[.slice none 0 0] 28)=W1 at *;have hx2:Ext W1 (W1.alloc (.cells #[.int .i64 (root:Int)] 3)):=by go_grown
 have hv1:=kD.one W1 root 3;have hE2:=ay hx1 hx2;generalize hf1:w.heap.size=f1 at *;have Pq:f1<W1.heap.size:=bG hb1;go_upto_region 2 with(go_at_call 117;refine(EM pp h s _ [root] _ _ (hP.ext hE2) (by simpa using hr) (by simp) hv1).mono ?_;rintro e w2 ⟨v2,Ls,rfl,ho2,LM,hm2,hx3⟩;obtain⟨a2,c2,rfl,-,-⟩:=bD ho2)
 .have xx:=ay hE2 hx3
  have hbf:=((ay hx2 hx3).block f1 Pq).trans hb1;have c0:=cell_of_row w2 f1 0 _ _ _ hbf;have q0:=frozen_of_row w2 f1 0 _ _ hbf;have hl:120<Ls.length:=by omega
  obtain⟨F,g1,g2,g3⟩:=WM hP.good hr LM (λj=>by rw[hm2];simp);have HF:=aH (And.intro g1 (And.intro g2 g3));have HH:=aH (heap_setCell_same w2 f1 0 _ _ (.slice none 0 0) hbf);clear hv1 hm2 g1 g2 g3;go_wp2
  (try simp only[Exit.inBlock,Exit.then]);refine bodyPost_ret (dY rfl _ _ f1 28 #[.slice none 0 0] (0,0) _ rfl HH.out underlying28 rfl (by kernel_rfl) rfl) rfl ?_;exact⟨F,_,[],false,λ_=>undef,rfl,HF.out.1,HF.out.2.1,(PN (by rw[HF.out.2.2];exact hl)).symm,rfl,FO.none _ _ _ _,xx.setCell (p:=⟨f1,0,none⟩) (by show w.heap.size<=f1;omega) _⟩
 .have hx4:Ext w2 (w2.alloc (.cells #[.int .i64 (root:Int)] 3)):=by go_grown
  have hv4:=kD.one w2 root 3;have xx:=ay hE2 hx3;have Ki:=ay xx hx4;refine(OU pp h s root _ _ _ (hP.ext Ki) hr hv4).mono ?_;rintro e w5 ⟨W5,lv,nv,lb,lc,rb,gv,Lc,mr,fm,nodes,rfl,hx5,hm,hF1,hF2,hnn,hmm⟩;have hx6:Ext W1 w5:=ay (ay hx2 (ay hx3 hx4)) (ay hx5 hm.ext);have Py:=ay hx1 hx6;have hE5:=ay Ki hx5;have afZ:f1<W5.heap.size:=aQ Pq (ay (ay hx2 (ay hx3 hx4)) hx5).size;have hnl:nodes.length=Ls.length:=by
   have:=Q4 hnn LM (λj=>by rw[hmm,hm2];simp);rw[aJ]at this;exact this
  have hn1:1<=nodes.length:=by
   have h1:root∈nodes.map En.id:=(hmm root).2 .here;have:=List.length_pos_of_mem h1;rw[aJ]at this;exact this
  have hlen:nodes.length<=120:=by omega
  clear hnl;obtain⟨g,cv,rfl,-,-,-⟩:=iB hm.node hn1;have HF:=aH (And.intro hF1 hF2);clear hv1 hv4 hm2 hmm hnn hF1 hF2 hx3 hx4 ho2 hx5 hE2 xx Ki hx2 LM;go_wp2
  go_loopw [9,26] (λ_ kk wr=>∃i,i<=nodes.length/\kk=.int .i64 ((i:Nat):Int)/\Ext w5 wr/\Hid (∀j (hj:j<nodes.length),j<i->nodes[j].l.length<=24/\nodes[j].r.length<=24)) (λ_ kk _=>nodes.length-(intOf kk).toNat)
  case atStart=>exact⟨0,az _,rfl,Below.refl _ _,aH (λj _ h=>absurd h (by omega))⟩
  case round=>
   obtain⟨i,hi,rfl,hx,HP⟩:=hrel;have hmr:=hm.ext' hx;have hbr:=(hx.block f1 (aQ Pq hx6.size)).trans ((hx6.block f1 Pq).trans hb1);have hEr:=ay Py hx;by_cases hlt:i<nodes.length
   .have h1:((i:Nat):Int)<(nodes.length:Int):=by omega
    have k0:wr.cell? ⟨g,i*2,none⟩=some nodes[i].lv:=by
     have:=hmr.node.cellAt (i*2) (by omega);rw[this];exact NQ nodes i hlt 0 (by omega)
    have k1:wr.cell? ⟨g,i*2+1,none⟩=some nodes[i].rv:=by
     have:=hmr.node.cellAt (i*2+1) (by omega);rw[this];exact NQ nodes i hlt 1 (by omega)
    have hen:=hmr.tC _ (ah hlt);obtain⟨b1,d1,e1,-,-⟩:=bD hen.1;obtain⟨b2,d2,e2,-,-⟩:=bD hen.2.1;rw[e1]at k0;rw[e2]at k1;obtain⟨nl,SH⟩:∃n,n=nodes[i].l.length:=⟨_,rfl⟩;obtain⟨nr,VZ⟩:∃n,n=nodes[i].r.length:=⟨_,rfl⟩;rw[<-SH]at k0;rw[<-VZ]at k1;have alv:nl<=1000000:=(by rw[SH];exact hen.2.2.2.2.1);have alu:nr<=1000000:=(by rw[VZ];exact hen.2.2.2.2.2);have HL:=aH (And.intro SH VZ);have HX:=aH hx;have c0:=cell_of_row wr f1 0 _ _ _ hbr;have q0:=frozen_of_row wr f1 0 _ _ hbr;clear hen e1 e2 SH VZ hmr hm hx;by_cases hb:nl<=24/\nr<=24
    .obtain⟨hbl,amh⟩:=hb
     have h2:¬((24:Int)<(nl:Int)):=(by omega);have h3:¬((24:Int)<(nr:Int)):=(by omega);go_wp2
     go_roundw
     case rel=>exact⟨i+1,by omega,by go_num,bK HX.out _,aH (λj hj hji=>by
      by_cases e:j=i
      .subst e;rw[<-HL.out.1,<-HL.out.2];omega
      .exact HP.out j hj (by omega))⟩
     case measure=>simp[intOf];omega
    .have Vf:gQ (nodes.map En.nd)=false:=decide_eq_false (λk=>by
      have h1:=k.2.2 i (by rw[aJ];exact hlt);rw[fA]at h1;have h2:nodes[i].nd=(nodes[i].l,nodes[i].r):=rfl;rw[h2,<-HL.out.1,<-HL.out.2]at h1;exact hb h1)
     have Xr:=aH Vf;have hbn:=(bK (Below.refl _ wr) (.cells #[.slice b1 nl d1,.slice b2 nr d2] 89)).block f1 (bG hbr);have hxn:Ext wr (wr.alloc (.cells #[.slice b1 nl d1,.slice b2 nr d2] 89)):=bK (Below.refl _ _) _;have hbw:=hbn.trans hbr;have HW:=aH (heap_setCell_same _ f1 0 _ _ (.slice none 0 0) hbw);have HEr:=aH ((ay hEr hxn).setCell (p:=⟨f1,0,none⟩) (by show w.heap.size<=f1;omega) (.slice none 0 0));have c0':=cell_of_row _ f1 0 _ _ _ hbw;have q0':=frozen_of_row _ f1 0 _ _ hbw;clear Vf hbn hbw c0 q0 hxn hEr;by_cases hl:24<nl
     .have h2:((24:Int)<(nl:Int)):=by omega
      clear hb;go_wp2
      (try simp only[Exit.inBlock,Exit.then]);refine bodyPost_ret (dY rfl _ _ f1 28 #[.slice none 0 0] (0,0) _ rfl HW.out underlying28 rfl (by kernel_rfl) rfl) rfl ?_;exact⟨_,_,[],false,λ_=>undef,rfl,HF.out.1,HF.out.2,Xr.out.symm,rfl,FO.none _ _ _ _,HEr.out⟩
     .have h2:¬((24:Int)<(nl:Int)):=by omega
      have h3:((24:Int)<(nr:Int)):=(by omega);clear hb;go_wp2
      (try simp only[Exit.inBlock,Exit.then]);refine bodyPost_ret (dY rfl _ _ f1 28 #[.slice none 0 0] (0,0) _ rfl HW.out underlying28 rfl (by kernel_rfl) rfl) rfl ?_;exact⟨_,_,[],false,λ_=>undef,rfl,HF.out.1,HF.out.2,Xr.out.symm,rfl,FO.none _ _ _ _,HEr.out⟩
   .have h1:¬(((i:Nat):Int)<(nodes.length:Int)):=by omega
    have Vf:gQ (nodes.map En.nd)=true:=decide_eq_true ⟨by rw[aJ];exact hn1,by rw[aJ];exact hlen,λj hj=>by
     rw[aJ]at hj;rw[fA];exact HP.out j hj (by omega)⟩
    have Xr:=aH Vf;have Dg:=hmr.form (Below.refl _ _);have c0:=cell_of_row wr f1 0 _ _ _ hbr;have q0:=frozen_of_row wr f1 0 _ _ hbr;have HW:=aH (heap_setCell_same _ f1 0 _ _ (.slice (some ⟨g,0,none⟩) nodes.length cv) hbr);have HEr:=aH (hEr.setCell (p:=⟨f1,0,none⟩) (by show w.heap.size<=f1;omega) (.slice (some ⟨g,0,none⟩) nodes.length cv));have HFO:=aH Dg;clear Vf Dg hmr hEr;go_wp2
    (try simp only[Exit.inBlock,Exit.then]);refine bodyPost_ret (dY rfl _ _ f1 28 #[.slice (some ⟨g,0,none⟩) nodes.length cv] (0,0) _ rfl HW.out underlying28 rfl (by kernel_rfl) rfl) rfl ?_;exact⟨nodes.map En.nd,_,nodes.map En.nd,true,Ow nodes,rfl,HF.out.1,HF.out.2,Xr.out.symm,rfl,(HFO.out.xm gI (λb hb=>by subst hb;exact afZ)).lower hE5.size,HEr.out⟩
end
section
open Go.RowKit
open bz (dC Nd vl Gm Canon iK)
variable {fk:Value->Option Value} {sb:ByteArray} {v:Value} {n b pp h kb q i f:Nat} {s s' s1:iQ} {w w' w0 w1:World} {D E:dC} {x g:Gm} {ss:List ByteArray} {l r:List Nat}
structure Sv where
 fn:FuncId
 env:Array Value
 T:Nat->Gm->ByteArray->Prop
 U:List ByteArray
 G:World->Prop
def Ao(V:Sv)(n:Nat)(opts:List Gm)(ss:List ByteArray):Prop:=
 (∀j (h:j<ss.length),∃m x,m<n/\x∈opts/\V.T m x ss[j])/\∀x,x∈opts->∃j,∃(h:j<ss.length),∃m,V.T m x ss[j]
def side(g:Gm)(left:Bool):List Gm:=if left then g.l else g.r
def Fj(V:Sv)(n:Nat)(g:Gm)(left:Bool)(w:World)(e:Ending)(w':World):Prop:=
 ∃(v:Value) (ss:List ByteArray),e=.returned v/\w'.ownsRow w.heap.size 9 1 v ss.length (ss.map Value.string)/\ss.length<=1000/\Ao V n (side g left) ss/\Ext w w'
structure Sv.Ok(V:Sv):Prop where
 room:V.U.length<=400000
 mem:∀{n g sb},V.T n g sb->sb∈V.U
 one:∀{n g sb n' g'},V.T n g sb->V.T n' g' sb->n=n'/\iK g g'
 size:∀{n g sb},V.T n g sb->sb.size<=maxLen
 ZM:∀{w w'},V.G w->Ext w w'->V.G w'
 ent:∀(args:Array Value) (w:World),(callFunc V.fn args).run prog w=.ok (.enter V.fn args) w
 moves:∀{n g sb} left w,V.T n g sb->V.G w->Calls prog V.fn (#[.string sb,.bool left]++V.env) w (Fj V n g left w)
def kc(V:Sv)(fk:Value->Option Value):Nat:=V.U.countP λsb=>(fk (.string sb)).isSome
theorem XG{V:Sv}(h:V.Ok)(fk:Value->Option Value):kc V fk<=400000:=bU List.countP_le_length h.room
theorem JL{α:Type}{p q:α->Bool}{l:List α}(h:∀x,p x=true->q x=true){a:α}(ha:a∈l)(hp:p a=false)(hq:q a=true):l.countP p+1<=l.countP q:=by
 induction l with
 |nil=>cases ha
 |cons b l ih=>
  rw[lJ,lJ];have hm:l.countP p<=l.countP q:=List.countP_mono_left λx _ k=>h x k
  rcases dD.1 ha with e|e
  .subst e;rw[hp,hq];simp;omega
  .have:=ih e
   have hb:=h b;cases c:p b <;> cases d:q b <;> simp_all <;> omega
theorem YF{V:Sv}(hm:sb∈V.U)(hn:fk (.string sb)=none):kc V fk+1<=kc V (upd (λ_ _=>Classical.propDecidable _) fk (.string sb) v):=by
 refine JL (λx hx=>?_) hm (by rw[hn];rfl) (by rw[upd_same];rfl);by_cases c:Value.string x=.string sb
 .rw[c,upd_same];rfl
 .rw[upd_ne c];exact hx
def qK(V:Sv)(D:dC)(fk:Value->Option Value):Prop:=∀key v,fk key=some v->∃n g sb i,key=.string sb/\V.T n g sb/\v=.int .i64 ((i:Nat):Int)/\i<D.length/\Canon (vl D i)/\iK (vl D i) g
def tV(V:Sv)(n:Nat)(fk Ho:Value->Option Value):Prop:=∀key,(Ho key).isSome->(fk key).isSome\/∃m g sb,key=.string sb/\V.T m g sb/\m<n
theorem tV.refl(V:Sv)(n:Nat)(fk:Value->Option Value):tV V n fk fk:=λ_ h=>.inl h
theorem tV.trans{V:Sv}{m:Nat}{a b c:Value->Option Value}(h:tV V n a b)(k:tV V m b c)(hm:m<=n):tV V n a c:=λkey hk=>by
 rcases k key hk with e|⟨q,g,sb,e1,e2,e3⟩
 .exact h key e
 .exact .inr ⟨q,g,sb,e1,e2,by omega⟩
theorem tV.none{V:Sv}(hV:V.Ok){n:Nat}{a b:Value->Option Value}(h:tV V n a b){g:Gm}{sb:ByteArray}(hT:V.T n g sb)(ha:a (.string sb)=none):b (.string sb)=none:=by
 cases e:b (.string sb)with
 |none=>rfl
 |some v=>
  rcases h _ (by rw[e];rfl)with k|⟨q,g',sb',e1,e2,e3⟩
  .rw[ha]at k;cases k
  .injection e1 with e1;subst e1
   have:=(hV.one hT e2).1;omega
structure DD(V:Sv)(q:Nat)(w0 w:World)(pp h kb:Nat)(s:iQ)(fk:Value->Option Value):Prop where
 pool:dm w pp h s
 all:∀x,x<s.D.length->(s.cn x).isSome
 kn:gu prog 9 w kb (kc V fk) fk
 known:qK V s.D fk
 small:s.D.length<=2*kc V fk+q
 kb1:¬jP pp h s kb
 U9:¬s.S kb
 kb0:w0.heap.size<=kb
 base:∀b,jP pp h s b->w0.heap.size<=b
 ext:Ext w0 w
structure rY(pp h kb:Nat)(s:iQ)(w:World)(s':iQ)(w':World):Prop where
 keep:fe (λb=>jP pp h s b\/b=kb) w w'
 own:∀b,jP pp h s' b->jP pp h s b\/w.heap.size<=b
 lists:∀b,s'.S b->s.S b\/w.heap.size<=b
 more:∃E,s'.D=s.D++E
theorem rY.ext(hx:Ext w w'):rY pp h kb s w s w':=⟨fV hx,λ_ h=>.inl h,λ_ h=>.inl h,⟨[],by simp⟩⟩
theorem rY.trans{pp h kb:Nat}{s1 s2 s3:iQ}{w1 w2 w3:World}(k:rY pp h kb s1 w1 s2 w2)(m:rY pp h kb s2 w2 s3 w3)(hk:kb<w1.heap.size):rY pp h kb s1 w1 s3 w3:=by
 have hz:=k.keep.size;refine⟨k.keep.trans m.keep (λx hx hi=>?_),λx hx=>?_,λx hx=>?_,?_⟩
 .rcases hi with h|h
  .rcases k.own x h with h|h
   .exact .inl h
   .omega
  .exact .inr h
 .rcases m.own x hx with h1|h1
  .exact k.own x h1
  .exact .inr (by omega)
 .rcases m.lists x hx with h1|h1
  .exact k.lists x h1
  .exact .inr (by omega)
 .obtain⟨E,e⟩:=k.more
  obtain⟨F,f⟩:=m.more;exact⟨E++F,by rw[f,e,bY]⟩
theorem rY.pool(k:jK pp h s w s' w'):rY pp h kb s w s' w':=
 ⟨⟨k.keep.os,k.keep.tape,k.keep.output,k.keep.size,λb hb hn=>k.keep.block b hb (λh=>hn (.inl h))⟩,k.own,k.lists,k.more⟩
theorem rY.len(k:rY pp h kb s w s' w'):s.D.length<=s'.D.length:=by
 obtain⟨E,e⟩:=k.more;rw[e,aj];omega
def Aside(pp h kb:Nat)(s:iQ)(w:World)(b:Nat):Prop:=b<w.heap.size/\¬jP pp h s b/\¬s.S b/\b≠kb
theorem Aside.go(a:Aside pp h kb s w b)(k:rY pp h kb s w s' w'):Aside pp h kb s' w' b/\w'.heap[b]?=w.heap[b]?:=by
 have hz:=k.keep.size;obtain⟨a1,a2,a3,a4⟩:=a;refine⟨⟨by omega,λh1=>?_,λh1=>?_,a4⟩,k.keep.block b a1 (λh1=>?_)⟩
 .rcases k.own b h1 with h|h
  .exact a2 h
  .omega
 .rcases k.lists b h1 with h|h
  .exact a3 h
  .omega
 .rcases h1 with h|h
  .exact a2 h
  .exact a4 h
theorem DD.aside{V:Sv}(k:DD V q w0 w pp h kb s fk)(h1:w.heap.size<=b)(h2:b<w'.heap.size):Aside pp h kb s w' b:=by
 have hM:=k.kn;refine⟨h2,λh=>?_,λh=>?_,λh=>?_⟩
 .have:=k.pool.IY h;omega
 .have:=k.pool.xM h;omega
 .have:=hM.lt;omega
theorem DD.ext'{V:Sv}(k:DD V q w0 w pp h kb s fk)(hx:Ext w w'):DD V q w0 w' pp h kb s fk:=
 ⟨k.pool.ext hx,k.all,k.kn.keep (hx.block _ k.kn.lt),k.known,k.small,k.kb1,k.U9,k.kb0,k.base,ay k.ext hx⟩
theorem DD.side{V:Sv}{G:Nat->Prop}(k:DD V q w0 w pp h kb s fk)(hk:fe G w w')(hG:∀b,G b->Aside pp h kb s w b)(hb:∀b,G b->w0.heap.size<=b):DD V q w0 w' pp h kb s fk:=
 ⟨k.pool.keep hk (λb h1 h2=>(hG b h2).2.1 h1) (λb h1 h2=>(hG b h2).2.2.1 h1),k.all,k.kn.keep (hk.block _ k.kn.lt (λh=>(hG _ h).2.2.2 rfl)),k.known,k.small,k.kb1,k.U9,k.kb0,k.base,kP k.ext hk hb⟩
theorem qK.more{V:Sv}(h:qK V D fk)(g:bz.WF D)(g':bz.WF (D++E)):qK V (D++E) fk:=by
 intro key v hv;obtain⟨n,x,sb,i,h1,h2,h3,h4,h5,h6⟩:=h key v hv;refine⟨n,x,sb,i,h1,h2,h3,by rw[aj];omega,?_,?_⟩
 .rw[bz.ib g g' i h4];exact h5
 .rw[bz.ib g g' i h4];exact h6
theorem qK.add{V:Sv}(h:qK V D fk)(ht:V.T n x sb)(hi:i<D.length)(hc:Canon (vl D i))(he:iK (vl D i) x):qK V D (upd (λ_ _=>Classical.propDecidable _) fk (.string sb) (.int .i64 ((i:Nat):Int))):=by
 intro key v hv;rcases vw hv with⟨rfl,rfl⟩|hv
 .exact⟨n,x,sb,i,rfl,ht,rfl,hi,hc,he⟩
 .exact h key v hv
def MJ(V:Sv)(D:dC)(ss:List ByteArray)(l:List Nat):Prop:=∀j (h:j<l.length),∃sb,ss[j]?=some sb/\l[j]<D.length/\∀m x,V.T m x sb->iK (vl D l[j]) x
theorem MJ.nil(V:Sv)(D:dC)(ss:List ByteArray):MJ V D ss []:=λj h=>absurd h (by simp)
theorem MJ.more{V:Sv}(h:MJ V D ss l)(g:bz.WF D)(g':bz.WF (D++E)):MJ V (D++E) ss l:=λj hj=>by
 obtain⟨e,h1,h2,h3⟩:=h j hj;exact⟨e,h1,by rw[aj];omega,λm x hT=>by rw[bz.ib g g' _ h2];exact h3 m x hT⟩
theorem MJ.add{V:Sv}(hV:V.Ok)(h:MJ V D ss l)(he:ss[l.length]?=some sb)(hT:V.T n x sb)(hi:i<D.length)(hv:iK (vl D i) x):MJ V D ss (l++[i]):=λj hj=>by
 by_cases c:j<l.length
 .rw[dM c];exact h j c
 .have hj':j=l.length:=by simp at hj;omega
  subst hj';simp only[eB (ai _),Nat.sub_self,List.getElem_cons_zero];exact⟨sb,he,hi,λm y hy=>hv.trans (hV.one hT hy).2⟩
theorem MJ.lt{V:Sv}(h:MJ V D ss l):∀x,x∈l->x<D.length:=λx hx=>by
 obtain⟨j,hj,rfl⟩:=aO.1 hx;obtain⟨e,_,h2,_⟩:=h j hj;exact h2
def Side(V:Sv)(D:dC)(n:Nat)(opts:List Gm)(l:List Nat):Prop:=∃ss,Ao V n opts ss/\MJ V D ss l/\l.length=ss.length/\ss.length<=1000
theorem Side.more{V:Sv}{D E:dC}{n:Nat}{opts:List Gm}{l:List Nat}(h:Side V D n opts l)(g:bz.WF D)(g':bz.WF (D++E)):Side V (D++E) n opts l:=by
 obtain⟨ss,h1,h2,h3,h4⟩:=h;exact⟨ss,h1,h2.more g g',h3,h4⟩
theorem Side.lt{V:Sv}{D:dC}{n:Nat}{opts:List Gm}{l:List Nat}(h:Side V D n opts l):(∀x,x∈l->x<D.length)/\l.length<=1000:=by
 obtain⟨ss,h1,h2,h3,h4⟩:=h;exact⟨h2.lt,by omega⟩
theorem Ox{V:Sv}{D':dC}(hw:bz.WF D)(hw':bz.WF D')(hl:Side V D n g.l l)(hr:Side V D n g.r r)(p:jo D l r D' i):iK (vl D' i) g:=by
 obtain⟨p1,p2⟩:=p;have hE:∃E,D'=D++E:=by
  rcases p2 with e|e
  .exact⟨[],by rw[e];simp⟩
  .exact⟨_,e⟩
 obtain⟨E,rfl⟩:=hE;have hl:=hl.more hw hw';have hr:=hr.more hw hw';have e:g=.mk g.l g.r:=by cases g;rfl
 rw[bz.nO hw' p1,e];have key:∀{opts:List Gm} {q:List Nat},Side V (D++E) n opts q->(∀x,x∈(bE q).map (vl (D++E))->∃y,y∈opts/\iK x y)/\(∀y,y∈opts->∃x,x∈(bE q).map (vl (D++E))/\iK x y):=by
  rintro opts q ⟨ss,hc,hk,hn,-⟩;refine⟨λx hx=>?_,λy hy=>?_⟩
  .obtain⟨a,ha,rfl⟩:=aI.1 hx
   obtain⟨j,hj,rfl⟩:=aO.1 (bZ.1 ha);obtain⟨sb,h1,h2,h3⟩:=hk j hj;obtain⟨m,x,_,hx,hT⟩:=hc.1 j (by omega);rw[aa (by omega)]at h1;injection h1 with h1;exact⟨x,hx,h3 m x (by rw[<-h1];exact hT)⟩
  .obtain⟨j,hj,m,hT⟩:=hc.2 y hy
   obtain⟨sb,h1,h2,h3⟩:=hk j (by omega);rw[aa hj]at h1;injection h1 with h1;exact⟨_,aI.2 ⟨_,bZ.2 (ah (by omega)),rfl⟩,h3 m y (by rw[<-h1];exact hT)⟩
 exact RO (key hl).1 (key hl).2 (key hr).1 (key hr).2
theorem I8{N:Nat}{cn:Nat->Option Nat}(h:∀x,x<N->x≠f->(cn x).isSome):miss N cn<=1:=by
 unfold miss;have key:∀l:List Nat,l.Nodup->(∀x,x∈l->x<N)->(l.filter λx=>(cn x).isNone).length<=1:=by
  intro l hn hl;have hs:∀x,x∈l.filter (λx=>(cn x).isNone)->x=f:=λx hx=>by
   obtain⟨h1,h2⟩:=eU.1 hx;by_cases c:x=f
   .exact c
   .have:=h x (hl x h1) c
    cases e:cn x with
    |none=>rw[e]at this;cases this
    |some j=>simp[e]at h2
  have hd:(l.filter λx=>(cn x).isNone).Nodup:=hn.sublist List.filter_sublist
  match hq:l.filter (λx=>(cn x).isNone)with
  |[]=>simp
  |[a]=>simp
  |a :: b :: t=>
   rw[hq]at hs hd;have h1:=hs a (by simp);have h2:=hs b (by simp);rw[h1,h2]at hd;simp at hd
 exact key _ List.nodup_range (λx hx=>dA.1 hx)
theorem step_done{V:Sv}{w2:World}{s2:iQ}{j:Nat}(K:DD V 0 w0 w pp h kb s fk)(k1:jK pp h s w s1 w1)(p:jo s.D l r s1.D f)(hc:s1.cn=s.cn)(k2:jK pp h s1 w1 s2 w2)(hj:s2.cn f=some j)(G:Grow s1 f s2):
 DD V 2 w0 w2 pp h kb s2 fk/\rY pp h kb s w s2 w2/\s2.D.length<=s.D.length+2/\j<s2.D.length/\Canon (vl s2.D j)/\iK (vl s2.D j) (vl s1.D f):=by
 have k:=k1.trans k2;have hl1:s1.D.length<=s.D.length+1:=by
  rcases p.2 with e|e
  .rw[e];omega
  .rw[e];simp
 have hf:f<s1.D.length:=by
  rcases dX f s1.D.length with h|h
  .exact h
  .have:=p.1;rw[iC h]at this;cases this
 have hk1:∀x,x<s1.D.length->x≠f->(s1.cn x).isSome:=by
  intro x hx hxf;rw[hc];by_cases c:x<s.D.length
  .exact K.all x c
  .exfalso
   rcases p.2 with e|e
   .rw[e]at hx;omega
   .have hxe:x=s.D.length:=by rw[e]at hx;simp at hx;omega
    have h1:s1.D[x]?=some (bE l,bE r):=(by rw[e,hxe,dV (ai _)];simp);exact hxf ((List.getElem?_inj hx k1.pool.good.nodup).1 (h1.trans p.1.symm))
 have hm:=I8 hk1;have hg:=G.1 s1.D.length hf (ai _);obtain⟨c1,c2,-⟩:=k2.pool.uV.ok f j hj;have hjl:=(k2.pool.uV.lt f j hj).2;have hM:=K.kn;have hO:=K.known;have hs0:=K.small;have hkl:=hM.lt;obtain⟨E,hE⟩:=k.more;have hw2:=k.pool.good.wf;have hO2:qK V s2.D fk:=by rw[hE]at hw2 ⊢;exact hO.more K.pool.good.wf hw2
 refine⟨⟨k.pool,λx hx=>?_,hM.keep (k.keep.block _ hkl K.kb1),hO2,by omega,λh1=>?_,λh1=>?_,K.kb0,λb hb=>?_,kP K.ext k.keep K.base⟩,rY.pool k,by omega,hjl,c1,?_⟩
 .by_cases c:x<s1.D.length
  .by_cases e:x=f
   .rw[e,hj];rfl
   .have:=hk1 x c e
    cases e2:s1.cn x with
    |none=>rw[e2]at this;cases this
    |some y=>rw[k2.known x y e2];rfl
  .exact G.2.2 x (by omega) hx
 .rcases k.own kb h1 with h|h
  .exact K.kb1 h
  .omega
 .rcases k.lists kb h1 with h|h
  .exact K.U9 h
  .omega
 .rcases k.own b hb with h|h
  .exact K.base b h
  .have:=K.ext.size;omega
 .rw[k2.vl k1.pool.good.wf hf]at c2;exact c2
theorem DD.learn{V:Sv}(hV:V.Ok)(k:DD V 2 w0 w pp h kb s fk)
 (hM:gu prog 9 w' kb (kc V fk+1) (upd (λ_ _=>Classical.propDecidable _) fk (.string sb) (.int .i64 ((i:Nat):Int)))) (hg:w.grownBy w' (some kb))
 (hT:V.T n g sb) (hn:fk (.string sb)=none) (hi:i<s.D.length) (hc:Canon (vl s.D i)) (he:iK (vl s.D i) g):DD V 0 w0 w' pp h kb s (upd (λ_ _=>Classical.propDecidable _) fk (.string sb) (.int .i64 ((i:Nat):Int))):=by
 have hk:=gJ hg;have hq:=YF (v:=.int .i64 ((i:Nat):Int)) (hV.mem hT) hn;have hs:=k.small;exact⟨k.pool.keep hk (λb h1 h2=>k.kb1 (by subst h2;exact h1)) (λb h1 h2=>k.U9 (by subst h2;exact h1)),k.all,hM.mono hq,k.known.add hT hi hc he,by omega,k.kb1,k.U9,k.kb0,k.base,kP k.ext hk (λb hb=>by subst hb;exact k.kb0)⟩
theorem rY.learn{w3:World}(k:rY pp h kb s w s1 w1)(hg:w1.grownBy w3 (some kb)):rY pp h kb s w s1 w3:=
 ⟨k.keep.trans (gJ hg) (λx _ hx=>.inr hx),k.own,k.lists,k.more⟩
theorem tV.learn{V:Sv}{Ho:Value->Option Value}(h:tV V n fk Ho)(hT:V.T n g sb):tV V (n+1) fk (upd (λ_ _=>Classical.propDecidable _) Ho (.string sb) v):=λkey hk=>by
 by_cases c:key=.string sb
 .exact .inr ⟨n,g,sb,c,hT,by omega⟩
 .rw[upd_ne c]at hk
  rcases h key hk with e|⟨q,x,sb',e1,e2,e3⟩
  .exact .inl e
  .exact .inr ⟨q,x,sb',e1,e2,by omega⟩
end
section
open Go.RowKit
open bz (dC Nd vl Gm Canon iK)
theorem rY.side{pp h kb:Nat}{s s1:iQ}{w w1 w3:World}{G:Nat->Prop}(k:rY pp h kb s w s1 w1)(hk:fe G w1 w3)(hG:∀b,G b->w.heap.size<=b):rY pp h kb s w s1 w3:=
 ⟨k.keep.trans (G:=G) (F:=λb=>jP pp h s b\/b=kb) hk (λx hx hg=>by have:=hG x hg;omega),k.own,k.lists,k.more⟩
structure GM(w wr:World)(pp h kb:Nat)(s:iQ)(ab:Nat)(v0 v1:Value)(l0 l1:List Nat)(X:Nat->Prop):Prop where
 arr:wr.heap[ab]?=some (.cells #[v0,v1] 177 (0,0))
 r0:wr.ownsRow w.heap.size 3 1 v0 l0.length ((dx l0).map (Value.int .i64))
 r1:wr.ownsRow w.heap.size 3 1 v1 l1.length ((dx l1).map (Value.int .i64))
 a0:∀b,v0.ownBlock=some b->Aside pp h kb s wr b/\b≠ab
 a1:∀b,v1.ownBlock=some b->Aside pp h kb s wr b/\b≠ab
 Z7:∀b,v0.ownBlock=some b->v1.ownBlock≠some b
 UG:Aside pp h kb s wr ab
 Xc:w.heap.size<=ab
 qA:∀b,X b->Aside pp h kb s wr b/\v0.ownBlock≠some b/\v1.ownBlock≠some b/\b≠ab
section
variable {V:Sv} {q:Nat} {w0 w wr w2 w3 wa:World} {pp h kb ab:Nat} {s s':iQ} {fk:Value->Option Value} {v0 v1 v':Value} {l0 l1:List Nat} {X Y:Nat->Prop}
variable {i n:Nat} {ys:List Value}
theorem GM.go(g:GM w wr pp h kb s ab v0 v1 l0 l1 X)(k:rY pp h kb s wr s' w2):GM w w2 pp h kb s' ab v0 v1 l0 l1 X/\(∀b,X b->w2.heap[b]?=wr.heap[b]?):=by
 have hG:∀b,Aside pp h kb s wr b->¬(jP pp h s b\/b=kb):=λb a h1=>by
  rcases h1 with h1|h1
  .exact a.2.1 h1
  .exact a.2.2.2 h1
 refine⟨⟨((g.UG.go k).2).trans g.arr,bO g.r0 k.keep (λb hb=>hG b (g.a0 b hb).1),bO g.r1 k.keep (λb hb=>hG b (g.a1 b hb).1),λb hb=>⟨((g.a0 b hb).1.go k).1,(g.a0 b hb).2⟩,λb hb=>⟨((g.a1 b hb).1.go k).1,(g.a1 b hb).2⟩,g.Z7,(g.UG.go k).1,g.Xc,λb hb=>⟨((g.qA b hb).1.go k).1,(g.qA b hb).2⟩⟩,λb hb=>((g.qA b hb).1.go k).2⟩
theorem GM.mono(g:GM w wr pp h kb s ab v0 v1 l0 l1 X)(hX:∀b,Y b->X b):GM w wr pp h kb s ab v0 v1 l0 l1 Y:=
 ⟨g.arr,g.r0,g.r1,g.a0,g.a1,g.Z7,g.UG,g.Xc,λb hb=>g.qA b (hX b hb)⟩
theorem GM.adr(g:GM w wr pp h kb s ab v0 v1 l0 l1 X)(K:DD V q w0 wr pp h kb s fk)(hx:Ext wr w2)(hY:∀b,Y b->X b\/(wr.heap.size<=b/\b<w2.heap.size)):GM w w2 pp h kb s ab v0 v1 l0 l1 Y:=by
 obtain⟨g2,-⟩:=g.go (rY.ext hx);refine⟨g2.arr,g2.r0,g2.r1,g2.a0,g2.a1,g2.Z7,g2.UG,g2.Xc,λb hb=>?_⟩;rcases hY b hb with h1|⟨h1,h2⟩
 .exact g2.qA b h1
 .refine⟨K.aside h1 h2,λe=>?_,λe=>?_,λe=>?_⟩
  .have:=(g.a0 b e).1.1;omega
  .have:=(g.a1 b e).1.1;omega
  .have:=g.UG.1;omega
theorem GM.aeO(g:GM w wr pp h kb s ab v0 v1 l0 l1 X)(hx:Ext wr wa)(hz:wr.heap.size<=wa.heap.size)(K:DD V q w0 wr pp h kb s fk)(hg:wa.grownBy w2 v0.ownBlock)(ho:w2.ownsRow w.heap.size 3 1 v' n ys)(hn:n=(l0++[i]).length)(hy:ys=(dx (l0++[i])).map (Value.int .i64))(hl:mM wa v0 v'):
 GM w (w2.setCell ⟨ab,0,none⟩ v') pp h kb s ab v' v1 (l0++[i]) l1 X/\fe (λb=>v0.ownBlock=some b\/b=ab) wr (w2.setCell ⟨ab,0,none⟩ v')/\(∀b,X b->(w2.setCell ⟨ab,0,none⟩ v').heap[b]?=wr.heap[b]?)/\w2.cell? ⟨ab,0,none⟩=some v0/\w2.frozen? ⟨ab,0,none⟩=false:=by
 have hkg:=fD hg;have hk1:fe (λb=>v0.ownBlock=some b\/b=ab) wr w2:=(fV hx).trans hkg (λx _ h=>.inl h);have hks:fe (λb=>v0.ownBlock=some b\/b=ab) w2 (w2.setCell ⟨ab,0,none⟩ v'):=by
  have:=gI (w:=w2) (p:=⟨ab,0,none⟩) (v:=v');exact⟨this.os,this.tape,this.output,this.size,λb hb hn=>this.block b hb (λh=>hn (.inr h))⟩
 have hk:=hk1.trans hks (λx _ h=>h);have hxz:=hkg.size;have hab:=g.UG.1;have harr:w2.heap[ab]?=some (.cells #[v0,v1] 177 (0,0)):=(hkg.block ab (by omega) (λe=>(g.a0 ab e).2 rfl)).trans ((hx.block ab hab).trans g.arr);have hL:∀b,v'.ownBlock=some b->v0.ownBlock=some b\/wr.heap.size<=b:=λb hb=>by
  rcases hl with e|⟨c,e,k⟩
  .exact .inl (e ▸ hb)
  .rw[e]at hb;injection hb with hb;exact .inr (by omega)
 have hup:∀b,Aside pp h kb s wr b->Aside pp h kb s (w2.setCell ⟨ab,0,none⟩ v') b:=λb a=>⟨aQ a.1 hk.size,a.2⟩
 have hv':∀b,v'.ownBlock=some b->Aside pp h kb s (w2.setCell ⟨ab,0,none⟩ v') b/\b≠ab:=λb hb=>by
  rcases hL b hb with e|e
  .exact⟨hup b (g.a0 b e).1,(g.a0 b e).2⟩
  .exact⟨K.aside e (aQ (ho.lt b hb).2 hks.size),by omega⟩
 subst hn hy;have TB:∀b,v'.ownBlock=some b->¬b=ab:=λb hb=>(hv' b hb).2
 refine⟨⟨?_,bO ho (gI (p:=⟨ab,0,none⟩)) TB,bO g.r1 hk (λb hb e=>?_),hv',λb hb=>⟨hup b (g.a1 b hb).1,(g.a1 b hb).2⟩,λb hb e=>?_,hup ab g.UG,g.Xc,λb hb=>⟨hup b (g.qA b hb).1,λe=>?_,(g.qA b hb).2.2⟩⟩,hk,λb hb=>hk.block b (g.qA b hb).1.1 (λe=>?_),cell_of_row w2 ab 0 _ _ _ harr,frozen_of_row w2 ab 0 _ _ harr⟩
 .have:=heap_setCell_same w2 ab 0 _ _ v' harr;exact this
 .rcases e with e|e
  .exact g.Z7 b e hb
  .exact(g.a1 b hb).2 e
 .rcases hL b hb with h1|h1
  .exact g.Z7 b h1 e
  .have:=(g.a1 b e).1.1;omega
 .rcases hL b e with h1|h1
  .exact(g.qA b hb).2.1 h1
  .have:=(g.qA b hb).1.1;omega
 .rcases e with e|e
  .exact(g.qA b hb).2.1 e
  .exact(g.qA b hb).2.2.2 e
theorem GM.aeN(g:GM w wr pp h kb s ab v0 v1 l0 l1 X)(hx:Ext wr wa)(hz:wr.heap.size<=wa.heap.size)(K:DD V q w0 wr pp h kb s fk)(hg:wa.grownBy w2 v1.ownBlock)(ho:w2.ownsRow w.heap.size 3 1 v' n ys)(hn:n=(l1++[i]).length)(hy:ys=(dx (l1++[i])).map (Value.int .i64))(hl:mM wa v1 v'):
 GM w (w2.setCell ⟨ab,1,none⟩ v') pp h kb s ab v0 v' l0 (l1++[i]) X/\fe (λb=>v1.ownBlock=some b\/b=ab) wr (w2.setCell ⟨ab,1,none⟩ v')/\(∀b,X b->(w2.setCell ⟨ab,1,none⟩ v').heap[b]?=wr.heap[b]?)/\w2.cell? ⟨ab,1,none⟩=some v1/\w2.frozen? ⟨ab,1,none⟩=false:=by
 have hkg:=fD hg;have hk1:fe (λb=>v1.ownBlock=some b\/b=ab) wr w2:=(fV hx).trans hkg (λx _ h=>.inl h);have hks:fe (λb=>v1.ownBlock=some b\/b=ab) w2 (w2.setCell ⟨ab,1,none⟩ v'):=by
  have:=gI (w:=w2) (p:=⟨ab,1,none⟩) (v:=v');exact⟨this.os,this.tape,this.output,this.size,λb hb hn=>this.block b hb (λh=>hn (.inr h))⟩
 have hk:=hk1.trans hks (λx _ h=>h);have hxz:=hkg.size;have hab:=g.UG.1;have harr:w2.heap[ab]?=some (.cells #[v0,v1] 177 (0,0)):=(hkg.block ab (by omega) (λe=>(g.a1 ab e).2 rfl)).trans ((hx.block ab hab).trans g.arr);have hL:∀b,v'.ownBlock=some b->v1.ownBlock=some b\/wr.heap.size<=b:=λb hb=>by
  rcases hl with e|⟨c,e,k⟩
  .exact .inl (e ▸ hb)
  .rw[e]at hb;injection hb with hb;exact .inr (by omega)
 have hup:∀b,Aside pp h kb s wr b->Aside pp h kb s (w2.setCell ⟨ab,1,none⟩ v') b:=λb a=>⟨aQ a.1 hk.size,a.2⟩
 have hv':∀b,v'.ownBlock=some b->Aside pp h kb s (w2.setCell ⟨ab,1,none⟩ v') b/\b≠ab:=λb hb=>by
  rcases hL b hb with e|e
  .exact⟨hup b (g.a1 b e).1,(g.a1 b e).2⟩
  .exact⟨K.aside e (aQ (ho.lt b hb).2 hks.size),by omega⟩
 subst hn hy;have TB:∀b,v'.ownBlock=some b->¬b=ab:=λb hb=>(hv' b hb).2
 refine⟨⟨?_,bO g.r0 hk (λb hb e=>?_),bO ho (gI (p:=⟨ab,1,none⟩)) TB,λb hb=>⟨hup b (g.a0 b hb).1,(g.a0 b hb).2⟩,hv',λb hb e=>?_,hup ab g.UG,g.Xc,λb hb=>⟨hup b (g.qA b hb).1,(g.qA b hb).2.1,λe=>?_,(g.qA b hb).2.2.2⟩⟩,hk,λb hb=>hk.block b (g.qA b hb).1.1 (λe=>?_),cell_of_row w2 ab 1 _ _ _ harr,frozen_of_row w2 ab 1 _ _ harr⟩
 .have:=heap_setCell_same w2 ab 1 _ _ v' harr;exact this
 .rcases e with e|e
  .exact g.Z7 b hb e
  .exact(g.a0 b hb).2 e
 .rcases hL b e with h1|h1
  .exact g.Z7 b hb h1
  .have:=(g.a0 b hb).1.1;omega
 .rcases hL b e with h1|h1
  .exact(g.qA b hb).2.2.1 h1
  .have:=(g.qA b hb).1.1;omega
 .rcases e with e|e
  .exact(g.qA b hb).2.2.1 e
  .exact(g.qA b hb).2.2.2 e
end
end
end Go.Proofs.YteknjeohbcgpdaaGreatDoor