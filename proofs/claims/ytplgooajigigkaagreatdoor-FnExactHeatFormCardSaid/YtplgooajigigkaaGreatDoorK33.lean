/- 33 -/
import Derived.Test.YtplgooajigigkaaGreatDoorK28
import Derived.Test.YtplgooajigigkaaGreatDoorK32
set_option maxRecDepth 100000
set_option maxHeartbeats 4000000
namespace Go.Proofs.YtplgooajigigkaaGreatDoor
open Tryz
section
open Go.RowKit
open bE (dh Nd Gm vl Same bz)
def Uc(pp h:Nat)(s:jF)(F:dh)(w0 w:World)(e:Ending)(w':World):Prop:=
 ∃s' j,e=.returned (.int .i64 ((j:Nat):Int))/\j<s'.D.length/\Same (vl s'.D j) (bz F)/\jr pp h s w s' w'/\s'.D.length<=s.D.length+F.length/\Ext w0 w'/\(∀b,lg pp h s' b->w0.heap.size<=b)
theorem sH(pp h:Nat)(s:jF)(vf:Value)(F:dh)(w0 w:World)(hf:dI w0 0 vf F)(hF:bE.WF F)(hne:0<F.length)(hA:∀x,x∈F->x.1.length<=1000000/\x.2.length<=1000000)(hx:Ext w0 w)(hP:dA w pp h s)(hb0:∀b,lg pp h s b->w0.heap.size<=b)(Pm:s.D.length+F.length<=900000):
 Calls prog 74 #[.pointer (some ⟨pp,0,none⟩),.agg #[vf]] w (Uc pp h s F w0 w):=by
 obtain⟨aF,gH,rfl,hcap,zz,-⟩:=id hf;have hx1:Ext w (w.alloc (.cells #[.slice aF F.length gH] 30)):=by go_grown
 have hbx:=bQ (w.alloc (.cells #[.slice aF F.length gH] 30)) w.heap.size 0 _ _ _ (eu w _);go_enter Tryz.func74,Tryz.ntmps74
 go_upto_region 1 with fail
 have HC:=aW (λV (hV:Ext w V)=>Wl pp h s (.slice aF F.length gH) F w0 V hf hF hA (ah hx hV) (hP.ext hV) hb0 Pm);have q8:∀{s' w1 w2},Ext w w1->jr pp h s w1 s' w2->jr pp h s w s' w2:=λhV g=>(jr.refl hP hV).trans g
 have HG:=jm hne hx1;simp only[gE]at hbx;clear hf hA hx hb0 Pm hP hne;generalize w.alloc (.cells #[.slice aF F.length gH] 30)=W at *;go_upto_region 2 with(go_at_call 127;refine(HC.out _ (by first|exact HG.out.2|exact ah HG.out.2 (dQ ⟨1,rfl⟩))).mono ?_;rintro e w2 ⟨s2,v2,L,rfl,ho2,gZ,hL2,hd2,hE2,hb2⟩)
 have hln:=hL2.len;obtain⟨g,cap,rfl,hc1,hc2,hc3⟩:=iy ho2 (by have:=HG.out.1;omega);have hlt:F.length-1<L.length:=by have:=HG.out.1;omega
 have hcl:=hc3 (L.length-1) (by omega);have hcz:((dB L).map (Value.int .i64))[L.length-1]?=some (.int .i64 ((L[F.length-1]:Nat):Int)):=by
  have e:L.length-1=F.length-1:=by omega
  rw[e,ek,dB,ek,af hlt];rfl
 rw[hcz]at hcl;have hat:=aW (hL2.at_ _ hlt);have HE:=nY hd2 hE2 hb2;obtain⟨n,hn⟩:∃n,L.length=n+1:=⟨L.length-1,by omega⟩;rw[hn,sW]at hcl;rw[hn]at hc1 ⊢;clear hcz hc3 ho2 hd2 hE2 hb2 hL2 hln;have hi:((n:Nat):Int)<(((n+1:Nat)):Int):=by omega
 have hwk:wrap64 ((n:Nat):Int)=((n:Nat):Int):=by unfold maxLen at hc2;unfold wrap64;omega
 go_wp2
 go_ret
 exact⟨s2,_,rfl,hat.out.1,hat.out.2,q8 (by first|exact HG.out.2|exact ah HG.out.2 (dQ ⟨1,rfl⟩)) gZ,HE.out.1,HE.out.2.1,HE.out.2.2⟩
end
section
open Go.RowKit
open bE (dh Nd vl bI bz Same)
variable {w:World} {D:dh} {at_:List Nat} {root:Nat}
theorem ji.one(w:World)(i:Nat)(t:TypeId):ji (λb=>b=w.heap.size) (w.alloc (.cells #[.int .i64 (i:Int)] t)) (.slice (some ⟨w.heap.size,0,none⟩) 1 1) [i]:=by
 have hc:=dW w (.int .i64 (i:Int)) t;refine⟨λb hb=>by subst hb;rw[fU];omega,λw' h=>?_⟩;have hb:=mP (a:=⟨w.heap.size,0,none⟩) (h _ rfl);refine⟨_,1,rfl,by simp[dB],by simp[dB],λ_=>⟨w.heap.size,0,rfl,λj hj=>?_⟩⟩;have hj0:j=0:=by simp[dB]at hj;omega
 subst hj0;rw[hb,hc];simp[dB,jl]
def RX(G:List En)(j:Nat):Value:=((G.flatMap En.two)[j]?).getD undef
theorem Rq:∀(G:List En) (j:Nat) (hj:j<G.length) (t:Nat),t<2->(G.flatMap En.two)[j*2+t]?=(G[j].two)[t]?
 |[],j,hj,_,_=>by simp at hj
 |x :: G,0,_,t,ht=>by
  rw[jZ,dN (by simp[En.two];omega)];simp
 |x :: G,j+1,hj,t,ht=>by
  rw[jZ,dX (by simp[En.two];omega)];have e:(j+1)*2+t-x.two.length=j*2+t:=by simp[En.two];omega
  rw[e,Rq G j (by simpa using hj) t ht];simp
theorem KM(G:List En)(j:Nat)(hj:j<2*G.length):∃e,e∈G/\∃h:j / 2<G.length,e=G[j / 2]/\(G.flatMap En.two)[j]?=some (RX G j)/\RX G j=if j % 2=0 then e.lv else e.rv:=by
 have h:j / 2<G.length:=by omega
 refine⟨G[j / 2],ai h,h,rfl,?_⟩;have h1:=Rq G (j / 2) h (j % 2) (by omega);have e:j / 2*2+j % 2=j:=by omega
 rw[e]at h1;have h2:(G[j / 2].two)[j % 2]?=some (if j % 2=0 then G[j / 2].lv else G[j / 2].rv):=by
  by_cases c:j % 2=0
  .rw[c];rfl
  .have c1:j % 2=1:=by omega
   rw[c1];rfl
 rw[h2]at h1;unfold RX;rw[h1];exact⟨rfl,rfl⟩
theorem OM.form{w1 wr:World}{lb lc rb mr:Nat}{nv gv:Value}{Lc:List Nat}{fm:Value->Option Value}{nodes:List En}(m:OM w1 wr lb lc rb nv gv Lc mr fm nodes [] nodes)(hx:Ext w w1):FO wr w.heap.size nv (nodes.map En.nd).length (RX nodes) (mV (nodes.map En.nd)):=by
 have hz:=hx.size;rw[bK];have hown:∀j,j<2*nodes.length->wr.ownsRow w.heap.size 3 1 (RX nodes j) (mV (nodes.map En.nd) j).length ((mV (nodes.map En.nd) j).map (Value.int .i64)):=by
  intro j hj;obtain⟨e,he,h,e1,-,e2⟩:=KM nodes j hj;have ha:=m.yu e he;have hd:(nodes.map En.nd).getD (j / 2) ([],[])=e.nd:=by rw[bD,ek,af h,e1];rfl
  rw[e2];unfold mV;rw[hd];by_cases c:j % 2=0
  .simp only[c,if_true]
   have:=mq ha.1 hz;rw[bG];exact this
  .simp only[c,if_false]
   have:=mq ha.2.1 hz;rw[bG];exact this
 refine⟨⟨nodes.flatMap En.two,mq m.node hz,λj hj=>?_⟩,hown,λi j hi hj hne b hb hc=>?_,λj hj b hb hc=>?_⟩
 .obtain⟨e,he,h,e1,e2,e3⟩:=KM nodes j hj;exact e2
 .obtain⟨e,he,h,e1,-,e2⟩:=KM nodes i hi
  obtain⟨e',he',h',e1',-,e2'⟩:=KM nodes j hj;rw[e2]at hb;rw[e2']at hc;have hbe:e.blk b:=by
   by_cases c:i % 2=0
   .rw[if_pos c]at hb;exact .inl hb
   .rw[if_neg c]at hb;exact .inr hb
  have ahg:e'.blk b:=by
   by_cases c:j % 2=0
   .rw[if_pos c]at hc;exact .inl hc
   .rw[if_neg c]at hc;exact .inr hc
  by_cases hij:i / 2=j / 2
  .have hee:e=e':=by
    rw[e1,e1'];congr 1
   subst hee;have hs:=m.self e he;by_cases c:i % 2=0
   .have c':¬j % 2=0:=by omega
    rw[if_pos c]at hb;rw[if_neg c']at hc;exact hs b hb hc
   .have c':j % 2=0:=by omega
    rw[if_neg c]at hb;rw[if_pos c']at hc;exact hs b hc hb
  .rcases Nat.lt_or_gt_of_ne hij with hl|hl
   .have:=dx.1 m.apart (i / 2) (j / 2) h h' hl
    rw[<-e1,<-e1']at this;exact this b hbe ahg
   .have:=dx.1 m.apart (j / 2) (i / 2) h' h hl
    rw[<-e1,<-e1']at this;exact this b ahg hbe
 .obtain⟨e,he,h,e1,-,e2⟩:=KM nodes j hj
  have hbe:e.blk b:=by
   rw[e2]at hb;by_cases c:j % 2=0
   .rw[if_pos c]at hb;exact .inl hb
   .rw[if_neg c]at hb;exact .inr hb
  exact(m.far e he b hbe).2.2.1 hc
theorem FO.lower{B B':Nat}{v:Value}{n:Nat}{sl:Nat->Value}{ls:Nat->List Int}(h:FO w B v n sl ls)(hB:B'<=B):FO w B' v n sl ls:=by
 obtain⟨xs,h1,h2⟩:=h.row;exact⟨⟨xs,mq h1 hB,h2⟩,λj hj=>mq (h.own j hj) hB,h.ap,h.Zr⟩
theorem FO.none(w:World)(sl:Nat->Value)(ls:Nat->List Int)(B:Nat):FO w B (.slice none 0 0) 0 sl ls:=
 ⟨⟨[],⟨by simp,.inl ⟨rfl,rfl⟩⟩,λj hj=>absurd hj (by omega)⟩,λj hj=>absurd hj (by omega),λi j hi=>absurd hi (by omega),λj hj=>absurd hj (by omega)⟩
def Y5(s:jF)(root:Nat)(w:World)(e:Ending)(w':World):Prop:=
 ∃F vN Fr ok sl,e=.returned (.tuple #[.agg #[vN],.bool ok])/\bI F/\Same (bz F) (vl s.D root)/\ok=dm F/\Fr=(if ok then F else [])/\FO w' w.heap.size vN Fr.length sl (mV Fr)/\Ext w w'
theorem Vk{A B:List Nat}(ha:A.Nodup)(hb:B.Nodup)(h:∀x,x∈A↔x∈B):A.length=B.length:=by
 have p:A.Perm B:=by
  rw[List.perm_ext_iff_of_nodup ha hb];exact h
 exact p.length_eq
theorem Mv(P:Nat->Prop):∀rest:List Nat,∃q,q<=rest.length/\(∀j (hj:j<rest.length),j<q->P rest[j])/\(∀hl:q<rest.length,¬P rest[q])
 |[]=>⟨0,aJ _,λj hj=>absurd hj (by simp),λh=>absurd h (by simp)⟩
 |x :: rest=>by
  by_cases c:P x
  .obtain⟨q,h1,h2,h3⟩:=Mv P rest
   refine⟨q+1,by simp;omega,λj hj hq=>?_,λhl=>?_⟩
   .cases j with
    |zero=>exact c
    |succ j=>exact h2 j (by simpa using hj) (by omega)
   .exact h3 (by simpa using hl)
  .exact⟨0,aU _,λj _ h=>absurd h (by omega),λ_=>c⟩
def Zf(D:dh)(at_:List Nat)(x y:Nat):Bool:=decide (bE.nc (Xn D at_ x) (Xn D at_ y)<=0)
theorem le_total(x y:Nat):(Zf D at_ x y || Zf D at_ y x)=true:=by
 unfold Zf;have:=bE.Cr (Xn D at_ x) (Xn D at_ y);rw[Bool.or_eq_true,decide_eq_true_eq,decide_eq_true_eq];omega
theorem le_trans'(x y z:Nat)(h:Zf D at_ x y=true)(k:Zf D at_ y z=true):Zf D at_ x z=true:=by
 unfold Zf at *;rw[decide_eq_true_eq]at *;by_cases e:bE.nc (Xn D at_ x) (Xn D at_ y)=0
 .rw[bE.Bj e];exact k
 .by_cases e2:bE.nc (Xn D at_ y) (Xn D at_ z)=0
  .rw[<-bE.Bj e2];exact h
  .have:=bE.vo (a:=Xn D at_ x) (b:=Xn D at_ y) (c:=Xn D at_ z) (by omega) (by omega);omega
theorem X6(g:bE.Good D)(hr:root<D.length):∀(n:Nat) (F:dh) (idx at_:List Nat) (b:Nat) (rest:List Nat),rest.length<=n->qI D root F idx at_ b rest->∃F',bI F'/\Same (bz F') (vl D root)/\F'.length=(idx++rest).length:=by
 intro n
 induction n with
 |zero=>
  intro F idx at_ b rest hn h;have e:rest=[]:=eP (by omega);subst e;have h1:=h.last g hr;exact⟨F,h1.1,h1.2,by rw[gN];exact h.form.len.symm⟩
 |succ n ih=>
  intro F idx at_ b rest hn h;by_cases h0:0<rest.length
  .have hs:=h.stage h0
   obtain⟨q,q1,q2,q3⟩:=Mv (λx=>bE.born (vl D x)=bE.born (vl D rest[0])) rest;have hq0:0<q:=by
    rcases sV q with e|e
    .subst e;exact absurd rfl (q3 h0)
    .exact e
   have hp:=List.mergeSort_perm (rest.take q) (Zf D at_);have hw:=List.pairwise_mergeSort (le:=Zf D at_) le_trans' le_total (rest.take q);have h2:=hs.next g hr q1 q2 q3 hp (hw.imp (λ{a c} hac=>by
    unfold Zf at hac;rw[decide_eq_true_eq]at hac;have:=bE.Cr (Xn D at_ a) (Xn D at_ c);omega))
   obtain⟨F',f1,f2,f3⟩:=ih _ _ _ _ (rest.drop q) (by rw[xH];omega) h2.1;refine⟨F',f1,f2,?_⟩;rw[f3];have:=hp.length_eq;simp only[bu,xH,gV]at this ⊢;omega
  .exact ih F idx at_ b rest (by omega) h
theorem Ro(g:bE.Good D)(hr:root<D.length){Ls:List Nat}(hn:Ls.Nodup)(hm:∀j,j∈Ls↔bE.Reach D root j):∃F,bI F/\Same (bz F) (vl D root)/\F.length=Ls.length:=by
 have hp:=List.mergeSort_perm Ls (λx y=>decide (bE.born (vl D x)<=bE.born (vl D y)));have hw:=List.pairwise_mergeSort (le:=λx y=>decide (bE.born (vl D x)<=bE.born (vl D y))) (λa b c h k=>by simp only[decide_eq_true_eq]at *;omega) (λa b=>by simp only[Bool.or_eq_true,decide_eq_true_eq];omega) Ls;have hS:=qI.start (D:=D) (root:=root) (hp.symm.nodup hn) (λj=>by rw[hp.mem_iff];exact hm j) (hw.imp (λ{a b} h=>by simpa using h));obtain⟨F,f1,f2,f3⟩:=X6 g hr _ _ _ _ _ _ (aJ _) hS;exact⟨F,f1,f2,by rw[f3];simp⟩
theorem zk{F:dh}(h:120<F.length):dm F=false:=decide_eq_false (λk=>by omega)
theorem yQ(pp h:Nat)(s:jF)(root:Nat)(w:World)(hP:dA w pp h s)(hr:root<s.D.length):
 Calls prog 72 #[.pointer (some ⟨pp,0,none⟩),.int .i64 (root:Int)] w (Y5 s root w):=by
 have hds:=hP.small;have hb1:(w.alloc (.cells #[.slice none 0 0] 30)).heap[w.heap.size]?=some (.cells #[.slice none 0 0] 30 (0,0)):=eu _ _;have hx1:Ext w (w.alloc (.cells #[.slice none 0 0] 30)):=by go_grown
 go_enter Tryz.func72,Tryz.ntmps72
 go_upto_region 1 with fail
 generalize w.alloc (.cells #[.slice none 0 0] 30)=W1 at *;have hx2:Ext W1 (W1.alloc (.cells #[.int .i64 (root:Int)] 3)):=by go_grown
 have hv1:=ji.one W1 root 3;have hE2:=ah hx1 hx2;generalize hf1:w.heap.size=f1 at *;have aaF:f1<W1.heap.size:=bW hb1;go_upto_region 2 with(go_at_call 123;refine(Cm pp h s _ [root] _ _ (hP.ext hE2) (by simpa using hr) (by simp) hv1).mono ?_;rintro e w2 ⟨v2,Ls,rfl,ho2,OJ,hm2,hx3⟩;obtain⟨a2,c2,rfl,-,-⟩:=bT ho2)
 .have mZ:=ah hE2 hx3
  have hbf:=((ah hx2 hx3).block f1 aaF).trans hb1;have c0:=bQ w2 f1 0 _ _ _ hbf;have q0:=gQ w2 f1 0 _ _ hbf;have hl:120<Ls.length:=by omega
  obtain⟨F,g1,g2,g3⟩:=Ro hP.good hr OJ (λj=>by rw[hm2];simp);have HF:=nY g1 g2 g3;have HH:=aW (gK w2 f1 0 _ _ (.slice none 0 0) hbf);clear hv1 hm2 g1 g2 g3;go_wp2
  refine mg f1 30 #[.slice none 0 0] HH.out underlying30 ?_;exact⟨F,_,[],false,λ_=>undef,rfl,HF.out.1,HF.out.2.1,(zk (by rw[HF.out.2.2];exact hl)).symm,rfl,FO.none _ _ _ _,ll mZ f1 0 _⟩
 .have hx4:Ext w2 (w2.alloc (.cells #[.int .i64 (root:Int)] 3)):=by go_grown
  have hv4:=ji.one w2 root 3;have mZ:=ah hE2 hx3;have oK:=ah mZ hx4;refine(Sk pp h s root _ _ _ (hP.ext oK) hr hv4).mono ?_;rintro e w5 ⟨W5,lv,nv,lb,lc,rb,gv,Lc,mr,fm,nodes,rfl,hx5,hm,hF1,hF2,hnn,hmm⟩;have hx6:Ext W1 w5:=ah (ah hx2 (ah hx3 hx4)) (ah hx5 hm.ext);have Rm:=ah hx1 hx6;have uj:=ah oK hx5;have al7:f1<W5.heap.size:=bg aaF (ah (ah hx2 (ah hx3 hx4)) hx5).size;have hnl:nodes.length=Ls.length:=by
   have:=Vk hnn OJ (λj=>by rw[hmm,hm2];simp);rw[bK]at this;exact this
  have hn1:1<=nodes.length:=by
   have h1:root∈nodes.map En.id:=(hmm root).2 .here;have:=List.length_pos_of_mem h1;rw[bK]at this;exact this
  have hlen:nodes.length<=120:=by omega
  clear hnl;obtain⟨g,cv,rfl,-,-,-⟩:=iy hm.node hn1;have HF:=jm hF1 hF2;clear hv1 hv4 hm2 hmm hnn hF1 hF2 hx3 hx4 ho2 hx5 hE2 mZ oK hx2 OJ;go_wp2
  go_loopw [9,26] (λ_ kk wr=>∃i,i<=nodes.length/\kk=.int .i64 ((i:Nat):Int)/\Ext w5 wr/\Hid (∀j (hj:j<nodes.length),j<i->nodes[j].l.length<=24/\nodes[j].r.length<=24)) (λ_ kk _=>nodes.length-(intOf kk).toNat)
  case atStart=>exact⟨0,aU _,rfl,gz _ _,aW (λj _ h=>absurd h (by omega))⟩
  case round=>
   obtain⟨i,hi,rfl,hx,HP⟩:=hrel;have hmr:=hm.ext' hx;have hbr:=(hx.block f1 (bg aaF hx6.size)).trans ((hx6.block f1 aaF).trans hb1);have hEr:=ah Rm hx;by_cases hlt:i<nodes.length
   .have h1:((i:Nat):Int)<(nodes.length:Int):=by omega
    have k0:wr.cell? ⟨g,i*2,none⟩=some nodes[i].lv:=by
     have:=hmr.node.cellAt (i*2) (by omega);rw[this];exact Rq nodes i hlt 0 (by omega)
    have k1:wr.cell? ⟨g,i*2+1,none⟩=some nodes[i].rv:=by
     have:=hmr.node.cellAt (i*2+1) (by omega);rw[this];exact Rq nodes i hlt 1 (by omega)
    have hen:=hmr.yu _ (ai hlt);obtain⟨b1,d1,e1,-,-⟩:=bT hen.1;obtain⟨b2,d2,e2,-,-⟩:=bT hen.2.1;rw[e1]at k0;rw[e2]at k1;obtain⟨nl,Xc⟩:=fu (nodes[i].l.length);obtain⟨nr,aav⟩:=fu (nodes[i].r.length);rw[<-Xc]at k0;rw[<-aav]at k1;have asV:nl<=1000000:=(by rw[Xc];exact hen.2.2.2.2.1);have asU:nr<=1000000:=(by rw[aav];exact hen.2.2.2.2.2);have HL:=jm Xc aav;have HX:=aW hx;have c0:=bQ wr f1 0 _ _ _ hbr;have q0:=gQ wr f1 0 _ _ hbr;clear hen e1 e2 Xc aav hmr hm hx;by_cases hb:nl<=24/\nr<=24
    .obtain⟨hbl,atF⟩:=hb
     have h2:¬((24:Int)<(nl:Int)):=(by omega);have h3:¬((24:Int)<(nr:Int)):=(by omega);go_wp2
     go_roundw
     case rel=>exact⟨i+1,by omega,by go_num,bY HX.out _,aW (λj hj hji=>by
      by_cases e:j=i
      .subst e;rw[<-HL.out.1,<-HL.out.2];omega
      .exact HP.out j hj (by omega))⟩
     case measure=>simp[intOf];omega
    .have UD:dm (nodes.map En.nd)=false:=decide_eq_false (λk=>by
      have h1:=k.2.2 i (by rw[bK];exact hlt);rw[kJ]at h1;have h2:nodes[i].nd=(nodes[i].l,nodes[i].r):=rfl;rw[h2,<-HL.out.1,<-HL.out.2]at h1;exact hb h1)
     have Uu:=aW UD;have hbn:=(bY (gz _ wr) (.cells #[.slice b1 nl d1,.slice b2 nr d2] 91)).block f1 (bW hbr);have hxn:Ext wr (wr.alloc (.cells #[.slice b1 nl d1,.slice b2 nr d2] 91)):=bY (gz _ _) _;have hbw:=hbn.trans hbr;have HW:=aW (gK _ f1 0 _ _ (.slice none 0 0) hbw);have HEr:=aW (ll (ah hEr hxn) f1 0 (.slice none 0 0));have c0':=bQ _ f1 0 _ _ _ hbw;have q0':=gQ _ f1 0 _ _ hbw;clear UD hbn hbw c0 q0 hxn hEr;by_cases hl:24<nl
     .have h2:((24:Int)<(nl:Int)):=by omega
      clear hb;go_wp2
      refine mg f1 30 #[.slice none 0 0] HW.out underlying30 ?_;exact⟨_,_,[],false,λ_=>undef,rfl,HF.out.1,HF.out.2,Uu.out.symm,rfl,FO.none _ _ _ _,HEr.out⟩
     .have h2:¬((24:Int)<(nl:Int)):=by omega
      have h3:((24:Int)<(nr:Int)):=(by omega);clear hb;go_wp2
      refine mg f1 30 #[.slice none 0 0] HW.out underlying30 ?_;exact⟨_,_,[],false,λ_=>undef,rfl,HF.out.1,HF.out.2,Uu.out.symm,rfl,FO.none _ _ _ _,HEr.out⟩
   .have h1:¬(((i:Nat):Int)<(nodes.length:Int)):=by omega
    have UD:dm (nodes.map En.nd)=true:=decide_eq_true ⟨by rw[bK];exact hn1,by rw[bK];exact hlen,λj hj=>by
     rw[bK]at hj;rw[kJ];exact HP.out j hj (by omega)⟩
    have Uu:=aW UD;have qG:=hmr.form (gz _ _);have c0:=bQ wr f1 0 _ _ _ hbr;have q0:=gQ wr f1 0 _ _ hbr;have HW:=aW (gK _ f1 0 _ _ (.slice (some ⟨g,0,none⟩) nodes.length cv) hbr);have HEr:=aW (ll hEr f1 0 (.slice (some ⟨g,0,none⟩) nodes.length cv));have YZ:=aW qG;clear UD qG hmr hEr;go_wp2
    refine mg f1 30 #[.slice (some ⟨g,0,none⟩) nodes.length cv] HW.out underlying30 ?_;exact⟨nodes.map En.nd,_,nodes.map En.nd,true,RX nodes,rfl,HF.out.1,HF.out.2,Uu.out.symm,rfl,(YZ.out.oP dH (λb hb=>by subst hb;exact al7)).lower uj.size,HEr.out⟩
end
section
open Go.RowKit
open bE (dh Nd vl Same bI bz)
def uo:jF:=⟨.slice none 0 0,.slice none 0 0,.slice none 0 0,[],λ_=>False,λ_=>none⟩
theorem uY{pp h b:Nat}(hb:lg pp h uo b):b=pp\/(h<=b/\b<h+1+1+1):=by
 rcases hb with h|h|h|h|h
 .exact .inl h
 .exact .inr h
 .simp[uo,Value.ownBlock]at h
 .simp[uo,Value.ownBlock]at h
 .simp[uo,Value.ownBlock]at h
end
section
open Go.RowKit
open bE (dO dP)
def R7:List Row:=[⟨0,[],16,[2]⟩,⟨1,[0],17,[15]⟩,⟨2,[],18,[3]⟩,⟨3,[2,1],19,[17]⟩,⟨4,[1,3],20,[16,18]⟩,⟨5,[4,3],21,[19]⟩,⟨6,[5],22,[20]⟩,⟨7,[5],23,[20]⟩,⟨8,[6,5,0,1,2,3,4,5,6,7],0,[4,21]⟩,⟨9,[7,8,0,1,2,3,4,5,6,7,8],6,[22]⟩]
theorem IQ(t u:Int)(p q:Nat)(w:World)(g1:dS t p=true)(g2:dS u q=true):
 Calls prog 51 #[tY t p,tY u q] w λe w'=>e=.returned (mD (dO 16 (gP t p+gP u q)) (dP 16 (gP t p+gP u q)))/\Ext w w':=by
 have k1:=fe.1 g1;have k2:=fe.1 g2;have b1:=tH (t:=t) (p:=p) (by omega) (B:=1000000) (by omega) (by omega);have b2:=tH (t:=u) (p:=q) (by omega) (B:=1000000) (by omega) (by omega);obtain⟨W,hW,hx,d0,d1,d2⟩:=Ci w (.int .i64 t) (.int .i64 (p:Int)) (.int .i64 u) (.int .i64 (q:Int)) (.int .i64 0) (.int .i64 0) 34;have HD:Hid (oQ W w.heap.size t p/\oQ W (w.heap.size+1) u q/\oQ W (w.heap.size+1+1) 0 0):=aW ⟨d0,d1,d2⟩;have HX:=aW hx;have b3:IntKind.i64.wrap (gP t p+gP u q)=gP t p+gP u q:=(l9 _).trans (by unfold wrap64;omega);obtain⟨kt,hkt⟩:=fu ((if dS (dO 16 (gP t p+gP u q)) (dP 16 (gP t p+gP u q))then dO 16 (gP t p+gP u q)else 0));obtain⟨kp,hkp⟩:=fu ((if dS (dO 16 (gP t p+gP u q)) (dP 16 (gP t p+gP u q))then dP 16 (gP t p+gP u q)else 0));obtain⟨kb,hkb⟩:=fu (dS (dO 16 (gP t p+gP u q)) (dP 16 (gP t p+gP u q)));have en:mD (dO 16 (gP t p+gP u q)) (dP 16 (gP t p+gP u q))=.tuple #[.agg #[.int .i64 kt,.int .i64 (kp:Int)],.bool kb]:=by rw[mD,hkt,hkp,hkb];rfl
 have HL:=aW (λV=>wT (gP t p+gP u q) 16 V (by omega) (by omega) (by omega));rw[en]at HL;rw[en];clear d0 d1 d2 hx hkt hkp hkb en;obtain⟨c0,c1,c2,c3⟩:=HD.out.1.four HD.out.2.1;rw[gM,gM];go_enter Tryz.func51,Tryz.ntmps51
 go_upto_region 1 with fail
 rw[<-hW];clear hW
 go_upto_region 3 with(go_at_call 75;refine(qR _ _ _).mono ?_;rintro e w2 ⟨he,hx2⟩;first
  |(rw[g1]at he;subst he;have hE1:=hx2;have e2:=fw hx2 c2;have e3:=fw hx2 c3)
  |(rw[g2]at he;subst he;have hE2:=ah hE1 hx2))
 have ae:=(HD.out.1.ext (ah hE2 (eX w2))).four (HD.out.2.1.ext (ah hE2 (eX w2)));clear c0 c1 c2 c3 e2 e3 hE1 hx2;refine oJ (λV=>V.cell? ⟨w.heap.size,0,none⟩=some (.int .i64 t)/\V.cell? ⟨w.heap.size,1,none⟩=some (.int .i64 (p:Int))/\V.cell? ⟨w.heap.size+1,0,none⟩=some (.int .i64 u)/\V.cell? ⟨w.heap.size+1,1,none⟩=some (.int .i64 (q:Int))) [8,9] R7 ae (λaj ae=>?_);(refine bP 0 aj ae ?_;refine bP 2 aj ae ?_);(refine jv aj (i:=1) λK hK=>?_;go_simp);refine(wI t p _ (by omega) (by omega) (by omega)).mono ?_;rintro e w3 ⟨rfl,hx3⟩;have mZ:=ah (ah hE2 (eX w2)) hx3;refine hK.out _ _ (λ_=>(HD.out.1.ext mZ).four (HD.out.2.1.ext mZ)) ?_;clear ae hE2 hK K;have ae:=(HD.out.1.ext mZ).four (HD.out.2.1.ext mZ);(try simp only[nP]);(refine jv aj (i:=3) λK hK=>?_;go_simp);refine(wI u q _ (by omega) (by omega) (by omega)).mono ?_;rintro e w4 ⟨rfl,hx4⟩;have oK:=ah mZ hx4;refine hK.out _ _ (λ_=>(HD.out.1.ext oK).four (HD.out.2.1.ext oK)) ?_;clear ae mZ hx3 hx4 hK K;have ae:=(HD.out.1.ext oK).four (HD.out.2.1.ext oK);(try simp only[nP]);(refine bP 4 aj ae ?_);(refine jv aj (i:=5) λK hK=>?_;go_simp);refine(HL.out _).mono ?_;rintro e w5 ⟨rfl,hx5⟩;have uj:=ah oK hx5;refine hK.out _ _ (λ_=>(HD.out.1.ext uj).four (HD.out.2.1.ext uj)) ?_;clear ae oK hx5 hK K;have ae:=(HD.out.1.ext uj).four (HD.out.2.1.ext uj);(try simp only[nP]);(refine bP 6 aj ae ?_;refine bP 7 aj ae ?_);refine nQ aj [8,9] [_,_] ?_;clear aj ae;obtain⟨q0,q1,q2,q3⟩:=eZ (HD.out.2.2.ext uj);have q4:=(q2 (.int .i64 kt)).1;have q5:=(q2 (.int .i64 kt)).2;have HQ:=aW (q3 (.int .i64 kt) (.int .i64 (kp:Int)));have HE:=aW uj;clear q2 q3 uj;go_wp2
 refine mg (w.heap.size+1+1) 34 #[.int .i64 kt,.int .i64 (kp:Int)] HQ.out underlying34 ?_;exact⟨rfl,ll (ll (ah HX.out HE.out) (w.heap.size+1+1) 0 _) (w.heap.size+1+1) 1 _⟩
theorem Sv(t:Int)(p:Nat)(w:World)(h1:-9223372036854775807<=t)(h2:t<=9223372036854775807):Calls prog 36 #[tY t p] w λe w'=>e=.returned (tY (-t) p)/\Ext w w':=by
 obtain⟨W,hW,hx,d0,d1⟩:=Lb w (.int .i64 t) (.int .i64 (p:Int)) (.int .i64 0) (.int .i64 0) 34;have b3:wrap64 (-t)=-t:=by unfold wrap64;omega
 have c0:=bQ W w.heap.size 0 _ _ _ d0;have c1:=bQ W w.heap.size 1 _ _ _ d0;simp only[gE]at c0 c1;obtain⟨q0,q1,q2,q3⟩:=eZ d1;have q4:=(q2 (.int .i64 (-t))).1;have q5:=(q2 (.int .i64 (-t))).2;have HQ:=aW (q3 (.int .i64 (-t)) (.int .i64 (p:Int)));have HE:=aW hx;clear q2 q3 hx d0 d1;rw[gM];go_enter Tryz.func36,Tryz.ntmps36
 go_upto_region 1 with fail
 rw[<-hW];clear hW;go_wp2
 (try simp only[Exit.inBlock,Exit.then]);refine bodyPost_ret (results_cell_row rfl _ _ (w.heap.size+1) 34 #[.int .i64 (-t),.int .i64 (p:Int)] (0,0) _ rfl HQ.out underlying34 rfl (by kernel_rfl)) rfl ?_;exact⟨rfl,ll (ll HE.out (w.heap.size+1) 0 _) (w.heap.size+1) 1 _⟩
def qH(t p:Int):Bool:=dS t p && decide (0<=t)
theorem MG(t p:Int)(w:World):Calls prog 33 #[.agg #[.int .i64 t,.int .i64 p]] w λe w'=>e=.returned (.bool (qH t p))/\Ext w w':=by
 have hx:Ext w (w.alloc (.cells #[.int .i64 t,.int .i64 p] 34)):=by go_grown
 obtain⟨c0,c1⟩:=qg w (.int .i64 t) (.int .i64 p) 34;cases e1:dS t p with
 |false=>
  go_enter Tryz.func33,Tryz.ntmps33
  go_wp2_with (go_at_call 75;refine(qR _ _ _).mono ?_;rintro e w1 ⟨he,hx1⟩;rw[e1]at he;subst he)
  go_ret
  exact⟨gJ (by rw[qH,e1];rfl),ah hx hx1⟩
 |true=>
  by_cases h0:0<=t
  all_goals
   go_enter Tryz.func33,Tryz.ntmps33
   go_wp2_with (go_at_call 75;refine(qR _ _ _).mono ?_;rintro e w1 ⟨he,hx1⟩;rw[e1]at he;subst he;have e0:=fw hx1 c0)
   go_ret
   exact⟨gJ (by rw[qH,e1];simp[h0]),ah hx hx1⟩
end
section
open Go.RowKit
open bE (dh Nd Gm vl Same nf nw Nk dO dP bz)
variable {D D':dh} {l r:List Nat} {j k:Nat} {L:List Gm} {x y:Gm}
theorem xR(g:bE.WF D)(g':bE.WF D')(h:jN D l r D' j)(hl:∀x,x∈l->x<D.length)(hr:∀x,x∈r->x<D.length):Same (vl D' j) (.mk (l.map (vl D)) (r.map (vl D))):=by
 rw[bE.mJ g' h.1];have key:∀q:List Nat,(∀x,x∈q->x<D.length)->∀x,x∈(bO q).map (vl D')↔x∈q.map (vl D):=λq hq x=>by
  rw[az,az];constructor
  .rintro⟨k,hk,rfl⟩
   have hk:=cz.1 hk;exact⟨k,hk,(h.vl g g' (hq k hk)).symm⟩
  .rintro⟨k,hk,rfl⟩
   exact⟨k,cz.2 hk,h.vl g g' (hq k hk)⟩
 exact yL (key l hl) (key r hr)
theorem uz(g:bE.WF D)(g':bE.Good D')(h:jN D l r D' j)(hi:Nk L D)(hx:x∈L)(s:Same (vl D' j) x):Nk L D':=λi hlt=>by
 by_cases c:i<D.length
 .obtain⟨y,hy,k⟩:=hi i c
  exact⟨y,hy,by rw[h.vl g g'.wf c];exact k⟩
 .have e:i=j:=by
   have hj:=h.lt;rcases h.2 with e|e
   .rw[e]at hlt;exact absurd hlt c
   .have hlen:D'.length=D.length+1:=by rw[e];simp
    have h1:D'[D.length]?=some (bO l,bO r):=(by rw[e];simp);have hi':i=D.length:=(by omega);rw[hi'];have k1:=h.1;have hd:D.length<D'.length:=(by omega);rw[af hd]at h1;rw[af hj]at k1;rcases nV j D.length with q|q|q
    .have h0:=dx.1 g'.nodup j D.length hj hd q
     injection h1 with h1;injection k1 with k1;exact absurd (k1.trans h1.symm) h0
    .exact q.symm
    .omega
  subst e;exact⟨x,hx,s⟩
def abA(pp h:Nat)(s:jF)(L:List Gm)(g:Gm)(w:World)(e:Ending)(w':World):Prop:=
 ∃s' i,e=.returned (.int .i64 ((i:Nat):Int))/\jr pp h s w s' w'/\i<s'.D.length/\Same (vl s'.D i) g/\Nk L s'.D
theorem oQ.go{V V':World}{b:Nat}{t:Int}{p:Nat}{pp h:Nat}{s s':jF}(k:oQ V b t p)(hgo:jr pp h s V s' V')(o:Off pp h s V λx=>x=b):oQ V' b t p:=
 (hgo.keep.block b (o b rfl).1 (o b rfl).2).trans k
theorem EO(hS:bE.Shut L):∀(n:Nat) (k:Int),k.natAbs=n->nw k∈L->∀j:Int,(0<=j/\j<=k\/k<=j/\j<=0)->nw j∈L:=λn=>by
 induction n with
 |zero=>intro k hk h j hj;have:j=k:=by omega
        rw[this];exact h
 |succ n ih=>
  intro k hk h j hj;by_cases e:j=k
  .rw[e];exact h
  .by_cases hp:0<k
   .exact ih (k-1) (by omega) (hS _ h _ (.inl (by rw[bE.SK hp];simp))) j (by omega)
   .exact ih (k+1) (by omega) (hS _ h _ (.inr (by rw[bE.Sc (by omega)];simp))) j (by omega)
theorem AR(h:Same x y):Same (.mk [x] []) (.mk [y] [])/\Same (.mk [] [x]) (.mk [] [y]):=by
 constructor
 .rw[bE.same_iff];simp[bE.Gm.l,bE.Gm.r];exact h
 .rw[bE.same_iff];simp[bE.Gm.l,bE.Gm.r];exact h
theorem KQ{u v:Gm}(h:Same x y)(k:Same u v):Same (.mk [x] [u]) (.mk [y] [v]):=by
 rw[bE.same_iff];simp[bE.Gm.l,bE.Gm.r];exact⟨h,k⟩
theorem ab4:nw ((k:Int)+1)=.mk [nw k] []:=by
 have:nw ((k:Int)+1)=bE.nn (k+1):=by unfold nw;rw[if_pos (by omega)];rfl
 rw[this];have:nw (k:Int)=bE.nn k:=by unfold nw;rw[if_pos (by omega)];rfl
 rw[this];rfl
theorem ab5:nw (-((k:Int)+1))=.mk [] [nw (-(k:Int))]:=by
 have:nw (-((k:Int)+1))=bE.nm (k+1):=by unfold nw;rw[if_neg (by omega)];rw[show(-(-((k:Int)+1))).toNat=k+1 by omega]
 rw[this];have:nw (-(k:Int))=bE.nm k:=by
  cases k with
  |zero=>rfl
  |succ k=>unfold nw;rw[if_neg (by omega)];rfl
 rw[this];rfl
end
