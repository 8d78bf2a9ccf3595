/- 28 -/
import Derived.Test.YtplgooajigigkaaGreatDoorK27
set_option maxRecDepth 100000
set_option maxHeartbeats 4000000
namespace Go.Proofs.YtplgooajigigkaaGreatDoor
open Tryz
open Go.RowKit
open bE (dh Nd vl bI bz Same)
variable {w wr:World} {lb lc rb mr b q j m:Nat} {nv gv:Value} {Lc at_ rest idx from_:List Nat} {fm:Value->Option Value} {nodes group V:List En} {D:dh}
theorem OM.aif(m:OM w wr lb lc rb nv gv Lc mr fm nodes group V):OM w wr lb lc rb nv (.slice none 0 0) Lc mr fm nodes [] V:=
 ⟨m.list,m.rank,m.Zd,m.node,⟨by simp,.inl ⟨rfl,rfl⟩⟩,m.yu,m.apart,m.self,λe he x hx=>⟨(m.far e he x hx).1,(m.far e he x hx).2.1,(m.far e he x hx).2.2.1,by simp[Value.ownBlock]⟩,m.a1,m.a2,by simp[Value.ownBlock],by simp[Value.ownBlock],m.ext⟩
def Ue(s:jF)(root:Nat)(w:World)(e:Ending)(w':World):Prop:=
 ∃W1 lv nv lb lc rb gv Lc mr fm nodes,e=.returned (.tuple #[lv,nv])/\Ext w W1/\OM W1 w' lb lc rb nv gv Lc mr fm nodes [] nodes/\bI (nodes.map En.nd)/\Same (bz (nodes.map En.nd)) (vl s.D root)/\(nodes.map En.id).Nodup/\(∀j,j∈nodes.map En.id↔bE.Reach s.D root j)
structure aep(D:dh)(root:Nat)(N:Nat)(nodes:List En)(idx at_:List Nat)(b:Nat)(rest:List Nat)(fm:Value->Option Value):Prop where
 st:qI D root (nodes.map En.nd) idx at_ b rest
 ids:nodes.map En.id=idx
 len:(idx++rest).length=N
 rank:∀x,x∈idx->fm (.int .i64 (x:Int))=some (.int .i64 ((at_.getD x 0:Nat):Int))
structure GInv(D:dh)(at_:List Nat)(b q:Nat)(rest:List Nat)(group:List En):Prop where
 ids:group.map En.id=rest.take q
 nds:∀e,e∈group->e.nd=Xn D at_ e.id
 born:∀j (hj:j<rest.length),j<q->bE.born (vl D rest[j])=b
theorem GInv.start(D:dh)(at_:List Nat)(b:Nat)(rest:List Nat):GInv D at_ b 0 rest []:=⟨by simp,by simp,λ_ _ h=>absurd h (by omega)⟩
theorem GInv.add(h:GInv D at_ b q rest group)(hq:q<rest.length){e:En}(he:e.id=rest[q])(hn:e.nd=Xn D at_ e.id)(hb:bE.born (vl D rest[q])=b):GInv D at_ b (q+1) rest (group++[e]):=by
 refine⟨?_,λa ha=>?_,λj hj hjq=>?_⟩
 .rw[dw,h.ids,bJ hq,<-he];rfl
 .rcases bq.1 ha with ha|ha
  .exact h.nds a ha
  .simp at ha;subst ha;exact hn
 .by_cases c:j=q
  .subst c;exact hb
  .exact h.born j hj (by omega)
theorem GInv.len(h:GInv D at_ b q rest group)(hq:q<=rest.length):group.length=q:=by
 have:=congrArg List.length h.ids;simp at this;omega
theorem NY(w:World)(B n:Nat)(hB:B<=w.heap.size)(hn:n<=1000000):(w.alloc (.cells (madeCells #[Value.slice none 0 0,.slice none 0 0] (n*2)) 91)).ownsRow B 91 2 (.slice (some ⟨w.heap.size,0,none⟩) 0 n) 0 []:=
 ⟨by simp,.inr ⟨w.heap.size,n,_,rfl,hB,eu w _,aU _,by unfold maxLen;omega,by rw[size_madeCells],by simp⟩⟩
theorem Le{w3:World}{N:Nat}{L0:List Nat}(hE:Ext w w3)(hN:L0.length=N)(hl:N<=1000000){B:Nat}(hB:w.heap.size<=B)(ho:w3.ownsRow B 3 1 (.slice (some ⟨lb,0,none⟩) N lc) N ((dB L0).map (Value.int .i64))):
 OM w ((w3.alloc (.map #[] 0)).alloc (.cells (madeCells #[Value.slice none 0 0,.slice none 0 0] (N*2)) 91)) lb lc w3.heap.size (.slice (some ⟨w3.heap.size+1,0,none⟩) 0 N) (.slice none 0 0) L0 0 (λ_=>none) [] [] []:=by
 have z1:(w3.alloc (.map #[] 0)).heap.size=w3.heap.size+1:=fU _ _;have hz:=hE.size;have hlb:=ho.lt lb rfl;refine⟨?_,?_,hz,?_,⟨by simp,.inl ⟨rfl,rfl⟩⟩,by simp,List.Pairwise.nil,by simp,by simp,by omega,?_,by simp[Value.ownBlock],by simp[Value.ownBlock],by go_grown⟩
 .rw[hN];exact((mq ho hB).alloc _).alloc _
 .refine jb.made _ _ (c:=0) ?_
  rw[jo _ _ _ (by omega)];exact alloc_at rfl
 .have:=NY (w3.alloc (.map #[] 0)) w.heap.size N (by omega) hl
  rw[z1]at this;exact this
 .simp[Value.ownBlock];omega
theorem SG(hj:j<from_.length)(hl:from_.length<=rest.length):(idx++(from_.take j++rest.drop j)).set (idx.length+j) from_[j]=idx++(from_.take (j+1)++rest.drop (j+1)):=by
 have h1:(from_.take j).length=j:=by rw[gV];omega
 rw[pM _ _ (by omega),Nat.add_sub_cancel_left,pM _ _ (by omega),h1,qx,kR (by omega:j<rest.length),List.set_cons_zero,bJ hj,dY];rfl
theorem Sb{at2:List Nat}(hj:j<from_.length)(h:∀x,x∈idx++from_.take j->fm (.int .i64 (x:Int))=some (.int .i64 ((at2.getD x 0:Nat):Int)))(ha:at2[from_[j]]?=some m):
 ∀x,x∈idx++from_.take (j+1)->upd (λ_ _=>Classical.propDecidable _) fm (.int .i64 (from_[j]:Int)) (.int .i64 (m:Int)) (.int .i64 (x:Int))=some (.int .i64 ((at2.getD x 0:Nat):Int)):=by
 intro x hx;by_cases c:x=from_[j]
 .subst c;rw[upd_same,bD,ha];rfl
 .rw[upd_ne (by simp;omega)]
  refine h x ?_;rw[bJ hj]at hx;simp only[bq,eT]at hx ⊢;rcases hx with hx|hx|hx
  .exact .inl hx
  .exact .inr hx
  .exact absurd hx c
theorem Oy:(prog.info? 201).map (λi=>(i.zero,i.size,i.bytes))=some (some (.agg #[.int .i64 0,.slice none 0 0,.slice none 0 0]),3,56):=by kernel_rfl
theorem RO{x y z:Value}{e:TypeId}:∀j u,([x,y,z]:List Value)[j]?=some u->(w.alloc (.cells #[x,y,z] e)).cell? ((⟨w.heap.size,0,none⟩:Addr).add j)=some u:=by
 intro j u h
 match j with
 | 0=>simp at h;subst h;exact(World.cell?_alloc_at (w:=w) #[x,y,z] e _ 0 rfl)
 | 1=>simp at h;subst h;exact(World.cell?_alloc_at (w:=w) #[x,y,z] e _ 1 rfl)
 | 2=>simp at h;subst h;exact(World.cell?_alloc_at (w:=w) #[x,y,z] e _ 2 rfl)
 |n+3=>simp at h
theorem Nt{a b:Option Addr}{k:IntKind}{x:Int}{n c d:Nat}:∀u∈([Value.int k x,Value.slice a n c,Value.slice b m d]:List Value),u.oneCell'=true:=by
 intro u h;simp at h;rcases h with rfl|rfl|rfl <;> rfl
theorem Ed(m:OM w wr lb lc rb nv gv Lc mr fm nodes group V){k:Nat}(hk:k<Lc.length):wr.cell? ⟨lb,k,none⟩=some (.int .i64 (Lc[k]:Int)):=by
 rw[m.list.cellAt k (by omega)];simp[dB,hk]
theorem flat3:∀(G:List En) (j:Nat) (hj:j<G.length) (t:Nat),t<3->(G.flatMap En.cells)[j*3+t]?=(G[j].cells)[t]?
 |[],j,hj,_,_=>by simp at hj
 |x :: G,0,_,t,ht=>by
  rw[jZ,dN (by simp[En.cells];omega)];simp
 |x :: G,j+1,hj,t,ht=>by
  rw[jZ,dX (by simp[En.cells];omega)];have e:(j+1)*3+t-x.cells.length=j*3+t:=by simp[En.cells];omega
  rw[e,flat3 G j (by simpa using hj) t ht];simp
theorem FM{gg cg:Nat}(m:OM w wr lb lc rb nv (.slice (some ⟨gg,0,none⟩) group.length cg) Lc mr fm nodes group V)(hj:j<group.length)(t:Nat)(ht:t<3):wr.cell? ⟨gg,j*3+t,none⟩=(group[j].cells)[t]?:=by
 rw[<-flat3 group j hj t ht];exact m.Pv.cellAt (j*3+t) (by omega)
def ZU:List Row:=[⟨0,[],65,[10]⟩,⟨1,[],66,[12]⟩,⟨2,[],67,[2]⟩,⟨3,[2],68,[66]⟩,⟨4,[3],69,[67]⟩,⟨5,[4],70,[68]⟩,⟨6,[],71,[12]⟩,⟨7,[5,6],72,[69,70]⟩,⟨8,[7],73,[71]⟩,⟨9,[],74,[7]⟩,⟨10,[8,9],75,[72,73]⟩,⟨11,[],76,[2]⟩,⟨12,[11],77,[75]⟩,⟨13,[12],78,[76]⟩,⟨14,[13],79,[77]⟩,⟨15,[],80,[12]⟩,⟨16,[14,15],81,[78,79]⟩,⟨17,[16],82,[80]⟩,⟨18,[],83,[7]⟩,⟨19,[17,18,10],84,[81,82]⟩,⟨20,[10,19],85,[74,83]⟩,⟨21,[1,20],86,[65,84]⟩,⟨22,[21],87,[85]⟩,⟨23,[0,22,19],88,[64,86]⟩,⟨24,[23,23,0,1,2,3,4,5,6,7,8,9,10,11,12,13,14,15,16,17,18,19,20,21,22,23],11,[87]⟩]
theorem Sk(pp h:Nat)(s:jF)(root:Nat)(v:Value)(T:Nat->Prop)(w:World)(hP:dA w pp h s)(hr:root<s.D.length)(hv:ji T w v [root]):
 Calls prog 124 #[.pointer (some ⟨pp,0,none⟩),v] w (Ue s root w):=by
 have hds:=hP.small;obtain⟨i0,hi0,hz0,hz1,hz2⟩:=info_parts iU;obtain⟨iN,hiN,zN0,zN1,zN2⟩:=info_parts vG;have hmm:=λw:World=>run_makeMap_plain (P:=prog) (w:=w) 152
 have hx1:Ext w (w.alloc (.cells #[.pointer (some ⟨pp,0,none⟩)] 92)):=by go_grown
 have hbx:=dW w (.pointer (some ⟨pp,0,none⟩)) 92;have aga:(w.alloc (.cells #[.pointer (some ⟨pp,0,none⟩)] 92)).heap.size=w.heap.size+1:=fU _ _;go_enter Tryz.func124,Tryz.ntmps124
 go_upto_region 1 with fail
 generalize w.alloc (.cells #[.pointer (some ⟨pp,0,none⟩)] 92)=W1 at *;go_upto_region 2 with(go_at_call 123;refine(Cm pp h s _ [root] T W1 (hP.ext hx1) (by simpa using hr) (by simp) (hv.ext hx1)).mono ?_;rintro e w2 ⟨v2,Ls,rfl,ho2,OJ,hm2,hx2⟩)
 have aax:∀j,j∈Ls↔bE.Reach s.D root j:=λj=>by rw[hm2];simp
 have hrL:root∈Ls:=(aax root).2 .here;have hL0:0<Ls.length:=List.length_pos_of_mem hrL;have hLD:∀x,x∈Ls->x<s.D.length:=λx hx=>by have:=bE.mi hP.good.wf ((aax x).1 hx);omega
 have Ri:Ls.length<=900000:=by have:=jW OJ hLD;omega
 obtain⟨lb,lc,rfl,hlc,hlm,-⟩:=iy ho2 hL0;have alB:=ho2.lt lb rfl;have hE2:=ah hx1 hx2;have hSB:=I8 pp h s w.heap.size W1.heap.size lb lc Ls w2 (hP.ext hE2) ho2 hLD hL0 (by omega) (fw hx2 hbx) (by omega) (hP.new (by omega)).1 (hP.new (by omega)).2;go_upto_region 3 with(go_at_call 167;refine hSB.mono ?_;rintro e w3 ⟨rfl,L0,hp3,hs3,ho3,hk3⟩)
 have mZ:Ext w w3:=ko hE2 hk3 (λb hb=>by omega);have adK:=(mP (hk3.block w.heap.size (bg (lt_of_cell hbx) hx2.size) (by omega))).trans (fw hx2 hbx);have hn3:=hp3.length_eq;have HST:=aW (qI.start (D:=s.D) (root:=root) (hp3.symm.nodup OJ) (λj=>by rw[hp3.mem_iff];exact aax j) hs3);have aua:∀x,x∈L0->x<s.D.length:=λx hx=>hLD x (hp3.mem_iff.1 hx)
 obtain⟨N,hN⟩:=fu Ls.length;rw[<-hN]at ho3 hL0 Ri hn3 hlc ⊢;have hmk:=λw:World=>run_make (P:=prog) w 28 91 iN (.agg #[.slice none 0 0,.slice none 0 0]) underlying28 hiN zN0 .i64 .i64 (0:Int) (N:Int) (by omega) (by omega) (by rw[zN2];omega) (by omega)
 simp only[zN1,jB,Int.toNat_zero,Nat.zero_mul,Value.cells]at hmk;have hP3:=hP.ext mZ;clear hSB hm2 aax OJ hrL hLD ho2 hp3 hs3 hN hE2 hv;go_upto_region 5 with fail
 have CE:Ext W1 w3:=ko hx2 hk3 (λb hb=>by omega);have hOM:=Le CE hn3 (by omega) (aJ _) ho3;have ahe:=hbx;have amd:((w3.alloc (.map #[] 0)).alloc (.cells (madeCells #[Value.slice none 0 0,.slice none 0 0] (N*2)) 91)).cell? ⟨w.heap.size,0,none⟩=some (.pointer (some ⟨pp,0,none⟩)):=aI (aI adK _) _;generalize (w3.alloc (.map #[] 0)).alloc (.cells (madeCells #[Value.slice none 0 0,.slice none 0 0] (N*2)) 91)=W4 at *;have as1:lb≠w.heap.size:=by omega
 generalize hrb:w3.heap.size=rb at *;have asO:rb≠w.heap.size:=by have:=lt_of_cell adK;simp only at this;omega
 clear hmk hmm ho3 adK mZ hP3 hrb hk3 hx2 CE hbx;have HI0:=aW (show aep s.D root N [] [] (List.replicate (root+1) 0) 0 L0 (λ_=>none) from⟨HST.out,rfl,by simpa using hn3,by simp⟩);go_wp2
 go_loopw [8,9,10,11,12,13] (λnv ff _ _ _ _ wr=>∃(nodes:List En) (idx at_:List Nat) (b:Nat) (rest:List Nat) (fm:Value->Option Value),ff=.int .i64 ((idx.length:Nat):Int)/\OM W1 wr lb lc rb nv (.slice none 0 0) (idx++rest) idx.length fm nodes [] nodes/\Hid (aep s.D root N nodes idx at_ b rest fm)) (λ_ ff _ _ _ _ _=>N-(intOf ff).toNat)
 case atStart=>exact⟨[],[],List.replicate (root+1) 0,0,L0,λ_=>none,rfl,hOM,HI0⟩
 case round=>
  clear hOM amd HI0;obtain⟨nodes,idx,at_,b,rest,fm,rfl,hm,HI⟩:=hrel;have hbx:=fw hm.ext ahe;have hlen:=HI.out.len;rw[bu]at hlen;have hnl:nodes.length=idx.length:=by have:=congrArg List.length HI.out.ids;simpa using this
  by_cases hre:rest.length=0
  .have hrn:rest=[]:=eP hre
   subst hrn;have h1:¬(((idx.length:Nat):Int)<((N:Nat):Int)):=(by omega);have HL:=aW (HI.out.st.last hP.good hr);have HND:=aW (show(nodes.map En.id).Nodup by have:=HI.out.st.nd;rw[gN,<-HI.out.ids]at this;exact this);have HMB:=aW (show ∀j,j∈nodes.map En.id↔bE.Reach s.D root j from λj=>by rw[HI.out.ids,<-HI.out.st.mem j,gN]);obtain⟨an,cn,rfl,-,-⟩:=bT hm.node;clear hlen hre hnl;go_wp2
   refine bodyPost_ret (results_tmp2 rfl _ _ _) rfl ?_;exact⟨W1,_,_,lb,lc,rb,_,_,_,fm,nodes,rfl,hx1,hm,HL.out.1,HL.out.2,HND.out,HMB.out⟩
  .have h1:((idx.length:Nat):Int)<((N:Nat):Int):=by omega
   have h0:0<rest.length:=(by omega);have HS:=aW (HI.out.st.stage h0);obtain⟨b0,hb0⟩:=fu (bE.born (vl s.D rest[0]));rw[<-hb0]at HS;have HB0:=aW hb0;have hm1:=hm.amP;have amf:(wr.alloc (.cells #[] 201)).cell? ⟨w.heap.size,0,none⟩=some (.pointer (some ⟨pp,0,none⟩)):=aI hbx _;clear hb0 hbx hm hre;go_upto_region 8 with fail
   generalize wr.alloc (.cells #[] 201)=W5 at *;generalize hgb:wr.heap.size=gb0 at *;obtain⟨an,cn,rfl,-,-⟩:=bT hm1.node;go_wp2
   go_loopw [10,11,12] (λgv kk _ wr=>∃(q:Nat) (group:List En),q<=rest.length/\kk=.int .i64 ((idx.length+q:Nat):Int)/\OM W1 wr lb lc rb (.slice an nodes.length cn) gv (idx++rest) idx.length fm nodes group (nodes++group)/\Hid (GInv s.D at_ b0 q rest group)) (λ_ kk _ _=>N-(intOf kk).toNat)
   case atStart=>exact⟨0,[],aU _,rfl,by rw[gN];exact hm1,GInv.start _ _ _ _⟩
   case round=>
    clear hm1 amf hgb;obtain⟨q,group,hq,rfl,hm,HG⟩:=hrel;have hbx:=fw hm.ext ahe;have hgl:=HG.out.len hq;obtain⟨kn,hkn⟩:=fu (idx.length+q);rw[<-hkn];have Dn:=aW hkn;replace hnl:=aW hnl;by_cases hqe:q=rest.length
    case' pos=>
     have h2:¬(((kn:Nat):Int)<((N:Nat):Int)):=(by omega);clear hkn;have HQ:=aW (show ∀hl:q<rest.length,bE.born (vl s.D rest[q])≠b0 from λhl=>absurd hl (by omega));go_upto_region 9 with fail
     go_quiet (fail)
    case' neg=>
     have uP:q<rest.length:=(by omega);have h2:((kn:Nat):Int)<((N:Nat):Int):=(by omega);have hE0:=ah hx1 hm.ext;have UI:=hP.ext hE0;obtain⟨x,hxe⟩:=fu (rest[q]);obtain⟨y,hye⟩:=fu (rest[0]);have Gh:bE.Reach s.D root x:=(by rw[hxe];exact HS.out.reach (ai uP));have hyr:bE.Reach s.D root y:=(by rw[hye];exact HS.out.reach (ai h0));have WM:x<s.D.length:=(by have:=bE.mi hP.good.wf Gh;omega);have hyD:y<s.D.length:=(by have:=bE.mi hP.good.wf hyr;omega);have lx:=Ed hm (k:=idx.length+q) (by rw[bu];omega);have ly:=Ed hm (k:=idx.length) (by rw[bu];omega);rw[eQ (by omega)]at lx ly;simp only[Nat.add_sub_cancel_left,qx]at lx ly;rw[<-hxe,<-hkn]at lx;rw[<-hye]at ly;obtain⟨gb,cb,c2,alZ,alY,cx⟩:=UI.CQ WM;obtain⟨gb',cb',c2',-,-,cy⟩:=UI.CQ hyD;rw[c2]at c2';simp only[bU,il,Addr.mk.injEq,true_and,and_true]at c2';obtain⟨rfl,rfl⟩:=c2';have hby:bE.born (vl s.D y)=b0:=(by rw[HB0.out,hye]);rw[hby]at cy;by_cases hbq:bE.born (vl s.D x)=b0
     case pos=>
      rw[hbq]at cx;have HX:=nY hxe Gh hbq;have hxm:x∈rest:=(by rw[hxe];exact ai uP);have hoL:=HS.out.opts hP.good hxm hbq true;have hoR:=HS.out.opts hP.good hxm hbq false;have hlL:=qP hP.good (left:=true) (f:=x);have hlR:=qP hP.good (left:=false) (f:=x);obtain⟨gr,PE,aR,cR,yx,OQ,qC,IJ,hSR⟩:=hP.qc WM;obtain⟨gl,PG,aL,cL,Al,OU,OT,IK,sO⟩:=hP.rG WM;rw[<-(rF WM).1]at IK sO;rw[<-(rF WM).2]at IJ hSR;have aaI:∀y,y∈idx->y<900000000/\at_.getD y 0<900000000:=λy hy=>by
       have h1:=((HS.out.form.mem y).1 hy).1;have h2:=bE.mi hP.good.wf h1;have h3:=TY HS.out.form hy;omega
      have HXN:=aW (show(bO ((opt s.D true x).map λy=>at_.getD y 0),bO ((opt s.D false x).map λy=>at_.getD y 0))=Xn s.D at_ x from rfl);generalize Kg:opt s.D true x=OL at *;generalize Mg:opt s.D false x=OR at *;obtain⟨ag,cg,rfl,-,-⟩:=bT hm.Pv;replace hgl:=aW hgl;have hgn:group.length<=900000:=(by have:=hgl.out;omega);clear hxe hye Gh hyr hby hbq UI hkn Kg Mg hxm;go_upto_region 9 with fail
      go_quiet (fail)
      generalize hW6:wr.drewN nq=W6;have hd6:Ext wr W6:=(by rw[<-hW6];exact dQ ⟨_,rfl⟩);have JB:=hm.ext' hd6;have Xz:=fw hd6 hbx;have lx6:=fw hd6 lx;clear hW6 lx ly cx cy c2;go_upto_region 12 with fail
      have Rm:=ah hx1 JB.ext;have d0:=fw Rm Al;have d1:=fw Rm yx;have dl:=fw Rm IK;have dr:=fw Rm IJ;have hRL:∀W,Ext W6 W->Calls prog 169 #[.slice aL OL.length cL,.map (some rb)] W (F5 (OL.map λy=>at_.getD y 0) W):=λW hW=>ED _ OL rb idx.length fm _ W (sO.ext (ah Rm hW)).out (by omega) (λy hy=>(aaI y (hoL.1 y hy)).1) ((JB.ext' hW).rank) (λy hy=>HI.out.rank y (hoL.1 y hy)) hoL.2.1
      have hRR:∀W,Ext W6 W->Calls prog 169 #[.slice aR OR.length cR,.map (some rb)] W (F5 (OR.map λy=>at_.getD y 0) W):=λW hW=>ED _ OR rb idx.length fm _ W (hSR.ext (ah Rm hW)).out (by omega) (λy hy=>(aaI y (hoR.1 y hy)).1) ((JB.ext' hW).rank) (λy hy=>HI.out.rank y (hoR.1 y hy)) hoR.2.1
      have ahi:∀y,y∈bO (OL.map λy=>at_.getD y 0)->y<900000000:=λy hy=>by obtain⟨z,hz,rfl⟩:=az.1 (cz.1 hy);exact(aaI z (hoL.1 z hz)).2
      have ahh:∀y,y∈bO (OR.map λy=>at_.getD y 0)->y<900000000:=λy hy=>by obtain⟨z,hz,rfl⟩:=az.1 (cz.1 hy);exact(aaI z (hoR.1 z hz)).2
      have hsL:=sw (OL.map λy=>at_.getD y 0);have hsR:=sw (OR.map λy=>at_.getD y 0);rw[bK]at hsL hsR;generalize Rj:bO (OL.map λy=>at_.getD y 0)=LL at *;generalize ahw:bO (OR.map λy=>at_.getD y 0)=RR at *;obtain⟨iE,hiE,zE0,zE1,zE2⟩:=info_parts Oy;refine oJ (λW=>W.cell? ⟨w.heap.size,0,none⟩=some (.pointer (some ⟨pp,0,none⟩))/\W.cell? ⟨pp,0,none⟩=some (.slice (some ⟨gl,0,none⟩) s.D.length PG)/\W.cell? ⟨pp,1,none⟩=some (.slice (some ⟨gr,0,none⟩) s.D.length PE)/\W.cell? ⟨gl,x,none⟩=some (.slice aL OL.length cL)/\W.cell? ⟨gr,x,none⟩=some (.slice aR OR.length cR)) [23,24] ZU ⟨Xz,d0,d1,dl,dr⟩ (λaj ae=>?_);(refine bP 0 aj ae ?_;refine bP 1 aj ae ?_;refine bP 2 aj ae ?_;refine bP 3 aj ae ?_;refine bP 4 aj ae ?_;refine bP 5 aj ae ?_;refine bP 6 aj ae ?_;refine bP 7 aj ae ?_;refine bP 8 aj ae ?_;refine bP 9 aj ae ?_;refine bP 11 aj ae ?_;refine bP 12 aj ae ?_;refine bP 13 aj ae ?_;refine bP 14 aj ae ?_;refine bP 15 aj ae ?_;refine bP 16 aj ae ?_;refine bP 17 aj ae ?_;refine bP 18 aj ae ?_);(refine jv aj (i:=10) λK hK=>?_;go_simp);refine(hRL _ (dQ ⟨1,rfl⟩)).mono ?_;rintro e w7 ⟨v7,rfl,Tm,hx7⟩;rw[Rj]at Tm;have LM:Ext W6 w7:=ah (dQ ⟨1,rfl⟩) hx7;(refine hK.out _ _ (λ_=>?_) ?_)
      .exact⟨fw LM Xz,fw LM d0,fw LM d1,fw LM dl,fw LM dr⟩
      clear hK K;(try simp only[nP]);(refine jv aj (i:=19) λK hK=>?_;go_simp);refine(hRR _ LM).mono ?_;rintro e w8 ⟨v8,rfl,ho8,Gi⟩;rw[ahw]at ho8;clear Rj ahw;have Fq:=ah LM Gi;(refine hK.out _ _ (λ_=>?_) ?_)
      .exact⟨fw Fq Xz,fw Fq d0,fw Fq d1,fw Fq dl,fw Fq dr⟩
      clear hK K;(try simp only[nP]);obtain⟨a7,c7,rfl,-,-⟩:=bT Tm;obtain⟨a8,c8,rfl,-,-⟩:=bT ho8;have hS8:w8.cell? ⟨w.heap.size,0,none⟩=some (.pointer (some ⟨pp,0,none⟩))/\w8.cell? ⟨pp,0,none⟩=some (.slice (some ⟨gl,0,none⟩) s.D.length PG)/\w8.cell? ⟨pp,1,none⟩=some (.slice (some ⟨gr,0,none⟩) s.D.length PE)/\w8.cell? ⟨gl,x,none⟩=some (.slice aL OL.length cL)/\w8.cell? ⟨gr,x,none⟩=some (.slice aR OR.length cR):=⟨fw Fq Xz,fw Fq d0,fw Fq d1,fw Fq dl,fw Fq dr⟩;clear ae;have ae:=hS8;(refine bP 20 aj ae ?_;refine bP 21 aj ae ?_);(refine jv aj (i:=22) λK hK=>?_;go_simp);(refine hK.out _ _ (λ_=>?_) ?_)
      .exact⟨aI hS8.1 _,aI hS8.2.1 _,aI hS8.2.2.1 _,aI hS8.2.2.2.1 _,aI hS8.2.2.2.2 _⟩
      clear hK K;(try simp only[nP]);refine nQ aj [23,24] [_,_] ?_;clear hS8;have hm8:=JB.aem (e:=⟨x,.slice a7 LL.length c7,.slice a8 RR.length c8,LL,RR⟩) Fq ⟨dD Tm Gi,mq ho8 LM.size,ahi,ahh,by show LL.length<=1000000;omega,by show RR.length<=1000000;omega⟩ (λb hb hc=>by have:=(Tm.lt b hb).2;have:=(ho8.lt b hc).1;omega);have hw8:=hm8.ext.size;clear aj ae d0 d1 dl dr hRL hRR hm JB lx6 hbx Xz sO hSR IK IJ Al yx hoL hoR ahi ahh;go_wp2_with (at_builtin;refine eO rfl (.tmp 64) (.tmp 86) 198 rfl W1.heap.size 201 iE (.agg #[.int .i64 0,.slice none 0 0,.slice none 0 0]) 3 56 underlying198 hiE zE0 zE1 zE2 rfl (by decide) (.slice ag group.length cg) group.length _ rfl (hm8.Pv.alloc _) _ 1 _ [.int .i64 (x:Int),.slice a7 LL.length c7,.slice a8 RR.length c8] rfl rfl (.inr ⟨_,rfl,RO⟩) Nt (by unfold maxLen;omega) (by omega) (by rw[fU];omega) ?_;intro v9 w9 Fv Av L8)
      go_roundw
      case rel=>
       have Zg:=hm8.amQ (e:=⟨x,.slice a7 LL.length c7,.slice a8 RR.length c8,LL,RR⟩) (bY (gz _ _) _) Av Fv (by simp) (by simp[En.cells]) L8;rw[dY]at Zg;exact⟨q+1,group++[⟨x,.slice a7 LL.length c7,.slice a8 RR.length c8,LL,RR⟩],by omega,by have:=Dn.out;go_num,Zg,aW (HG.out.add (e:=⟨x,.slice a7 LL.length c7,.slice a8 RR.length c8,LL,RR⟩) uP HX.out.1 HXN.out (by rw[<-HX.out.1];exact HX.out.2.2))⟩
      case measure=>have:=Dn.out;simp[intOf];omega
     case' neg=>
      have hbf:((bE.born (vl s.D x):Int)== (b0:Int))=false:=(by simp;omega);have HQ:=aW (show ∀hl:q<rest.length,bE.born (vl s.D rest[q])≠b0 from λhl=>by rw[<-hxe];exact hbq);clear hxe hye Gh hyr hby hbq UI hkn;go_upto_region 9 with fail
      go_quiet (fail)
    all_goals
     generalize hW6:wr.drewN nq=W6;have hd6:Ext wr W6:=(by rw[<-hW6];exact dQ ⟨_,rfl⟩);have JB:=hm.ext' hd6;have hq1:0<q:=by
      rcases sV q with e|e
      .subst e;exact absurd HB0.out.symm (HQ.out h0)
      .exact e
     replace hgl:=aW hgl;have adE:0<group.length/\group.length<=1000000:=(by have:=hgl.out;omega);clear hW6 hm hbx;obtain⟨gg,cg,rfl,-,-,-⟩:=iy JB.Pv adE.1;have hgg:=JB.Pv.lt gg rfl;have hSE:=aW (I7 W1.heap.size gg cg group W6 JB.Pv (λe he=>JB.yu e (bq.2 (.inr he))) (λe he hb=>(JB.far e (bq.2 (.inr he)) gg hb).2.2.2 rfl) adE.1 adE.2);go_upto_region 14 with(go_at_call 170;refine hSE.out.mono ?_;rintro e w7 ⟨rfl,G',hp7,hs7,Tm,hk7⟩)
     have hm7:=JB.aid hp7 Tm hk7;have hGl:=hp7.length_eq;rw[<-hGl]at ⊢;have hGn:∀e,e∈G'->e.nd=Xn s.D at_ e.id:=λe he=>HG.out.nds e (hp7.mem_iff.1 he)
     have hpi:(G'.map En.id).Perm (rest.take q):=(by rw[<-HG.out.ids];exact hp7.map _);have hsi:(G'.map En.id).Pairwise (λx y=>¬bE.nc (Xn s.D at_ y) (Xn s.D at_ x)<0):=by
      rw[gU];exact fQ (λ{a b} ha hb hab=>by rw[<-hGn a ha,<-hGn b hb];omega) hs7
     have Dm:=aW (HS.out.next hP.good hr hq HG.out.born HQ.out hpi hsi);have HGN:=aW hGn;have hgq:G'.length=q:=(by rw[hGl];exact hgl.out);have alq:=hnl.out;have HAT:=aW (λj (hj:j<(G'.map En.id).length)=>IM (at_:=at_) (n:=(nodes.map En.nd).length) (root:=root) Dm.out.2.1 Dm.out.2.2.1 j hj);have HAO:=aW (λy (hy:y ∉ G'.map En.id)=>FY (from_:=G'.map En.id) (n:=(nodes.map En.nd).length) (root:=root) HS.out.form.atl y hy);have HFL:Hid ((nodes.map En.nd).length=idx.length):=aW (by rw[bK];exact hnl.out);have HR0:Hid (∀x,x∈idx++(G'.map En.id).take 0->fm (.int .i64 (x:Int))=some (.int .i64 (((xw at_ (G'.map En.id) (nodes.map En.nd).length root).getD x 0:Nat):Int))):=aW (λx hx=>by
      rw[List.take_zero,gN]at hx;have hn:x ∉ G'.map En.id:=λhy=>Dm.out.2.2.2 x hy hx
      rw[HI.out.rank x hx,bD,bD,HAO.out x hn])
     have HGQ:=aW hgq;clear JB hSE hp7 hs7 Tm hk7 hGl hGn hpi hsi hgq alq;generalize xw at_ (G'.map En.id) (nodes.map En.nd).length root=at2 at *;obtain⟨from_,hfr⟩:=fu (G'.map En.id);rw[<-hfr]at HR0 HAT Dm HAO;have HFR:=aW hfr;clear hfr;go_wp2
     go_loopw [8,13,14,92] (λnv _ _ ii wr=>∃(j:Nat) (fm':Value->Option Value),j<=G'.length/\ii=.int .i64 ((j:Nat):Int)/\OM W1 wr lb lc rb nv (.slice (some ⟨gg,0,none⟩) G'.length cg) (idx++(from_.take j++rest.drop j)) (idx.length+j) fm' (nodes++G'.take j) G' (nodes++G')/\Hid (∀x,x∈idx++from_.take j->fm' (.int .i64 (x:Int))=some (.int .i64 ((at2.getD x 0:Nat):Int)))) (λ_ _ _ ii _=>G'.length-(intOf ii).toNat)
     case atStart=>exact⟨0,fm,aU _,rfl,by simpa using hm7,HR0⟩
     case round=>
      clear hm7 HR0;obtain⟨j,fm',hj,rfl,hm,HR⟩:=hrel;by_cases hjl:j<G'.length
      .have h3:((j:Nat):Int)<((G'.length:Nat):Int):=by omega
       have hNl:idx.length+G'.length<=900000:=(by have:=HGQ.out;omega);have hfl:from_.length=G'.length:=(by rw[HFR.out,bK]);have hjr:j<rest.length:=(by have:=HGQ.out;omega);have hLc:(idx++(from_.take j++rest.drop j)).length=N:=(by simp;omega);have k0:=FM hm hjl 0 (by omega);have k1:=FM hm hjl 1 (by omega);have k2:=FM hm hjl 2 (by omega);have hen:=hm.yu _ (bq.2 (.inr (ai hjl)));have htk:nodes++G'.take (j+1)=(nodes++G'.take j)++[G'[j]]:=(by rw[bJ hjl,dY]);have hfj:from_[j]?=some G'[j].id:=(by rw[HFR.out,ek,af hjl];rfl);have ag0:G'[j].id<900000:=by
        have h1:G'[j].id∈from_:=nz hfj;have:=Dm.out.2.2.1 _ h1;omega
       have hll:=Ed hm (k:=idx.length+j) (by omega);have hlf:=hm.list.frozenAt (idx.length+j);obtain⟨e,hee⟩:=fu (G'[j]);rw[<-hee]at k0 k1 k2 hen htk hfj ag0;have HFJ:=jm htk hfj;have HEE:=aW hee;clear hee htk hfj;obtain⟨Ni,elv,erv,el,er⟩:=e;obtain⟨b1,d1,e1,-,-⟩:=bT hen.1;obtain⟨b2,d2,e2,-,-⟩:=bT hen.2.1;dsimp only at e1 e2;subst e1 e2;simp only[En.cells,List.getElem?_cons_zero,ry,qy]at k0 k1 k2;obtain⟨np,Xa⟩:=fu (nodes++G'.take j);have hnn:np.length<=1000000:=(by rw[Xa,bu,gV,hnl.out];omega);have HNP:=aW Xa;rw[<-Xa]at hm;obtain⟨av,cv,rfl,-,-⟩:=bT hm.node;have hki:=uO Ni (by simp only at ag0;omega);have HM:=aW hm;have HR2:=aW HR.out;clear Xa;have WN:Ext wr (wr.alloc (.cells #[.int .i64 (Ni:Int),.slice b1 el.length d1,.slice b2 er.length d2] 201)):=bY (gz _ _) _;have GG:=hm.ext' WN;have f0:(wr.alloc (.cells #[.int .i64 (Ni:Int),.slice b1 el.length d1,.slice b2 er.length d2] 201)).cell? ⟨wr.heap.size,0,none⟩=some (.int .i64 (Ni:Int)):=World.cell?_alloc_at _ _ _ 0 rfl;have f1:(wr.alloc (.cells #[.int .i64 (Ni:Int),.slice b1 el.length d1,.slice b2 er.length d2] 201)).cell? ⟨wr.heap.size,1,none⟩=some (.slice b1 el.length d1):=World.cell?_alloc_at _ _ _ 1 rfl;have f2:(wr.alloc (.cells #[.int .i64 (Ni:Int),.slice b1 el.length d1,.slice b2 er.length d2] 201)).cell? ⟨wr.heap.size,2,none⟩=some (.slice b2 er.length d2):=World.cell?_alloc_at _ _ _ 2 rfl;have alB:=(hm.SH).2;have asN:=hm.rank.lt;have hwz:(wr.alloc (.cells #[.int .i64 (Ni:Int),.slice b1 el.length d1,.slice b2 er.length d2] 201)).heap.size=wr.heap.size+1:=fU _ _;clear hm hen;go_upto_region 17 with fail
       clear k0 k1 k2 hll hlf;generalize wr.alloc (.cells #[.int .i64 (Ni:Int),.slice b1 el.length d1,.slice b2 er.length d2] 201)=W10 at *;generalize heb:wr.heap.size=eb at *;have hkr:idx.length+j<N:=(by omega);have hlL:((idx.length+j:Nat):Int)<(N:Int):=(by omega);have hlc:=GG.list.frozenAt (idx.length+j);have hln:=Ed GG (k:=idx.length+j) (by omega);have hS1:=GG.aky (k:=idx.length+j) (by omega) Ni;clear heb;go_upto_region 18 with fail
       have Tu:∃h:j<from_.length,from_[j]=Ni:=by
        have:=HFJ.out.2;obtain⟨h,e⟩:=df.1 this;exact⟨h,e⟩
       have al5:from_.length<=rest.length:=(by have:=HGQ.out;omega);rw[<-Tu.2,SG Tu.1 al5]at hS1;rw[Tu.2]at hS1;have adG:eb≠lb:=(by omega);have ama:eb≠rb:=(by omega);have g0:=(World.cell?_setCell_other W10 ⟨lb,idx.length+j,none⟩ ⟨eb,0,none⟩ (.int .i64 (Ni:Int)) (by simp[adG.symm])).trans f0;have g1:=(World.cell?_setCell_other W10 ⟨lb,idx.length+j,none⟩ ⟨eb,1,none⟩ (.int .i64 (Ni:Int)) (by simp[adG.symm])).trans f1;have g2:=(World.cell?_setCell_other W10 ⟨lb,idx.length+j,none⟩ ⟨eb,2,none⟩ (.int .i64 (Ni:Int)) (by simp[adG.symm])).trans f2;generalize W10.setCell ⟨lb,idx.length+j,none⟩ (.int .i64 (Ni:Int))=W11 at *;clear f0 f1 f2 hlc hln GG;have hM:=hS1.rank;have ahv:=aW hS1;obtain⟨kj,hkj⟩:=fu (idx.length+j);have HKJ:=aW hkj;have as5:idx.length+j<=900000:=(by omega);clear hS1 WN hkj;go_upto_region 19 with(at_mapUpdate;refine ku rfl _ _ _ 152 rfl 3 3 rH underlying152 rb (idx.length+j) fm' rfl hM (by unfold maxLen;omega) (.int .i64 (Ni:Int)) (.int .i64 ((idx.length+j:Nat):Int)) rfl (by go_num) hki ?_;intro w12 ahO adF)
       have adx:=ahv.out.ako ahO adF;have adP:w12.heap[eb]?=W11.heap[eb]?:=(jA adF).block eb (by have:=lt_of_cell g1;exact this) (λh=>ama h);have d1':=(mP adP).trans g1;have d2':=(mP adP).trans g2;have asK:W1.heap.size<=w12.heap.size:=adx.ext.size;clear g0 g1 g2 adP ahv hM ahO adF;go_wp2_with (at_builtin;refine eO rfl (.tmp 110) (.tmp 113) 28 rfl W1.heap.size 91 iN (.agg #[.slice none 0 0,.slice none 0 0]) 2 48 underlying28 hiN zN0 zN1 zN2 rfl (by decide) (.slice av np.length cv) np.length _ rfl (adx.node.alloc _) _ 1 _ [.slice b1 el.length d1,.slice b2 er.length d2] rfl rfl (.inr ⟨_,rfl,DU⟩) xO (by unfold maxLen;omega) (by omega) (by rw[fU];omega) ?_;intro v13 w13 alo al4 alK)
       go_roundw
       case rel=>
        have agQ:=adx.akw (e:=⟨Ni,.slice b1 el.length d1,.slice b2 er.length d2,el,er⟩) (bY (gz _ _) _) al4 alo (by simp) (by simp[En.two]) alK;rw[HNP.out,<-HFJ.out.1]at agQ;exact⟨j+1,_,by omega,by go_num,agQ,aW (by
         have hr:=Sb (at2:=at2) (m:=idx.length+j) (j:=j) (from_:=from_) Tu.1 HR2.out (by rw[<-HFL.out];exact HAT.out j Tu.1);rw[Tu.2]at hr;exact hr)⟩
       case measure=>simp[intOf];omega
      .have hje:j=G'.length:=by omega
       subst hje;have h3:¬(((G'.length:Nat):Int)<((G'.length:Nat):Int)):=(by omega);have hNl:idx.length+G'.length<=900000:=(by have:=HGQ.out;omega);have hfl:from_.length=G'.length:=(by rw[HFR.out,bK]);have hft:from_.take G'.length=from_:=(by rw[<-hfl,dZ]);rw[hft,dZ]at hm;have HR2:=aW HR.out;rw[hft]at HR2;have hmd:=hm.aif;have hrl:G'.length=q:=HGQ.out;have e1:idx++(from_++rest.drop G'.length)=(idx++from_)++rest.drop q:=(by rw[hrl,dY]);have e2:idx.length+G'.length=(idx++from_).length:=(by rw[bu,hfl]);rw[e1,e2]at hmd;have HMD:=aW hmd;have HE2:=aW e2;have HO:Hid (aep s.D root N (nodes++G') (idx++from_) at2 (b0+1) (rest.drop q) fm'):=aW ⟨by
        have h:=Dm.out.1;have e:(nodes++G').map En.nd=nodes.map En.nd++from_.map (Xn s.D at_):=by
         rw[dw,HFR.out,jg];congr 1;exact dC λe he=>HGN.out e he
        rw[e];exact h,by rw[dw,HI.out.ids,HFR.out],by rw[bu,bu,xH,hfl];omega,HR2.out⟩
       have ak8:=aW hrl;clear hm hmd e1 e2 hft HR HR2 hrl;go_wp2
       go_roundw
       case rel=>exact⟨nodes++G',idx++from_,at2,b0+1,rest.drop q,fm',by rw[<-HE2.out];go_num,HMD.out,HO⟩
       case measure=>have:=ak8.out;simp[intOf];omega
