/- 36 -/
import Derived.Test.YtplgooajigigkaaGreatDoorQ35
set_option maxRecDepth 100000
set_option maxHeartbeats 4000000
namespace Go.Proofs.YtplgooajigigkaaGreatDoor
open Tryz
open Go.RowKit
open aZ (cZ Nd vl eD eQ Same)
variable {w wr:World} {lb lc rb mr b q j m:Nat} {nv gv:Value} {Lc at_ rest idx from_:List Nat} {fm:Value->Option Value} {nodes group V:List En} {D:cZ}
theorem OM.adQ(m:OM w wr lb lc rb nv gv Lc mr fm nodes group V):OM w wr lb lc rb nv (.slice none 0 0) Lc mr fm nodes [] V:=
 ⟨m.list,m.rank,m.Vn,m.node,⟨by simp,.inl ⟨rfl,rfl⟩⟩,m.uQ,m.apart,m.self,λe he x hx=>⟨(m.far e he x hx).1,(m.far e he x hx).2.1,(m.far e he x hx).2.2.1,by simp[Value.ownBlock]⟩,m.a1,m.a2,by simp[Value.ownBlock],by simp[Value.ownBlock],m.ext⟩
def PV(s:iK)(root:Nat)(w:World)(e:Ending)(w':World):Prop:=
 ∃W1 lv nv lb lc rb gv Lc mr fm nodes,e=.returned (.tuple #[lv,nv])/\Ext w W1/\OM W1 w' lb lc rb nv gv Lc mr fm nodes [] nodes/\eD (nodes.map En.nd)/\Same (eQ (nodes.map En.nd)) (vl s.D root)/\(nodes.map En.id).Nodup/\(∀j,j∈nodes.map En.id↔aZ.Reach s.D root j)
structure aa5(D:cZ)(root:Nat)(N:Nat)(nodes:List En)(idx at_:List Nat)(b:Nat)(rest:List Nat)(fm:Value->Option Value):Prop where
 st:nO D root (nodes.map En.nd) idx at_ b rest
 ids:nodes.map En.id=idx
 len:(idx++rest).length=N
 rank:∀x,x∈idx->fm (.int .i64 (x:Int))=some (.int .i64 ((at_.getD x 0:Nat):Int))
structure GInv(D:cZ)(at_:List Nat)(b q:Nat)(rest:List Nat)(group:List En):Prop where
 ids:group.map En.id=rest.take q
 nds:∀e,e∈group->e.nd=Xn D at_ e.id
 born:∀j (hj:j<rest.length),j<q->aZ.born (vl D rest[j])=b
theorem GInv.start(D:cZ)(at_:List Nat)(b:Nat)(rest:List Nat):GInv D at_ b 0 rest []:=⟨by simp,by simp,λ_ _ h=>absurd h (by omega)⟩
theorem GInv.add(h:GInv D at_ b q rest group)(hq:q<rest.length){e:En}(he:e.id=rest[q])(hn:e.nd=Xn D at_ e.id)(hb:aZ.born (vl D rest[q])=b):GInv D at_ b (q+1) rest (group++[e]):=by
 refine⟨?_,λa ha=>?_,λj hj hjq=>?_⟩
 .rw[bz,h.ids,aW hq,<-he];rfl
 .rcases aM.1 ha with ha|ha
  .exact h.nds a ha
  .simp at ha;subst ha;exact hn
 .by_cases c:j=q
  .subst c;exact hb
  .exact h.born j hj (by omega)
theorem GInv.len(h:GInv D at_ b q rest group)(hq:q<=rest.length):group.length=q:=by
 have:=congrArg List.length h.ids;simp at this;omega
theorem Kz(w:World)(B n:Nat)(hB:B<=w.heap.size)(hn:n<=1000000):(w.alloc (.cells (madeCells #[Value.slice none 0 0,.slice none 0 0] (n*2)) 91)).ownsRow B 91 2 (.slice (some ⟨w.heap.size,0,none⟩) 0 n) 0 []:=
 ⟨by simp,.inr ⟨w.heap.size,n,_,rfl,hB,dV w _,az _,by unfold maxLen;omega,by rw[size_madeCells],by simp⟩⟩
theorem Hu{w3:World}{N:Nat}{L0:List Nat}(hE:Ext w w3)(hN:L0.length=N)(hl:N<=1000000){B:Nat}(hB:w.heap.size<=B)(ho:w3.ownsRow B 3 1 (.slice (some ⟨lb,0,none⟩) N lc) N ((bV L0).map (Value.int .i64))):
 OM w ((w3.alloc (.map #[] 0)).alloc (.cells (madeCells #[Value.slice none 0 0,.slice none 0 0] (N*2)) 91)) lb lc w3.heap.size (.slice (some ⟨w3.heap.size+1,0,none⟩) 0 N) (.slice none 0 0) L0 0 (λ_=>none) [] [] []:=by
 have z1:(w3.alloc (.map #[] 0)).heap.size=w3.heap.size+1:=eX _ _;have hz:=hE.size;have hlb:=ho.lt lb rfl;refine⟨?_,?_,hz,?_,⟨by simp,.inl ⟨rfl,rfl⟩⟩,by simp,List.Pairwise.nil,by simp,by simp,by omega,?_,by simp[Value.ownBlock],by simp[Value.ownBlock],by go_grown⟩
 .rw[hN];exact((jD ho hB).alloc _).alloc _
 .refine fM.made _ _ (c:=0) ?_
  rw[gI _ _ _ (by omega)];exact alloc_at rfl
 .have:=Kz (w3.alloc (.map #[] 0)) w.heap.size N (by omega) hl
  rw[z1]at this;exact this
 .simp[Value.ownBlock];omega
theorem OV(hj:j<from_.length)(hl:from_.length<=rest.length):(idx++(from_.take j++rest.drop j)).set (idx.length+j) from_[j]=idx++(from_.take (j+1)++rest.drop (j+1)):=by
 have h1:(from_.take j).length=j:=by rw[gZ];omega
 rw[qJ _ _ (by omega),Nat.add_sub_cancel_left,qJ _ _ (by omega),h1,Nat.sub_self,fQ (by omega:j<rest.length),List.set_cons_zero,aW hj,dh];rfl
theorem Ox{at2:List Nat}(hj:j<from_.length)(h:∀x,x∈idx++from_.take j->fm (.int .i64 (x:Int))=some (.int .i64 ((at2.getD x 0:Nat):Int)))(ha:at2[from_[j]]?=some m):
 ∀x,x∈idx++from_.take (j+1)->upd (λ_ _=>Classical.propDecidable _) fm (.int .i64 (from_[j]:Int)) (.int .i64 (m:Int)) (.int .i64 (x:Int))=some (.int .i64 ((at2.getD x 0:Nat):Int)):=by
 intro x hx;by_cases c:x=from_[j]
 .subst c;rw[upd_same,aO,ha];rfl
 .rw[upd_ne (by simp;omega)]
  refine h x ?_;rw[aW hj]at hx;simp only[aM,dB]at hx ⊢;rcases hx with hx|hx|hx
  .exact .inl hx
  .exact .inr hx
  .exact absurd hx c
theorem KV:(prog.info? 201).map (λi=>(i.zero,i.size,i.bytes))=some (some (.agg #[.int .i64 0,.slice none 0 0,.slice none 0 0]),3,56):=by kernel_rfl
theorem Oa{x y z:Value}{e:TypeId}:∀j u,([x,y,z]:List Value)[j]?=some u->(w.alloc (.cells #[x,y,z] e)).cell? ((⟨w.heap.size,0,none⟩:Addr).add j)=some u:=by
 intro j u h
 match j with
 | 0=>simp at h;subst h;exact(World.cell?_alloc_at (w:=w) #[x,y,z] e _ 0 rfl)
 | 1=>simp at h;subst h;exact(World.cell?_alloc_at (w:=w) #[x,y,z] e _ 1 rfl)
 | 2=>simp at h;subst h;exact(World.cell?_alloc_at (w:=w) #[x,y,z] e _ 2 rfl)
 |n+3=>simp at h
theorem JY{a b:Option Addr}{k:IntKind}{x:Int}{n c d:Nat}:∀u∈([Value.int k x,Value.slice a n c,Value.slice b m d]:List Value),u.oneCell'=true:=by
 intro u h;simp at h;rcases h with rfl|rfl|rfl <;> rfl
theorem AB(m:OM w wr lb lc rb nv gv Lc mr fm nodes group V){k:Nat}(hk:k<Lc.length):wr.cell? ⟨lb,k,none⟩=some (.int .i64 (Lc[k]:Int)):=by
 rw[m.list.cellAt k (by omega)];simp[bV,hk]
theorem flat3:∀(G:List En) (j:Nat) (hj:j<G.length) (t:Nat),t<3->(G.flatMap En.cells)[j*3+t]?=(G[j].cells)[t]?
 |[],j,hj,_,_=>by simp at hj
 |x :: G,0,_,t,ht=>by
  rw[jr,bQ (by simp[En.cells];omega)];simp
 |x :: G,j+1,hj,t,ht=>by
  rw[jr,dC (by simp[En.cells];omega)];have e:(j+1)*3+t-x.cells.length=j*3+t:=by simp[En.cells];omega
  rw[e,flat3 G j (by simpa using hj) t ht];simp
theorem Ck{gg cg:Nat}(m:OM w wr lb lc rb nv (.slice (some ⟨gg,0,none⟩) group.length cg) Lc mr fm nodes group V)(hj:j<group.length)(t:Nat)(ht:t<3):wr.cell? ⟨gg,j*3+t,none⟩=(group[j].cells)[t]?:=by
 rw[<-flat3 group j hj t ht];exact m.LP.cellAt (j*3+t) (by omega)
def We:List Row:=[⟨0,[],65,[10]⟩,⟨1,[],66,[12]⟩,⟨2,[],67,[2]⟩,⟨3,[2],68,[66]⟩,⟨4,[3],69,[67]⟩,⟨5,[4],70,[68]⟩,⟨6,[],71,[12]⟩,⟨7,[5,6],72,[69,70]⟩,⟨8,[7],73,[71]⟩,⟨9,[],74,[7]⟩,⟨10,[8,9],75,[72,73]⟩,⟨11,[],76,[2]⟩,⟨12,[11],77,[75]⟩,⟨13,[12],78,[76]⟩,⟨14,[13],79,[77]⟩,⟨15,[],80,[12]⟩,⟨16,[14,15],81,[78,79]⟩,⟨17,[16],82,[80]⟩,⟨18,[],83,[7]⟩,⟨19,[17,18,10],84,[81,82]⟩,⟨20,[10,19],85,[74,83]⟩,⟨21,[1,20],86,[65,84]⟩,⟨22,[21],87,[85]⟩,⟨23,[0,22,19],88,[64,86]⟩,⟨24,[23,23,0,1,2,3,4,5,6,7,8,9,10,11,12,13,14,15,16,17,18,19,20,21,22,23],11,[87]⟩]
theorem OE(pp h:Nat)(s:iK)(root:Nat)(v:Value)(T:Nat->Prop)(w:World)(hP:bX w pp h s)(hr:root<s.D.length)(hv:jB T w v [root]):
 Calls prog 124 #[.pointer (some ⟨pp,0,none⟩),v] w (PV s root w):=by
 have hds:=hP.small;obtain⟨i0,hi0,hz0,hz1,hz2⟩:=info_parts fB;obtain⟨iN,hiN,zN0,zN1,zN2⟩:=info_parts zb;have hmm:=λw:World=>run_makeMap_plain (P:=prog) (w:=w) 152
 have hx1:Ext w (w.alloc (.cells #[.pointer (some ⟨pp,0,none⟩)] 92)):=by go_grown
 have hbx:=bY w (.pointer (some ⟨pp,0,none⟩)) 92;have alW:(w.alloc (.cells #[.pointer (some ⟨pp,0,none⟩)] 92)).heap.size=w.heap.size+1:=eX _ _;go_enter Tryz.func124,Tryz.ntmps124
 go_upto_region 1 with fail
 generalize w.alloc (.cells #[.pointer (some ⟨pp,0,none⟩)] 92)=W1 at *;go_upto_region 2 with(go_at_call 123;refine(DN pp h s _ [root] T W1 (hP.ext hx1) (by simpa using hr) (by simp) (hv.ext hx1)).mono ?_;rintro e w2 ⟨v2,Ls,rfl,ho2,Li,hm2,hx2⟩)
 have Xe:∀j,j∈Ls↔aZ.Reach s.D root j:=λj=>by rw[hm2];simp
 have hrL:root∈Ls:=(Xe root).2 .here;have hL0:0<Ls.length:=List.length_pos_of_mem hrL;have hLD:∀x,x∈Ls->x<s.D.length:=λx hx=>by have:=aZ.mf hP.good.wf ((Xe x).1 hx);omega
 have Vz:Ls.length<=900000:=by have:=iU Li hLD;omega
 obtain⟨lb,lc,rfl,hlc,hlm,-⟩:=gY ho2 hL0;have agu:=ho2.lt lb rfl;have hE2:=ah hx1 hx2;have Ef:=EO pp h s w.heap.size W1.heap.size lb lc Ls w2 (hP.ext hE2) ho2 hLD hL0 (by omega) (dP hx2 hbx) (by omega) (hP.new (by omega)).1 (hP.new (by omega)).2;go_upto_region 3 with(go_at_call 167;refine Ef.mono ?_;rintro e w3 ⟨rfl,L0,hp3,hs3,ho3,hk3⟩)
 have pG:Ext w w3:=jQ hE2 hk3 (λb hb=>by omega);have aaj:=(lh (hk3.block w.heap.size (aJ (lt_of_cell hbx) hx2.size) (by omega))).trans (dP hx2 hbx);have hn3:=hp3.length_eq;have HST:=aI (nO.start (D:=s.D) (root:=root) (hp3.symm.nodup Li) (λj=>by rw[hp3.mem_iff];exact Xe j) hs3);have anj:∀x,x∈L0->x<s.D.length:=λx hx=>hLD x (hp3.mem_iff.1 hx)
 obtain⟨N,hN⟩:=eu Ls.length;rw[<-hN]at ho3 hL0 Vz hn3 hlc ⊢;have hmk:=λw:World=>run_make (P:=prog) w 28 91 iN (.agg #[.slice none 0 0,.slice none 0 0]) underlying28 hiN zN0 .i64 .i64 (0:Int) (N:Int) (by omega) (by omega) (by rw[zN2];omega) (by omega)
 simp only[zN1,eB,Int.toNat_zero,Nat.zero_mul,Value.cells]at hmk;have hP3:=hP.ext pG;clear Ef hm2 Xe Li hrL hLD ho2 hp3 hs3 hN hE2 hv;go_upto_region 5 with fail
 have adM:Ext W1 w3:=jQ hx2 hk3 (λb hb=>by omega);have hOM:=Hu adM hn3 (by omega) (ax _) ho3;have ac9:=hbx;have agZ:((w3.alloc (.map #[] 0)).alloc (.cells (madeCells #[Value.slice none 0 0,.slice none 0 0] (N*2)) 91)).cell? ⟨w.heap.size,0,none⟩=some (.pointer (some ⟨pp,0,none⟩)):=aQ (aQ aaj _) _;generalize (w3.alloc (.map #[] 0)).alloc (.cells (madeCells #[Value.slice none 0 0,.slice none 0 0] (N*2)) 91)=W4 at *;have amo:lb≠w.heap.size:=by omega
 generalize hrb:w3.heap.size=rb at *;have amb:rb≠w.heap.size:=by have:=lt_of_cell aaj;simp only at this;omega
 clear hmk hmm ho3 aaj pG hP3 hrb hk3 hx2 adM hbx;have HI0:=aI (show aa5 s.D root N [] [] (List.replicate (root+1) 0) 0 L0 (λ_=>none) from⟨HST.out,rfl,by simpa using hn3,by simp⟩);go_wp2
 go_loopw [8,9,10,11,12,13] (λnv ff _ _ _ _ wr=>∃(nodes:List En) (idx at_:List Nat) (b:Nat) (rest:List Nat) (fm:Value->Option Value),ff=.int .i64 ((idx.length:Nat):Int)/\OM W1 wr lb lc rb nv (.slice none 0 0) (idx++rest) idx.length fm nodes [] nodes/\Hid (aa5 s.D root N nodes idx at_ b rest fm)) (λ_ ff _ _ _ _ _=>N-(intOf ff).toNat)
 case atStart=>exact⟨[],[],List.replicate (root+1) 0,0,L0,λ_=>none,rfl,hOM,HI0⟩
 case round=>
  clear hOM agZ HI0;obtain⟨nodes,idx,at_,b,rest,fm,rfl,hm,HI⟩:=hrel;have hbx:=dP hm.ext ac9;have hlen:=HI.out.len;rw[aK]at hlen;have hnl:nodes.length=idx.length:=by have:=congrArg List.length HI.out.ids;simpa using this
  by_cases hre:rest.length=0
  .have hrn:rest=[]:=cz hre
   subst hrn;have h1:¬(((idx.length:Nat):Int)<((N:Nat):Int)):=(by omega);have HL:=aI (HI.out.st.last hP.good hr);have HND:=aI (show(nodes.map En.id).Nodup by have:=HI.out.st.nd;rw[gK,<-HI.out.ids]at this;exact this);have HMB:=aI (show ∀j,j∈nodes.map En.id↔aZ.Reach s.D root j from λj=>by rw[HI.out.ids,<-HI.out.st.mem j,gK]);obtain⟨an,cn,rfl,-,-⟩:=bu hm.node;clear hlen hre hnl;go_wp2
   refine bodyPost_ret (results_tmp2 rfl _ _ _) rfl ?_;exact⟨W1,_,_,lb,lc,rb,_,_,_,fm,nodes,rfl,hx1,hm,HL.out.1,HL.out.2,HND.out,HMB.out⟩
  .have h1:((idx.length:Nat):Int)<((N:Nat):Int):=by omega
   have h0:0<rest.length:=(by omega);have HS:=aI (HI.out.st.stage h0);obtain⟨b0,hb0⟩:=eu (aZ.born (vl s.D rest[0]));rw[<-hb0]at HS;have HB0:=aI hb0;have hm1:=hm.ahA;have ag0:(wr.alloc (.cells #[] 201)).cell? ⟨w.heap.size,0,none⟩=some (.pointer (some ⟨pp,0,none⟩)):=aQ hbx _;clear hb0 hbx hm hre;go_upto_region 8 with fail
   generalize wr.alloc (.cells #[] 201)=W5 at *;generalize hgb:wr.heap.size=gb0 at *;obtain⟨an,cn,rfl,-,-⟩:=bu hm1.node;go_wp2
   go_loopw [10,11,12] (λgv kk _ wr=>∃(q:Nat) (group:List En),q<=rest.length/\kk=.int .i64 ((idx.length+q:Nat):Int)/\OM W1 wr lb lc rb (.slice an nodes.length cn) gv (idx++rest) idx.length fm nodes group (nodes++group)/\Hid (GInv s.D at_ b0 q rest group)) (λ_ kk _ _=>N-(intOf kk).toNat)
   case atStart=>exact⟨0,[],az _,rfl,by rw[gK];exact hm1,GInv.start _ _ _ _⟩
   case round=>
    clear hm1 ag0 hgb;obtain⟨q,group,hq,rfl,hm,HG⟩:=hrel;have hbx:=dP hm.ext ac9;have hgl:=HG.out.len hq;obtain⟨kn,hkn⟩:=eu (idx.length+q);rw[<-hkn];have VL:=aI hkn;replace hnl:=aI hnl;by_cases hqe:q=rest.length
    case' pos=>
     have h2:¬(((kn:Nat):Int)<((N:Nat):Int)):=(by omega);clear hkn;have HQ:=aI (show ∀hl:q<rest.length,aZ.born (vl s.D rest[q])≠b0 from λhl=>absurd hl (by omega));go_upto_region 9 with fail
     go_quiet (fail)
    case' neg=>
     have Ld:q<rest.length:=(by omega);have h2:((kn:Nat):Int)<((N:Nat):Int):=(by omega);have hE0:=ah hx1 hm.ext;have Qh:=hP.ext hE0;obtain⟨x,hxe⟩:=eu (rest[q]);obtain⟨y,hye⟩:=eu (rest[0]);have wY:aZ.Reach s.D root x:=(by rw[hxe];exact HS.out.reach (aj Ld));have hyr:aZ.Reach s.D root y:=(by rw[hye];exact HS.out.reach (aj h0));have Sj:x<s.D.length:=(by have:=aZ.mf hP.good.wf wY;omega);have hyD:y<s.D.length:=(by have:=aZ.mf hP.good.wf hyr;omega);have lx:=AB hm (k:=idx.length+q) (by rw[aK];omega);have ly:=AB hm (k:=idx.length) (by rw[aK];omega);rw[fO (by omega)]at lx ly;simp only[Nat.add_sub_cancel_left,Nat.sub_self]at lx ly;rw[<-hxe,<-hkn]at lx;rw[<-hye]at ly;obtain⟨gb,cb,c2,amC,amB,cx⟩:=Qh.zq Sj;obtain⟨gb',cb',c2',-,-,cy⟩:=Qh.zq hyD;rw[c2]at c2';simp only[bN,gz,Addr.mk.injEq,true_and,and_true]at c2';obtain⟨rfl,rfl⟩:=c2';have hby:aZ.born (vl s.D y)=b0:=(by rw[HB0.out,hye]);rw[hby]at cy;by_cases hbq:aZ.born (vl s.D x)=b0
     case pos=>
      rw[hbq]at cx;have HX:=yD hxe wY hbq;have hxm:x∈rest:=(by rw[hxe];exact aj Ld);have hoL:=HS.out.opts hP.good hxm hbq true;have hoR:=HS.out.opts hP.good hxm hbq false;have Xh:=qA hP.good (left:=true) (f:=x);have hlR:=qA hP.good (left:=false) (f:=x);obtain⟨gr,L8,aR,cR,xe,Lp,nK,Er,hSR⟩:=hP.oO Sj;obtain⟨gl,L9,aL,cL,xg,Lu,Lr,Es,yI⟩:=hP.qM Sj;rw[<-(ow Sj).1]at Es yI;rw[<-(ow Sj).2]at Er hSR;have Xt:∀y,y∈idx->y<900000000/\at_.getD y 0<900000000:=λy hy=>by
       have h1:=((HS.out.form.mem y).1 hy).1;have h2:=aZ.mf hP.good.wf h1;have h3:=PR HS.out.form hy;omega
      have HXN:=aI (show(aS ((opt s.D true x).map λy=>at_.getD y 0),aS ((opt s.D false x).map λy=>at_.getD y 0))=Xn s.D at_ x from rfl);generalize Pq:opt s.D true x=OL at *;generalize Qi:opt s.D false x=OR at *;obtain⟨ag,cg,rfl,-,-⟩:=bu hm.LP;replace hgl:=aI hgl;have hgn:group.length<=900000:=(by have:=hgl.out;omega);clear hxe hye wY hyr hby hbq Qh hkn Pq Qi hxm;go_upto_region 9 with fail
      go_quiet (fail)
      generalize Qg:wr.drewN nq=W6;have hd6:Ext wr W6:=(by rw[<-Qg];exact dz ⟨_,rfl⟩);have Fy:=hm.ext' hd6;have Tg:=dP hd6 hbx;have lx6:=dP hd6 lx;clear Qg lx ly cx cy c2;go_upto_region 12 with fail
      have Jf:=ah hx1 Fy.ext;have d0:=dP Jf xg;have d1:=dP Jf xe;have dl:=dP Jf Es;have dr:=dP Jf Er;have hRL:∀W,Ext W6 W->Calls prog 169 #[.slice aL OL.length cL,.map (some rb)] W (Cx (OL.map λy=>at_.getD y 0) W):=λW hW=>Bd _ OL rb idx.length fm _ W (yI.ext (ah Jf hW)).out (by omega) (λy hy=>(Xt y (hoL.1 y hy)).1) ((Fy.ext' hW).rank) (λy hy=>HI.out.rank y (hoL.1 y hy)) hoL.2.1
      have hRR:∀W,Ext W6 W->Calls prog 169 #[.slice aR OR.length cR,.map (some rb)] W (Cx (OR.map λy=>at_.getD y 0) W):=λW hW=>Bd _ OR rb idx.length fm _ W (hSR.ext (ah Jf hW)).out (by omega) (λy hy=>(Xt y (hoR.1 y hy)).1) ((Fy.ext' hW).rank) (λy hy=>HI.out.rank y (hoR.1 y hy)) hoR.2.1
      have adg:∀y,y∈aS (OL.map λy=>at_.getD y 0)->y<900000000:=λy hy=>by obtain⟨z,hz,rfl⟩:=ay.1 (bU.1 hy);exact(Xt z (hoL.1 z hz)).2
      have adf:∀y,y∈aS (OR.map λy=>at_.getD y 0)->y<900000000:=λy hy=>by obtain⟨z,hz,rfl⟩:=ay.1 (bU.1 hy);exact(Xt z (hoR.1 z hz)).2
      have hsL:=o9 (OL.map λy=>at_.getD y 0);have hsR:=o9 (OR.map λy=>at_.getD y 0);rw[bH]at hsL hsR;generalize Y6:aS (OL.map λy=>at_.getD y 0)=LL at *;generalize adu:aS (OR.map λy=>at_.getD y 0)=RR at *;obtain⟨iE,hiE,zE0,zE1,zE2⟩:=info_parts KV;refine mQ (λW=>W.cell? ⟨w.heap.size,0,none⟩=some (.pointer (some ⟨pp,0,none⟩))/\W.cell? ⟨pp,0,none⟩=some (.slice (some ⟨gl,0,none⟩) s.D.length L9)/\W.cell? ⟨pp,1,none⟩=some (.slice (some ⟨gr,0,none⟩) s.D.length L8)/\W.cell? ⟨gl,x,none⟩=some (.slice aL OL.length cL)/\W.cell? ⟨gr,x,none⟩=some (.slice aR OR.length cR)) [23,24] We ⟨Tg,d0,d1,dl,dr⟩ (λai aa=>?_);(refine bg 0 ai aa ?_;refine bg 1 ai aa ?_;refine bg 2 ai aa ?_;refine bg 3 ai aa ?_;refine bg 4 ai aa ?_;refine bg 5 ai aa ?_;refine bg 6 ai aa ?_;refine bg 7 ai aa ?_;refine bg 8 ai aa ?_;refine bg 9 ai aa ?_;refine bg 11 ai aa ?_;refine bg 12 ai aa ?_;refine bg 13 ai aa ?_;refine bg 14 ai aa ?_;refine bg 15 ai aa ?_;refine bg 16 ai aa ?_;refine bg 17 ai aa ?_;refine bg 18 ai aa ?_);(refine kS ai (i:=10) λK hK=>?_;go_simp);refine(hRL _ (dz ⟨1,rfl⟩)).mono ?_;rintro e w7 ⟨v7,rfl,zf,hx7⟩;rw[Y6]at zf;have IJ:Ext W6 w7:=ah (dz ⟨1,rfl⟩) hx7;(refine hK.out _ _ (λ_=>?_) ?_)
      .exact⟨dP IJ Tg,dP IJ d0,dP IJ d1,dP IJ dl,dP IJ dr⟩
      clear hK K;(try simp only[nP]);(refine kS ai (i:=19) λK hK=>?_;go_simp);refine(hRR _ IJ).mono ?_;rintro e w8 ⟨v8,rfl,ho8,Ae⟩;rw[adu]at ho8;clear Y6 adu;have BQ:=ah IJ Ae;(refine hK.out _ _ (λ_=>?_) ?_)
      .exact⟨dP BQ Tg,dP BQ d0,dP BQ d1,dP BQ dl,dP BQ dr⟩
      clear hK K;(try simp only[nP]);obtain⟨a7,c7,rfl,-,-⟩:=bu zf;obtain⟨a8,c8,rfl,-,-⟩:=bu ho8;have hS8:w8.cell? ⟨w.heap.size,0,none⟩=some (.pointer (some ⟨pp,0,none⟩))/\w8.cell? ⟨pp,0,none⟩=some (.slice (some ⟨gl,0,none⟩) s.D.length L9)/\w8.cell? ⟨pp,1,none⟩=some (.slice (some ⟨gr,0,none⟩) s.D.length L8)/\w8.cell? ⟨gl,x,none⟩=some (.slice aL OL.length cL)/\w8.cell? ⟨gr,x,none⟩=some (.slice aR OR.length cR):=⟨dP BQ Tg,dP BQ d0,dP BQ d1,dP BQ dl,dP BQ dr⟩;clear aa;have aa:=hS8;(refine bg 20 ai aa ?_;refine bg 21 ai aa ?_);(refine kS ai (i:=22) λK hK=>?_;go_simp);(refine hK.out _ _ (λ_=>?_) ?_)
      .exact⟨aQ hS8.1 _,aQ hS8.2.1 _,aQ hS8.2.2.1 _,aQ hS8.2.2.2.1 _,aQ hS8.2.2.2.2 _⟩
      clear hK K;(try simp only[nP]);refine mM ai [23,24] [_,_] ?_;clear hS8;have hm8:=Fy.aa0 (e:=⟨x,.slice a7 LL.length c7,.slice a8 RR.length c8,LL,RR⟩) BQ ⟨bW zf Ae,jD ho8 IJ.size,adg,adf,by show LL.length<=1000000;omega,by show RR.length<=1000000;omega⟩ (λb hb hc=>by have:=(zf.lt b hb).2;have:=(ho8.lt b hc).1;omega);have hw8:=hm8.ext.size;clear ai aa d0 d1 dl dr hRL hRR hm Fy lx6 hbx Tg yI hSR Es Er xg xe hoL hoR adg adf;go_wp2_with (at_builtin;refine dm rfl (.tmp 64) (.tmp 86) 198 rfl W1.heap.size 201 iE (.agg #[.int .i64 0,.slice none 0 0,.slice none 0 0]) 3 56 underlying198 hiE zE0 zE1 zE2 rfl (by decide) (.slice ag group.length cg) group.length _ rfl (hm8.LP.alloc _) _ 1 _ [.int .i64 (x:Int),.slice a7 LL.length c7,.slice a8 RR.length c8] rfl rfl (.inr ⟨_,rfl,Oa⟩) JY (by unfold maxLen;omega) (by omega) (by rw[eX];omega) ?_;intro v9 w9 Vt Lv Z5)
      go_roundw
      case rel=>
       have hm9:=hm8.ahB (e:=⟨x,.slice a7 LL.length c7,.slice a8 RR.length c8,LL,RR⟩) (bJ (fJ _ _) _) Lv Vt (by simp) (by simp[En.cells]) Z5;rw[dh]at hm9;exact⟨q+1,group++[⟨x,.slice a7 LL.length c7,.slice a8 RR.length c8,LL,RR⟩],by omega,by have:=VL.out;go_num,hm9,aI (HG.out.add (e:=⟨x,.slice a7 LL.length c7,.slice a8 RR.length c8,LL,RR⟩) Ld HX.out.1 HXN.out (by rw[<-HX.out.1];exact HX.out.2.2))⟩
      case measure=>have:=VL.out;simp[intOf];omega
     case' neg=>
      have hbf:((aZ.born (vl s.D x):Int)== (b0:Int))=false:=(by simp;omega);have HQ:=aI (show ∀hl:q<rest.length,aZ.born (vl s.D rest[q])≠b0 from λhl=>by rw[<-hxe];exact hbq);clear hxe hye wY hyr hby hbq Qh hkn;go_upto_region 9 with fail
      go_quiet (fail)
    all_goals
     generalize Qg:wr.drewN nq=W6;have hd6:Ext wr W6:=(by rw[<-Qg];exact dz ⟨_,rfl⟩);have Fy:=hm.ext' hd6;have hq1:0<q:=by
      rcases pM q with e|e
      .subst e;exact absurd HB0.out.symm (HQ.out h0)
      .exact e
     replace hgl:=aI hgl;have Z9:0<group.length/\group.length<=1000000:=(by have:=hgl.out;omega);clear Qg hm hbx;obtain⟨gg,cg,rfl,-,-,-⟩:=gY Fy.LP Z9.1;have hgg:=Fy.LP.lt gg rfl;have hSE:=aI (EN W1.heap.size gg cg group W6 Fy.LP (λe he=>Fy.uQ e (aM.2 (.inr he))) (λe he hb=>(Fy.far e (aM.2 (.inr he)) gg hb).2.2.2 rfl) Z9.1 Z9.2);go_upto_region 14 with(go_at_call 170;refine hSE.out.mono ?_;rintro e w7 ⟨rfl,G',Lg,hs7,zf,SK⟩)
     have hm7:=Fy.adO Lg zf SK;have hGl:=Lg.length_eq;rw[<-hGl]at ⊢;have hGn:∀e,e∈G'->e.nd=Xn s.D at_ e.id:=λe he=>HG.out.nds e (Lg.mem_iff.1 he)
     have hpi:(G'.map En.id).Perm (rest.take q):=(by rw[<-HG.out.ids];exact Lg.map _);have hsi:(G'.map En.id).Pairwise (λx y=>¬aZ.nc (Xn s.D at_ y) (Xn s.D at_ x)<0):=by
      rw[gP];exact fu (λ{a b} ha hb hab=>by rw[<-hGn a ha,<-hGn b hb];omega) hs7
     have P6:=aI (HS.out.next hP.good hr hq HG.out.born HQ.out hpi hsi);have HGN:=aI hGn;have hgq:G'.length=q:=(by rw[hGl];exact hgl.out);have agk:=hnl.out;have HAT:=aI (λj (hj:j<(G'.map En.id).length)=>Eu (at_:=at_) (n:=(nodes.map En.nd).length) (root:=root) P6.out.2.1 P6.out.2.2.1 j hj);have HAO:=aI (λy (hy:y ∉ G'.map En.id)=>Cu (from_:=G'.map En.id) (n:=(nodes.map En.nd).length) (root:=root) HS.out.form.atl y hy);have Mt:Hid ((nodes.map En.nd).length=idx.length):=aI (by rw[bH];exact hnl.out);have HR0:Hid (∀x,x∈idx++(G'.map En.id).take 0->fm (.int .i64 (x:Int))=some (.int .i64 (((tq at_ (G'.map En.id) (nodes.map En.nd).length root).getD x 0:Nat):Int))):=aI (λx hx=>by
      rw[List.take_zero,gK]at hx;have hn:x ∉ G'.map En.id:=λhy=>P6.out.2.2.2 x hy hx
      rw[HI.out.rank x hx,aO,aO,HAO.out x hn])
     have HGQ:=aI hgq;clear Fy hSE Lg hs7 zf SK hGl hGn hpi hsi hgq agk;generalize tq at_ (G'.map En.id) (nodes.map En.nd).length root=at2 at *;obtain⟨from_,hfr⟩:=eu (G'.map En.id);rw[<-hfr]at HR0 HAT P6 HAO;have Yi:=aI hfr;clear hfr;go_wp2
     go_loopw [8,13,14,92] (λnv _ _ ii wr=>∃(j:Nat) (XP:Value->Option Value),j<=G'.length/\ii=.int .i64 ((j:Nat):Int)/\OM W1 wr lb lc rb nv (.slice (some ⟨gg,0,none⟩) G'.length cg) (idx++(from_.take j++rest.drop j)) (idx.length+j) XP (nodes++G'.take j) G' (nodes++G')/\Hid (∀x,x∈idx++from_.take j->XP (.int .i64 (x:Int))=some (.int .i64 ((at2.getD x 0:Nat):Int)))) (λ_ _ _ ii _=>G'.length-(intOf ii).toNat)
     case atStart=>exact⟨0,fm,az _,rfl,by simpa using hm7,HR0⟩
     case round=>
      clear hm7 HR0;obtain⟨j,XP,hj,rfl,hm,HR⟩:=hrel;by_cases hjl:j<G'.length
      .have h3:((j:Nat):Int)<((G'.length:Nat):Int):=by omega
       have hNl:idx.length+G'.length<=900000:=(by have:=HGQ.out;omega);have hfl:from_.length=G'.length:=(by rw[Yi.out,bH]);have hjr:j<rest.length:=(by have:=HGQ.out;omega);have hLc:(idx++(from_.take j++rest.drop j)).length=N:=(by simp;omega);have k0:=Ck hm hjl 0 (by omega);have k1:=Ck hm hjl 1 (by omega);have k2:=Ck hm hjl 2 (by omega);have hen:=hm.uQ _ (aM.2 (.inr (aj hjl)));have htk:nodes++G'.take (j+1)=(nodes++G'.take j)++[G'[j]]:=(by rw[aW hjl,dh]);have hfj:from_[j]?=some G'[j].id:=(by rw[Yi.out,bO,ae hjl];rfl);have acX:G'[j].id<900000:=by
        have h1:G'[j].id∈from_:=fq hfj;have:=P6.out.2.2.1 _ h1;omega
       have hll:=AB hm (k:=idx.length+j) (by omega);have hlf:=hm.list.frozenAt (idx.length+j);obtain⟨e,Ta⟩:=eu (G'[j]);rw[<-Ta]at k0 k1 k2 hen htk hfj acX;have HFJ:=jW htk hfj;have HEE:=aI Ta;clear Ta htk hfj;obtain⟨JL,elv,erv,el,er⟩:=e;obtain⟨b1,d1,e1,-,-⟩:=bu hen.1;obtain⟨b2,d2,e2,-,-⟩:=bu hen.2.1;dsimp only at e1 e2;subst e1 e2;simp only[En.cells,ek,dQ,Nat.add_zero]at k0 k1 k2;obtain⟨np,YS⟩:=eu (nodes++G'.take j);have hnn:np.length<=1000000:=(by rw[YS,aK,gZ,hnl.out];omega);have HNP:=aI YS;rw[<-YS]at hm;obtain⟨av,cv,rfl,-,-⟩:=bu hm.node;have hki:=qN JL (by simp only at acX;omega);have HM:=aI hm;have HR2:=aI HR.out;clear YS;have Sl:Ext wr (wr.alloc (.cells #[.int .i64 (JL:Int),.slice b1 el.length d1,.slice b2 er.length d2] 201)):=bJ (fJ _ _) _;have Xf:=hm.ext' Sl;have f0:(wr.alloc (.cells #[.int .i64 (JL:Int),.slice b1 el.length d1,.slice b2 er.length d2] 201)).cell? ⟨wr.heap.size,0,none⟩=some (.int .i64 (JL:Int)):=World.cell?_alloc_at _ _ _ 0 rfl;have f1:(wr.alloc (.cells #[.int .i64 (JL:Int),.slice b1 el.length d1,.slice b2 er.length d2] 201)).cell? ⟨wr.heap.size,1,none⟩=some (.slice b1 el.length d1):=World.cell?_alloc_at _ _ _ 1 rfl;have f2:(wr.alloc (.cells #[.int .i64 (JL:Int),.slice b1 el.length d1,.slice b2 er.length d2] 201)).cell? ⟨wr.heap.size,2,none⟩=some (.slice b2 er.length d2):=World.cell?_alloc_at _ _ _ 2 rfl;have agu:=(hm.OW).2;have ama:=hm.rank.lt;have hwz:(wr.alloc (.cells #[.int .i64 (JL:Int),.slice b1 el.length d1,.slice b2 er.length d2] 201)).heap.size=wr.heap.size+1:=eX _ _;clear hm hen;go_upto_region 17 with fail
       clear k0 k1 k2 hll hlf;generalize wr.alloc (.cells #[.int .i64 (JL:Int),.slice b1 el.length d1,.slice b2 er.length d2] 201)=W10 at *;generalize heb:wr.heap.size=eb at *;have hkr:idx.length+j<N:=(by omega);have Xh:((idx.length+j:Nat):Int)<(N:Int):=(by omega);have hlc:=Xf.list.frozenAt (idx.length+j);have hln:=AB Xf (k:=idx.length+j) (by omega);have hS1:=Xf.afF (k:=idx.length+j) (by omega) JL;clear heb;go_upto_region 18 with fail
       have Pm:∃h:j<from_.length,from_[j]=JL:=by
        have:=HFJ.out.2;obtain⟨h,e⟩:=cK.1 this;exact⟨h,e⟩
       have agQ:from_.length<=rest.length:=(by have:=HGQ.out;omega);rw[<-Pm.2,OV Pm.1 agQ]at hS1;rw[Pm.2]at hS1;have aae:eb≠lb:=(by omega);have agU:eb≠rb:=(by omega);have g0:=(World.cell?_setCell_other W10 ⟨lb,idx.length+j,none⟩ ⟨eb,0,none⟩ (.int .i64 (JL:Int)) (by simp[aae.symm])).trans f0;have g1:=(World.cell?_setCell_other W10 ⟨lb,idx.length+j,none⟩ ⟨eb,1,none⟩ (.int .i64 (JL:Int)) (by simp[aae.symm])).trans f1;have g2:=(World.cell?_setCell_other W10 ⟨lb,idx.length+j,none⟩ ⟨eb,2,none⟩ (.int .i64 (JL:Int)) (by simp[aae.symm])).trans f2;generalize W10.setCell ⟨lb,idx.length+j,none⟩ (.int .i64 (JL:Int))=W11 at *;clear f0 f1 f2 hlc hln Xf;have hM:=hS1.rank;have adr:=aI hS1;obtain⟨kj,hkj⟩:=eu (idx.length+j);have HKJ:=aI hkj;have ams:idx.length+j<=900000:=(by omega);clear hS1 Sl hkj;go_upto_region 19 with(at_mapUpdate;refine iO rfl _ _ _ 152 rfl 3 3 oz underlying152 rb (idx.length+j) XP rfl hM (by unfold maxLen;omega) (.int .i64 (JL:Int)) (.int .i64 ((idx.length+j:Nat):Int)) rfl (by go_num) hki ?_;intro QD adF aac)
       have ZY:=adr.out.aft adF aac;have aan:QD.heap[eb]?=W11.heap[eb]?:=(gH aac).block eb (by have:=lt_of_cell g1;exact this) (λh=>agU h);have d1':=(lh aan).trans g1;have d2':=(lh aan).trans g2;have al5:W1.heap.size<=QD.heap.size:=ZY.ext.size;clear g0 g1 g2 aan adr hM adF aac;go_wp2_with (at_builtin;refine dm rfl (.tmp 110) (.tmp 113) 28 rfl W1.heap.size 91 iN (.agg #[.slice none 0 0,.slice none 0 0]) 2 48 underlying28 hiN zN0 zN1 zN2 rfl (by decide) (.slice av np.length cv) np.length _ rfl (ZY.node.alloc _) _ 1 _ [.slice b1 el.length d1,.slice b2 er.length d2] rfl rfl (.inr ⟨_,rfl,Au⟩) xC (by unfold maxLen;omega) (by omega) (by rw[eX];omega) ?_;intro v13 Qc agi agP agD)
       go_roundw
       case rel=>
        have acP:=ZY.afD (e:=⟨JL,.slice b1 el.length d1,.slice b2 er.length d2,el,er⟩) (bJ (fJ _ _) _) agP agi (by simp) (by simp[En.two]) agD;rw[HNP.out,<-HFJ.out.1]at acP;exact⟨j+1,_,by omega,by go_num,acP,aI (by
         have hr:=Ox (at2:=at2) (m:=idx.length+j) (j:=j) (from_:=from_) Pm.1 HR2.out (by rw[<-Mt.out];exact HAT.out j Pm.1);rw[Pm.2]at hr;exact hr)⟩
       case measure=>simp[intOf];omega
      .have Xi:j=G'.length:=by omega
       subst Xi;have h3:¬(((G'.length:Nat):Int)<((G'.length:Nat):Int)):=(by omega);have hNl:idx.length+G'.length<=900000:=(by have:=HGQ.out;omega);have hfl:from_.length=G'.length:=(by rw[Yi.out,bH]);have hft:from_.take G'.length=from_:=(by rw[<-hfl,cO]);rw[hft,cO]at hm;have HR2:=aI HR.out;rw[hft]at HR2;have hmd:=hm.adQ;have hrl:G'.length=q:=HGQ.out;have e1:idx++(from_++rest.drop G'.length)=(idx++from_)++rest.drop q:=(by rw[hrl,dh]);have e2:idx.length+G'.length=(idx++from_).length:=(by rw[aK,hfl]);rw[e1,e2]at hmd;have HMD:=aI hmd;have HE2:=aI e2;have HO:Hid (aa5 s.D root N (nodes++G') (idx++from_) at2 (b0+1) (rest.drop q) XP):=aI ⟨by
        have h:=P6.out.1;have e:(nodes++G').map En.nd=nodes.map En.nd++from_.map (Xn s.D at_):=by
         rw[bz,Yi.out,eP];congr 1;exact bE λe he=>HGN.out e he
        rw[e];exact h,by rw[bz,HI.out.ids,Yi.out],by rw[aK,aK,ug,hfl];omega,HR2.out⟩
       have af6:=aI hrl;clear hm hmd e1 e2 hft HR HR2 hrl;go_wp2
       go_roundw
       case rel=>exact⟨nodes++G',idx++from_,at2,b0+1,rest.drop q,XP,by rw[<-HE2.out];go_num,HMD.out,HO⟩
       case measure=>have:=af6.out;simp[intOf];omega
