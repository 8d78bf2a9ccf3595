/-
  Contract of the program's order at one root: the subpositions in order, each with the ranks of its options.
-/
import Derived.Test.YteknjeohbcgpdaaGreatDoorK39
set_option maxRecDepth 100000
namespace Go.Proofs.YteknjeohbcgpdaaGreatDoor
open Tryz
open Go.RowKit
open bz (dC Nd vl fq eu Same)
variable {w wr:World} {lb lc rb mr b q j m:Nat} {nv gv:Value} {Lc at_ rest idx from_:List Nat} {fm:Value->Option Value} {nodes group V:List En} {D:dC}
theorem OM.X7(m:OM w wr lb lc rb nv gv Lc mr fm nodes group V):OM w wr lb lc rb nv (.slice none 0 0) Lc mr fm nodes [] V:=
 ⟨m.list,m.rank,m.U7,m.node,⟨by simp,.inl ⟨rfl,rfl⟩⟩,m.tC,m.apart,m.self,λe he x hx=>⟨(m.far e he x hx).1,(m.far e he x hx).2.1,(m.far e he x hx).2.2.1,by simp[Value.ownBlock]⟩,m.a1,m.a2,by simp[Value.ownBlock],by simp[Value.ownBlock],m.ext⟩
def P9(s:iQ)(root:Nat)(w:World)(e:Ending)(w':World):Prop:=
 ∃W1 lv nv lb lc rb gv Lc mr fm nodes,e=.returned (.tuple #[lv,nv])/\Ext w W1/\OM W1 w' lb lc rb nv gv Lc mr fm nodes [] nodes/\fq (nodes.map En.nd)/\Same (eu (nodes.map En.nd)) (vl s.D root)/\(nodes.map En.id).Nodup/\(∀j,j∈nodes.map En.id↔bz.Reach s.D root j)
structure Xh(D:dC)(root:Nat)(N:Nat)(nodes:List En)(idx at_:List Nat)(b:Nat)(rest:List Nat)(fm:Value->Option Value):Prop where
 st:oq D root (nodes.map En.nd) idx at_ b rest
 ids:nodes.map En.id=idx
 len:(idx++rest).length=N
 rank:∀x,x∈idx->fm (.int .i64 (x:Int))=some (.int .i64 ((at_.getD x 0:Nat):Int))
structure GInv(D:dC)(at_:List Nat)(b q:Nat)(rest:List Nat)(group:List En):Prop where
 ids:group.map En.id=rest.take q
 nds:∀e,e∈group->e.nd=Xn D at_ e.id
 born:∀j (hj:j<rest.length),j<q->bz.born (vl D rest[j])=b
theorem GInv.start(D:dC)(at_:List Nat)(b:Nat)(rest:List Nat):GInv D at_ b 0 rest []:=⟨by simp,by simp,λ_ _ h=>absurd h (by omega)⟩
theorem GInv.add(h:GInv D at_ b q rest group)(hq:q<rest.length){e:En}(he:e.id=rest[q])(hn:e.nd=Xn D at_ e.id)(hb:bz.born (vl D rest[q])=b):GInv D at_ b (q+1) rest (group++[e]):=by
 refine⟨?_,λa ha=>?_,λj hj hjq=>?_⟩
 .rw[aU,h.ids,bg hq,<-he];rfl
 .rcases aK.1 ha with ha|ha
  .exact h.nds a ha
  .simp at ha;subst ha;exact hn
 .by_cases c:j=q
  .subst c;exact hb
  .exact h.born j hj (by omega)
theorem GInv.len(h:GInv D at_ b q rest group)(hq:q<=rest.length):group.length=q:=by
 have:=congrArg List.length h.ids;simp at this;omega
theorem La(w:World)(B n:Nat)(hB:B<=w.heap.size)(hn:n<=1000000):(w.alloc (.cells (madeCells #[Value.slice none 0 0,.slice none 0 0] (n*2)) 89)).ownsRow B 89 2 (.slice (some ⟨w.heap.size,0,none⟩) 0 n) 0 []:=
 ⟨by simp,.inr ⟨w.heap.size,n,_,rfl,hB,heap_alloc_new w _,az _,by unfold maxLen;omega,by rw[size_madeCells],by simp⟩⟩
theorem IZ{w3:World}{N:Nat}{L0:List Nat}(hE:Ext w w3)(hN:L0.length=N)(hl:N<=1000000){B:Nat}(hB:w.heap.size<=B)(ho:w3.ownsRow B 3 1 (.slice (some ⟨lb,0,none⟩) N lc) N ((dx L0).map (Value.int .i64))):
 OM w ((w3.alloc (.map #[] 0)).alloc (.cells (madeCells #[Value.slice none 0 0,.slice none 0 0] (N*2)) 89)) lb lc w3.heap.size (.slice (some ⟨w3.heap.size+1,0,none⟩) 0 N) (.slice none 0 0) L0 0 (λ_=>none) [] [] []:=by
 have z1:(w3.alloc (.map #[] 0)).heap.size=w3.heap.size+1:=fw _ _;have hz:=hE.size;have hlb:=ho.lt lb rfl;refine⟨?_,?_,hz,?_,⟨by simp,.inl ⟨rfl,rfl⟩⟩,by simp,List.Pairwise.nil,by simp,by simp,by omega,?_,by simp[Value.ownBlock],by simp[Value.ownBlock],by go_grown⟩
 .rw[hN];exact((jX ho hB).alloc _).alloc _
 .refine gu.made _ _ (c:=0) ?_
  rw[Below.heap_alloc _ _ _ (by omega)];exact alloc_at rfl
 .have:=La (w3.alloc (.map #[] 0)) w.heap.size N (by omega) hl
  rw[z1]at this;exact this
 .simp[Value.ownBlock];omega
theorem EU(hj:j<from_.length)(hl:from_.length<=rest.length):(idx++(from_.take j++rest.drop j)).set (idx.length+j) from_[j]=idx++(from_.take (j+1)++rest.drop (j+1)):=by
 have h1:(from_.take j).length=j:=by rw[ek];omega
 rw[List.set_append_right _ _ (by omega),Nat.add_sub_cancel_left,List.set_append_right _ _ (by omega),h1,Nat.sub_self,iO (by omega:j<rest.length),List.set_cons_zero,bg hj,bY];rfl
theorem EL{at2:List Nat}(hj:j<from_.length)(h:∀x,x∈idx++from_.take j->fm (.int .i64 (x:Int))=some (.int .i64 ((at2.getD x 0:Nat):Int)))(ha:at2[from_[j]]?=some m):
 ∀x,x∈idx++from_.take (j+1)->upd (λ_ _=>Classical.propDecidable _) fm (.int .i64 (from_[j]:Int)) (.int .i64 (m:Int)) (.int .i64 (x:Int))=some (.int .i64 ((at2.getD x 0:Nat):Int)):=by
 intro x hx;by_cases c:x=from_[j]
 .subst c;rw[upd_same,aV,ha];rfl
 .rw[upd_ne (by simp;omega)]
  refine h x ?_;rw[bg hj]at hx;simp only[aK,eH]at hx ⊢;rcases hx with hx|hx|hx
  .exact .inl hx
  .exact .inr hx
  .exact absurd hx c
theorem Lv:(prog.info? 192).map (λi=>(i.zero,i.size,i.bytes))=some (some (.agg #[.int .i64 0,.slice none 0 0,.slice none 0 0]),3,56):=by kernel_rfl
theorem Ol{x y z:Value}{e:TypeId}:∀j u,([x,y,z]:List Value)[j]?=some u->(w.alloc (.cells #[x,y,z] e)).cell? ((⟨w.heap.size,0,none⟩:Addr).add j)=some u:=by
 intro j u h
 match j with
 | 0=>simp at h;subst h;exact(World.cell?_alloc_at (w:=w) #[x,y,z] e _ 0 rfl)
 | 1=>simp at h;subst h;exact(World.cell?_alloc_at (w:=w) #[x,y,z] e _ 1 rfl)
 | 2=>simp at h;subst h;exact(World.cell?_alloc_at (w:=w) #[x,y,z] e _ 2 rfl)
 |n+3=>simp at h
theorem Kw{a b:Option Addr}{k:IntKind}{x:Int}{n c d:Nat}:∀u∈([Value.int k x,Value.slice a n c,Value.slice b m d]:List Value),u.oneCell'=true:=by
 intro u h;simp at h;rcases h with rfl|rfl|rfl <;> rfl
theorem vW(m:OM w wr lb lc rb nv gv Lc mr fm nodes group V){k:Nat}(hk:k<Lc.length):wr.cell? ⟨lb,k,none⟩=some (.int .i64 (Lc[k]:Int)):=by
 rw[m.list.cellAt k (by omega)];simp[dx,hk]
theorem flat3:∀(G:List En) (j:Nat) (hj:j<G.length) (t:Nat),t<3->(G.flatMap En.cells)[j*3+t]?=(G[j].cells)[t]?
 |[],j,hj,_,_=>by simp at hj
 |x :: G,0,_,t,ht=>by
  rw[gV,dN (by simp[En.cells];omega)];simp
 |x :: G,j+1,hj,t,ht=>by
  rw[gV,dV (by simp[En.cells];omega)];have e:(j+1)*3+t-x.cells.length=j*3+t:=by simp[En.cells];omega
  rw[e,flat3 G j (by simpa using hj) t ht];simp
theorem rQ{gg cg:Nat}(m:OM w wr lb lc rb nv (.slice (some ⟨gg,0,none⟩) group.length cg) Lc mr fm nodes group V)(hj:j<group.length)(t:Nat)(ht:t<3):wr.cell? ⟨gg,j*3+t,none⟩=(group[j].cells)[t]?:=by
 rw[<-flat3 group j hj t ht];exact m.Hg.cellAt (j*3+t) (by omega)
def VA:List Row:=[⟨0,[],65,[10]⟩,⟨1,[],66,[12]⟩,⟨2,[],67,[2]⟩,⟨3,[2],68,[66]⟩,⟨4,[3],69,[67]⟩,⟨5,[4],70,[68]⟩,⟨6,[],71,[12]⟩,⟨7,[5,6],72,[69,70]⟩,⟨8,[7],73,[71]⟩,⟨9,[],74,[7]⟩,⟨10,[8,9],75,[72,73]⟩,⟨11,[],76,[2]⟩,⟨12,[11],77,[75]⟩,⟨13,[12],78,[76]⟩,⟨14,[13],79,[77]⟩,⟨15,[],80,[12]⟩,⟨16,[14,15],81,[78,79]⟩,⟨17,[16],82,[80]⟩,⟨18,[],83,[7]⟩,⟨19,[17,18,10],84,[81,82]⟩,⟨20,[10,19],85,[74,83]⟩,⟨21,[1,20],86,[65,84]⟩,⟨22,[21],87,[85]⟩,⟨23,[0,22,19],88,[64,86]⟩,⟨24,[23,23,0,1,2,3,4,5,6,7,8,9,10,11,12,13,14,15,16,17,18,19,20,21,22,23],11,[87]⟩]
set_option maxHeartbeats 8000000 in
theorem OU(pp h:Nat)(s:iQ)(root:Nat)(v:Value)(T:Nat->Prop)(w:World)(hP:dm w pp h s)(hr:root<s.D.length)(hv:kD T w v [root]):
 Calls prog 118 #[.pointer (some ⟨pp,0,none⟩),v] w (P9 s root w):=by
 have hds:=hP.small;obtain⟨i0,hi0,hz0,hz1,hz2⟩:=info_parts iy;obtain⟨iN,hiN,zN0,zN1,zN2⟩:=info_parts zV;have hmm:=λw:World=>run_makeMap_plain (P:=prog) (w:=w) 135
 have hx1:Ext w (w.alloc (.cells #[.pointer (some ⟨pp,0,none⟩)] 96)):=by go_grown
 have hbx:=bP w (.pointer (some ⟨pp,0,none⟩)) 96;have ak8:(w.alloc (.cells #[.pointer (some ⟨pp,0,none⟩)] 96)).heap.size=w.heap.size+1:=fw _ _;go_enter Tryz.func118,Tryz.ntmps118
 go_upto_region 1 with fail
 generalize w.alloc (.cells #[.pointer (some ⟨pp,0,none⟩)] 96)=W1 at *;go_upto_region 2 with(go_at_call 117;refine(EM pp h s _ [root] T W1 (hP.ext hx1) (by simpa using hr) (by simp) (hv.ext hx1)).mono ?_;rintro e w2 ⟨v2,Ls,rfl,ho2,LM,hm2,hx2⟩)
 have V6:∀j,j∈Ls↔bz.Reach s.D root j:=λj=>by rw[hm2];simp
 have hrL:root∈Ls:=(V6 root).2 .here;have hL0:0<Ls.length:=List.length_pos_of_mem hrL;have hLD:∀x,x∈Ls->x<s.D.length:=λx hx=>by have:=bz.mX hP.good.wf ((V6 x).1 hx);omega
 have TE:Ls.length<=900000:=by have:=jY LM hLD;omega
 obtain⟨lb,lc,rfl,hlc,hlm,-⟩:=iB ho2 hL0;have ab4:=ho2.lt lb rfl;have hE2:=ay hx1 hx2;have NK:=FM pp h s w.heap.size W1.heap.size lb lc Ls w2 (hP.ext hE2) ho2 hLD hL0 (by omega) ((hx2.cell (lt_of_cell hbx)).trans hbx) (by omega) (hP.new (by omega)).1 (hP.new (by omega)).2;go_upto_region 3 with(go_at_call 163;refine NK.mono ?_;rintro e w3 ⟨rfl,L0,hp3,hs3,ho3,hk3⟩)
 have xx:Ext w w3:=kP hE2 hk3 (λb hb=>by omega);have Zn:=(World.cell?_of_block (hk3.block w.heap.size (aQ (lt_of_cell hbx) hx2.size) (by omega))).trans ((hx2.cell (lt_of_cell hbx)).trans hbx);have hn3:=hp3.length_eq;have HST:=aH (oq.start (D:=s.D) (root:=root) (hp3.symm.nodup LM) (λj=>by rw[hp3.mem_iff];exact V6 j) hs3);have amI:∀x,x∈L0->x<s.D.length:=λx hx=>hLD x (hp3.mem_iff.1 hx)
 obtain⟨N,hN⟩:∃N,N=Ls.length:=⟨_,rfl⟩;rw[<-hN]at ho3 hL0 TE hn3 hlc ⊢;have hmk:=λw:World=>run_make (P:=prog) w 26 89 iN (.agg #[.slice none 0 0,.slice none 0 0]) underlying26 hiN zN0 .i64 .i64 (0:Int) (N:Int) (by omega) (by omega) (by rw[zN2];omega) (by omega)
 simp only[zN1,kV,Int.toNat_zero,Nat.zero_mul,Value.cells]at hmk;have hP3:=hP.ext xx;clear NK hm2 V6 LM hrL hLD ho2 hp3 hs3 hN hE2 hv;go_upto_region 5 with fail
 have ada:Ext W1 w3:=kP hx2 hk3 (λb hb=>by omega);have hOM:=IZ ada hn3 (by omega) (ai _) ho3;have Wi:=hbx;have af6:((w3.alloc (.map #[] 0)).alloc (.cells (madeCells #[Value.slice none 0 0,.slice none 0 0] (N*2)) 89)).cell? ⟨w.heap.size,0,none⟩=some (.pointer (some ⟨pp,0,none⟩)):=bI (bI Zn _) _;generalize (w3.alloc (.map #[] 0)).alloc (.cells (madeCells #[Value.slice none 0 0,.slice none 0 0] (N*2)) 89)=W4 at *;have alC:lb≠w.heap.size:=by omega
 generalize hrb:w3.heap.size=rb at *;have alm:rb≠w.heap.size:=by have:=lt_of_cell Zn;simp only at this;omega
 clear hmk hmm ho3 Zn xx hP3 hrb hk3 hx2 ada hbx;have HI0:=aH (show Xh s.D root N [] [] (List.replicate (root+1) 0) 0 L0 (λ_=>none) from⟨HST.out,rfl,by simpa using hn3,by simp⟩);go_wp2
 go_loopw [8,9,10,11,12,13] (λnv ff _ _ _ _ wr=>∃(nodes:List En) (idx at_:List Nat) (b:Nat) (rest:List Nat) (fm:Value->Option Value),ff=.int .i64 ((idx.length:Nat):Int)/\OM W1 wr lb lc rb nv (.slice none 0 0) (idx++rest) idx.length fm nodes [] nodes/\Hid (Xh s.D root N nodes idx at_ b rest fm)) (λ_ ff _ _ _ _ _=>N-(intOf ff).toNat)
 case atStart=>exact⟨[],[],List.replicate (root+1) 0,0,L0,λ_=>none,rfl,hOM,HI0⟩
 case round=>
  clear hOM af6 HI0;obtain⟨nodes,idx,at_,b,rest,fm,rfl,hm,HI⟩:=hrel;have hbx:=(hm.ext.cell (lt_of_cell Wi)).trans Wi;have hlen:=HI.out.len;rw[aj]at hlen;have hnl:nodes.length=idx.length:=by have:=congrArg List.length HI.out.ids;simpa using this
  by_cases hre:rest.length=0
  .have hrn:rest=[]:=fE hre
   subst hrn;have h1:¬(((idx.length:Nat):Int)<((N:Nat):Int)):=(by omega);have HL:=aH (HI.out.st.last hP.good hr);have HND:=aH (show(nodes.map En.id).Nodup by have:=HI.out.st.nd;rw[bq,<-HI.out.ids]at this;exact this);have HMB:=aH (show ∀j,j∈nodes.map En.id↔bz.Reach s.D root j from λj=>by rw[HI.out.ids,<-HI.out.st.mem j,bq]);obtain⟨an,cn,rfl,-,-⟩:=bD hm.node;clear hlen hre hnl;go_wp2
   refine bodyPost_ret (results_tmp2 rfl _ _ _) rfl ?_;exact⟨W1,_,_,lb,lc,rb,_,_,_,fm,nodes,rfl,hx1,hm,HL.out.1,HL.out.2,HND.out,HMB.out⟩
  .have h1:((idx.length:Nat):Int)<((N:Nat):Int):=by omega
   have h0:0<rest.length:=(by omega);have HS:=aH (HI.out.st.stage h0);obtain⟨b0,hb0⟩:∃b0,b0=bz.born (vl s.D rest[0]):=⟨_,rfl⟩;rw[<-hb0]at HS;have HB0:=aH hb0;have hm1:=hm.agH;have af7:(wr.alloc (.cells #[] 192)).cell? ⟨w.heap.size,0,none⟩=some (.pointer (some ⟨pp,0,none⟩)):=bI hbx _;clear hb0 hbx hm hre;go_upto_region 8 with fail
   generalize wr.alloc (.cells #[] 192)=W5 at *;generalize hgb:wr.heap.size=gb0 at *;obtain⟨an,cn,rfl,-,-⟩:=bD hm1.node;go_wp2
   go_loopw [10,11,12] (λgv kk _ wr=>∃(q:Nat) (group:List En),q<=rest.length/\kk=.int .i64 ((idx.length+q:Nat):Int)/\OM W1 wr lb lc rb (.slice an nodes.length cn) gv (idx++rest) idx.length fm nodes group (nodes++group)/\Hid (GInv s.D at_ b0 q rest group)) (λ_ kk _ _=>N-(intOf kk).toNat)
   case atStart=>exact⟨0,[],az _,rfl,by rw[bq];exact hm1,GInv.start _ _ _ _⟩
   case round=>
    clear hm1 af7 hgb;obtain⟨q,group,hq,rfl,hm,HG⟩:=hrel;have hbx:=(hm.ext.cell (lt_of_cell Wi)).trans Wi;have hgl:=HG.out.len hq;obtain⟨kn,hkn⟩:∃n,n=idx.length+q:=⟨_,rfl⟩;rw[<-hkn];have Bb:=aH hkn;replace hnl:=aH hnl;by_cases hqe:q=rest.length
    .have h2:¬(((kn:Nat):Int)<((N:Nat):Int)):=by omega
     clear hkn;have HQ:=aH (show ∀hl:q<rest.length,bz.born (vl s.D rest[q])≠b0 from λhl=>absurd hl (by omega));go_upto_region 9 with fail
     go_quiet (fail)
     generalize XU:wr.drewN nq=W6;have hd6:Ext wr W6:=(by rw[<-XU];exact bS ⟨_,rfl⟩);have zW:=hm.ext' hd6;have hq1:0<q:=by
      rcases kg q with e|e
      .subst e;exact absurd HB0.out.symm (HQ.out h0)
      .exact e
     replace hgl:=aH hgl;have LW:0<group.length/\group.length<=1000000:=(by have:=hgl.out;omega);clear XU hm hbx;obtain⟨gg,cg,rfl,-,-,-⟩:=iB zW.Hg LW.1;have hgg:=zW.Hg.lt gg rfl;have hSE:=aH (ym W1.heap.size gg cg group W6 zW.Hg (λe he=>zW.tC e (aK.2 (.inr he))) (λe he hb=>(zW.far e (aK.2 (.inr he)) gg hb).2.2.2 rfl) LW.1 LW.2);go_upto_region 14 with(go_at_call 166;refine hSE.out.mono ?_;rintro e w7 ⟨rfl,G',Sy,hs7,Hd,Kb⟩)
     have hm7:=zW.X6 Sy Hd Kb;have X4:=Sy.length_eq;rw[<-X4]at ⊢;have hGn:∀e,e∈G'->e.nd=Xn s.D at_ e.id:=λe he=>HG.out.nds e (Sy.mem_iff.1 he)
     have hpi:(G'.map En.id).Perm (rest.take q):=(by rw[<-HG.out.ids];exact Sy.map _);have hsi:(G'.map En.id).Pairwise (λx y=>¬bz.nc (Xn s.D at_ y) (Xn s.D at_ x)<0):=by
      rw[jl];exact ig (λ{a b} ha hb hab=>by rw[<-hGn a ha,<-hGn b hb];omega) hs7
     have Aj:=aH (HS.out.next hP.good hr hq HG.out.born HQ.out hpi hsi);have HGN:=aH hGn;have hgq:G'.length=q:=(by rw[X4];exact hgl.out);have Y0:=hnl.out;have HAT:=aH (λj (hj:j<(G'.map En.id).length)=>Ae (at_:=at_) (n:=(nodes.map En.nd).length) (root:=root) Aj.out.2.1 Aj.out.2.2.1 j hj);have HAO:=aH (λy (hy:y ∉ G'.map En.id)=>xV (from_:=G'.map En.id) (n:=(nodes.map En.nd).length) (root:=root) HS.out.form.atl y hy);have Og:Hid ((nodes.map En.nd).length=idx.length):=aH (by rw[aJ];exact hnl.out);have HR0:Hid (∀x,x∈idx++(G'.map En.id).take 0->fm (.int .i64 (x:Int))=some (.int .i64 (((qo at_ (G'.map En.id) (nodes.map En.nd).length root).getD x 0:Nat):Int))):=aH (λx hx=>by
      rw[sD,bq]at hx;have hn:x ∉ G'.map En.id:=λhy=>Aj.out.2.2.2 x hy hx
      rw[HI.out.rank x hx,aV,aV,HAO.out x hn])
     have UY:=aH hgq;clear zW hSE Sy hs7 Hd Kb X4 hGn hpi hsi hgq Y0;generalize qo at_ (G'.map En.id) (nodes.map En.nd).length root=at2 at *;obtain⟨from_,hfr⟩:∃f,f=G'.map En.id:=⟨_,rfl⟩;rw[<-hfr]at HR0 HAT Aj HAO;have Qu:=aH hfr;clear hfr;go_wp2
     go_loopw [8,13,14,92] (λnv _ _ ii wr=>∃(j:Nat) (Kk:Value->Option Value),j<=G'.length/\ii=.int .i64 ((j:Nat):Int)/\OM W1 wr lb lc rb nv (.slice (some ⟨gg,0,none⟩) G'.length cg) (idx++(from_.take j++rest.drop j)) (idx.length+j) Kk (nodes++G'.take j) G' (nodes++G')/\Hid (∀x,x∈idx++from_.take j->Kk (.int .i64 (x:Int))=some (.int .i64 ((at2.getD x 0:Nat):Int)))) (λ_ _ _ ii _=>G'.length-(intOf ii).toNat)
     case atStart=>exact⟨0,fm,az _,rfl,by simpa using hm7,HR0⟩
     case round=>
      clear hm7 HR0;obtain⟨j,Kk,hj,rfl,hm,HR⟩:=hrel;by_cases hjl:j<G'.length
      .have h3:((j:Nat):Int)<((G'.length:Nat):Int):=by omega
       have hNl:idx.length+G'.length<=900000:=(by have:=UY.out;omega);have hfl:from_.length=G'.length:=(by rw[Qu.out,aJ]);have hjr:j<rest.length:=(by have:=UY.out;omega);have hLc:(idx++(from_.take j++rest.drop j)).length=N:=(by simp;omega);have k0:=rQ hm hjl 0 (by omega);have k1:=rQ hm hjl 1 (by omega);have k2:=rQ hm hjl 2 (by omega);have hen:=hm.tC _ (aK.2 (.inr (ah hjl)));have htk:nodes++G'.take (j+1)=(nodes++G'.take j)++[G'[j]]:=(by rw[bg hjl,bY]);have hfj:from_[j]?=some G'[j].id:=(by rw[Qu.out,dB,aa hjl];rfl);have S9:G'[j].id<900000:=by
        have h1:G'[j].id∈from_:=dU hfj;have:=Aj.out.2.2.1 _ h1;omega
       have hll:=vW hm (k:=idx.length+j) (by omega);have hlf:=hm.list.frozenAt (idx.length+j);obtain⟨e,Wh⟩:∃e,e=G'[j]:=⟨_,rfl⟩;rw[<-Wh]at k0 k1 k2 hen htk hfj S9;have HFJ:=aH (And.intro htk hfj);have HEE:=aH Wh;clear Wh htk hfj;obtain⟨wP,elv,erv,el,er⟩:=e;obtain⟨b1,d1,e1,-,-⟩:=bD hen.1;obtain⟨b2,d2,e2,-,-⟩:=bD hen.2.1;dsimp only at e1 e2;subst e1 e2;simp only[En.cells,dQ,dJ,kS]at k0 k1 k2;obtain⟨np,Ka⟩:∃np,np=nodes++G'.take j:=⟨_,rfl⟩;have hnn:np.length<=1000000:=(by rw[Ka,aj,ek,hnl.out];omega);have HNP:=aH Ka;rw[<-Ka]at hm;obtain⟨av,cv,rfl,-,-⟩:=bD hm.node;have hki:=qj wP (by simp only at S9;omega);have HM:=aH hm;have HR2:=aH HR.out;clear Ka;have Si:Ext wr (wr.alloc (.cells #[.int .i64 (wP:Int),.slice b1 el.length d1,.slice b2 er.length d2] 192)):=bK (Below.refl _ _) _;have Gg:=hm.ext' Si;have f0:(wr.alloc (.cells #[.int .i64 (wP:Int),.slice b1 el.length d1,.slice b2 er.length d2] 192)).cell? ⟨wr.heap.size,0,none⟩=some (.int .i64 (wP:Int)):=World.cell?_alloc_at _ _ _ 0 rfl;have f1:(wr.alloc (.cells #[.int .i64 (wP:Int),.slice b1 el.length d1,.slice b2 er.length d2] 192)).cell? ⟨wr.heap.size,1,none⟩=some (.slice b1 el.length d1):=World.cell?_alloc_at _ _ _ 1 rfl;have f2:(wr.alloc (.cells #[.int .i64 (wP:Int),.slice b1 el.length d1,.slice b2 er.length d2] 192)).cell? ⟨wr.heap.size,2,none⟩=some (.slice b2 er.length d2):=World.cell?_alloc_at _ _ _ 2 rfl;have ab4:=(hm.Lg).2;have afk:=hm.rank.lt;have hwz:(wr.alloc (.cells #[.int .i64 (wP:Int),.slice b1 el.length d1,.slice b2 er.length d2] 192)).heap.size=wr.heap.size+1:=fw _ _;clear hm hen;go_upto_region 17 with fail
       clear k0 k1 k2 hll hlf;generalize wr.alloc (.cells #[.int .i64 (wP:Int),.slice b1 el.length d1,.slice b2 er.length d2] 192)=Xd at *;generalize heb:wr.heap.size=eb at *;have hkr:idx.length+j<N:=(by omega);have Vd:((idx.length+j:Nat):Int)<(N:Int):=(by omega);have hlc:=Gg.list.frozenAt (idx.length+j);have hln:=vW Gg (k:=idx.length+j) (by omega);have hS1:=Gg.abk (k:=idx.length+j) (by omega) wP;clear heb;go_upto_region 18 with fail
       have zX:∃h:j<from_.length,from_[j]=wP:=by
        have:=HFJ.out.2;obtain⟨h,e⟩:=dI.1 this;exact⟨h,e⟩
       have Zh:from_.length<=rest.length:=(by have:=UY.out;omega);rw[<-zX.2,EU zX.1 Zh]at hS1;rw[zX.2]at hS1;have L6:eb≠lb:=(by omega);have Zi:eb≠rb:=(by omega);have g0:=(World.cell?_setCell_other Xd ⟨lb,idx.length+j,none⟩ ⟨eb,0,none⟩ (.int .i64 (wP:Int)) (by simp[L6.symm])).trans f0;have g1:=(World.cell?_setCell_other Xd ⟨lb,idx.length+j,none⟩ ⟨eb,1,none⟩ (.int .i64 (wP:Int)) (by simp[L6.symm])).trans f1;have g2:=(World.cell?_setCell_other Xd ⟨lb,idx.length+j,none⟩ ⟨eb,2,none⟩ (.int .i64 (wP:Int)) (by simp[L6.symm])).trans f2;generalize Xd.setCell ⟨lb,idx.length+j,none⟩ (.int .i64 (wP:Int))=W11 at *;clear f0 f1 f2 hlc hln Gg;have hM:=hS1.rank;have Tx:=aH hS1;obtain⟨kj,hkj⟩:∃n,n=idx.length+j:=⟨_,rfl⟩;have HKJ:=aH hkj;have afL:idx.length+j<=900000:=(by omega);clear hS1 Si hkj;go_upto_region 19 with(at_mapUpdate;refine iT rfl _ _ _ 135 rfl 3 3 oD underlying135 rb (idx.length+j) Kk rfl hM (by unfold maxLen;omega) (.int .i64 (wP:Int)) (.int .i64 ((idx.length+j:Nat):Int)) rfl (by go_num) hki ?_;intro w12 TD LY)
       have LQ:=Tx.out.aa5 TD LY;have Mc:w12.heap[eb]?=W11.heap[eb]?:=(gJ LY).block eb (by have:=lt_of_cell g1;exact this) (λh=>Zi h);have d1':=(World.cell?_of_block Mc).trans g1;have d2':=(World.cell?_of_block Mc).trans g2;have afa:W1.heap.size<=w12.heap.size:=LQ.ext.size;clear g0 g1 g2 Mc Tx hM TD LY;go_wp2_with (at_builtin;refine bQ rfl (.tmp 110) (.tmp 113) 26 rfl W1.heap.size 89 iN (.agg #[.slice none 0 0,.slice none 0 0]) 2 48 underlying26 hiN zN0 zN1 zN2 rfl (by decide) (.slice av np.length cv) np.length _ rfl (LQ.node.alloc _) _ 1 _ [.slice b1 el.length d1,.slice b2 er.length d2] rfl rfl (.inr ⟨_,rfl,FD⟩) uw (by unfold maxLen;omega) (by omega) (by rw[fw];omega) ?_;intro v13 w13 YZ Zg Y6)
       go_roundw
       case rel=>
        have SN:=LQ.abh (e:=⟨wP,.slice b1 el.length d1,.slice b2 er.length d2,el,er⟩) (bK (Below.refl _ _) _) Zg YZ (by simp) (by simp[En.two]) Y6;rw[HNP.out,<-HFJ.out.1]at SN;exact⟨j+1,_,by omega,by go_num,SN,aH (by
         have hr:=EL (at2:=at2) (m:=idx.length+j) (j:=j) (from_:=from_) zX.1 HR2.out (by rw[<-Og.out];exact HAT.out j zX.1);rw[zX.2]at hr;exact hr)⟩
       case measure=>simp[intOf];omega
      .have Za:j=G'.length:=by omega
       subst Za;have h3:¬(((G'.length:Nat):Int)<((G'.length:Nat):Int)):=(by omega);have hNl:idx.length+G'.length<=900000:=(by have:=UY.out;omega);have hfl:from_.length=G'.length:=(by rw[Qu.out,aJ]);have hft:from_.take G'.length=from_:=(by rw[<-hfl,dz]);rw[hft,dz]at hm;have HR2:=aH HR.out;rw[hft]at HR2;have hmd:=hm.X7;have hrl:G'.length=q:=UY.out;have e1:idx++(from_++rest.drop G'.length)=(idx++from_)++rest.drop q:=(by rw[hrl,bY]);have e2:idx.length+G'.length=(idx++from_).length:=(by rw[aj,hfl]);rw[e1,e2]at hmd;have HMD:=aH hmd;have HE2:=aH e2;have HO:Hid (Xh s.D root N (nodes++G') (idx++from_) at2 (b0+1) (rest.drop q) Kk):=aH ⟨by
        have h:=Aj.out.1;have e:(nodes++G').map En.nd=nodes.map En.nd++from_.map (Xn s.D at_):=by
         rw[aU,Qu.out,jC];congr 1;exact dP λe he=>HGN.out e he
        rw[e];exact h,by rw[aU,HI.out.ids,Qu.out],by rw[aj,aj,mV,hfl];omega,HR2.out⟩
       have YU:=aH hrl;clear hm hmd e1 e2 hft HR HR2 hrl;go_wp2
       go_roundw
       case rel=>exact⟨nodes++G',idx++from_,at2,b0+1,rest.drop q,Kk,by rw[<-HE2.out];go_num,HMD.out,HO⟩
       case measure=>have:=YU.out;simp[intOf];omega
    .have qU:q<rest.length:=by omega
     have h2:((kn:Nat):Int)<((N:Nat):Int):=(by omega);have hE0:=ay hx1 hm.ext;have Qm:=hP.ext hE0;obtain⟨x,hxe⟩:∃x,x=rest[q]:=⟨_,rfl⟩;obtain⟨y,hye⟩:∃y,y=rest[0]:=⟨_,rfl⟩;have J9:bz.Reach s.D root x:=(by rw[hxe];exact HS.out.reach (ah qU));have hyr:bz.Reach s.D root y:=(by rw[hye];exact HS.out.reach (ah h0));have Va:x<s.D.length:=(by have:=bz.mX hP.good.wf J9;omega);have hyD:y<s.D.length:=(by have:=bz.mX hP.good.wf hyr;omega);have lx:=vW hm (k:=idx.length+q) (by rw[aj];omega);have ly:=vW hm (k:=idx.length) (by rw[aj];omega);rw[eB (by omega)]at lx ly;simp only[Nat.add_sub_cancel_left,Nat.sub_self]at lx ly;rw[<-hxe,<-hkn]at lx;rw[<-hye]at ly;obtain⟨gb,cb,c2,afV,afU,cx⟩:=Qm.Ad Va;obtain⟨gb',cb',c2',-,-,cy⟩:=Qm.Ad hyD;rw[c2]at c2';simp only[bJ,Value.slice.injEq,Addr.mk.injEq,true_and,and_true]at c2';obtain⟨rfl,rfl⟩:=c2';have hby:bz.born (vl s.D y)=b0:=(by rw[HB0.out,hye]);rw[hby]at cy;by_cases hbq:bz.born (vl s.D x)=b0
     .rw[hbq]at cx
      have HX:=aH (And.intro hxe (And.intro J9 hbq));have hxm:x∈rest:=(by rw[hxe];exact ah qU);have hoL:=HS.out.opts hP.good hxm hbq true;have hoR:=HS.out.opts hP.good hxm hbq false;have Vd:=oK hP.good (left:=true) (f:=x);have hlR:=oK hP.good (left:=false) (f:=x);obtain⟨gr,Uo,aR,cR,wQ,Zc,pQ,JS,hSR⟩:=hP.pM Va;obtain⟨gl,Ur,aL,cL,ze,Zf,Ze,JU,sw⟩:=hP.qR Va;rw[<-(o8 Va).1]at JU sw;rw[<-(o8 Va).2]at JS hSR;have Wl:∀y,y∈idx->y<900000000/\at_.getD y 0<900000000:=λy hy=>by
       have h1:=((HS.out.form.mem y).1 hy).1;have h2:=bz.mX hP.good.wf h1;have h3:=P5 HS.out.form hy;omega
      have HXN:=aH (show(bE ((opt s.D true x).map λy=>at_.getD y 0),bE ((opt s.D false x).map λy=>at_.getD y 0))=Xn s.D at_ x from rfl);generalize hOL:opt s.D true x=OL at *;generalize hOR:opt s.D false x=OR at *;obtain⟨ag,cg,rfl,-,-⟩:=bD hm.Hg;replace hgl:=aH hgl;have hgn:group.length<=900000:=(by have:=hgl.out;omega);clear hxe hye J9 hyr hby hbq Qm hkn hOL hOR hxm;go_upto_region 9 with fail
      go_quiet (fail)
      generalize XU:wr.drewN nq=W6;have hd6:Ext wr W6:=(by rw[<-XU];exact bS ⟨_,rfl⟩);have zW:=hm.ext' hd6;have JB:=(hd6.cell (lt_of_cell hbx)).trans hbx;have lx6:=(hd6.cell (lt_of_cell lx)).trans lx;clear XU lx ly cx cy c2;go_upto_region 12 with fail
      have Py:=ay hx1 zW.ext;have d0:=(Py.cell (lt_of_cell ze)).trans ze;have d1:=(Py.cell (lt_of_cell wQ)).trans wQ;have dl:=(Py.cell (lt_of_cell JU)).trans JU;have dr:=(Py.cell (lt_of_cell JS)).trans JS;have hRL:∀W,Ext W6 W->Calls prog 165 #[.slice aL OL.length cL,.map (some rb)] W (Dv (OL.map λy=>at_.getD y 0) W):=λW hW=>Cn _ OL rb idx.length fm _ W (sw.ext (ay Py hW)).out (by omega) (λy hy=>(Wl y (hoL.1 y hy)).1) ((zW.ext' hW).rank) (λy hy=>HI.out.rank y (hoL.1 y hy)) hoL.2.1
      have hRR:∀W,Ext W6 W->Calls prog 165 #[.slice aR OR.length cR,.map (some rb)] W (Dv (OR.map λy=>at_.getD y 0) W):=λW hW=>Cn _ OR rb idx.length fm _ W (hSR.ext (ay Py hW)).out (by omega) (λy hy=>(Wl y (hoR.1 y hy)).1) ((zW.ext' hW).rank) (λy hy=>HI.out.rank y (hoR.1 y hy)) hoR.2.1
      have acu:∀y,y∈bE (OL.map λy=>at_.getD y 0)->y<900000000:=λy hy=>by obtain⟨z,hz,rfl⟩:=aI.1 (bZ.1 hy);exact(Wl z (hoL.1 z hz)).2
      have acs:∀y,y∈bE (OR.map λy=>at_.getD y 0)->y<900000000:=λy hy=>by obtain⟨z,hz,rfl⟩:=aI.1 (bZ.1 hy);exact(Wl z (hoR.1 z hz)).2
      have hsL:=pW (OL.map λy=>at_.getD y 0);have hsR:=pW (OR.map λy=>at_.getD y 0);rw[aJ]at hsL hsR;generalize hLL:bE (OL.map λy=>at_.getD y 0)=LL at *;generalize acH:bE (OR.map λy=>at_.getD y 0)=RR at *;obtain⟨iE,hiE,zE0,zE1,zE2⟩:=info_parts Lv;refine bW (λW=>W.cell? ⟨w.heap.size,0,none⟩=some (.pointer (some ⟨pp,0,none⟩))/\W.cell? ⟨pp,0,none⟩=some (.slice (some ⟨gl,0,none⟩) s.D.length Ur)/\W.cell? ⟨pp,1,none⟩=some (.slice (some ⟨gr,0,none⟩) s.D.length Uo)/\W.cell? ⟨gl,x,none⟩=some (.slice aL OL.length cL)/\W.cell? ⟨gr,x,none⟩=some (.slice aR OR.length cR)) [23,24] VA (by kernel_rfl) ⟨by kernel_rfl,by kernel_rfl,by kernel_rfl⟩ ⟨JB,d0,d1,dl,dr⟩ (λax ae=>?_);(refine bT 0 ax ae ?_;refine bT 1 ax ae ?_;refine bT 2 ax ae ?_;refine bT 3 ax ae ?_;refine bT 4 ax ae ?_;refine bT 5 ax ae ?_;refine bT 6 ax ae ?_;refine bT 7 ax ae ?_;refine bT 8 ax ae ?_;refine bT 9 ax ae ?_;refine bT 11 ax ae ?_;refine bT 12 ax ae ?_;refine bT 13 ax ae ?_;refine bT 14 ax ae ?_;refine bT 15 ax ae ?_;refine bT 16 ax ae ?_;refine bT 17 ax ae ?_;refine bT 18 ax ae ?_);(refine oZ ax (i:=10) λK hK=>?_;go_simp);refine(hRL _ (bS ⟨1,rfl⟩)).mono ?_;rintro e w7 ⟨v7,rfl,Hd,hx7⟩;rw[hLL]at Hd;have Jq:Ext W6 w7:=ay (bS ⟨1,rfl⟩) hx7;(refine hK.out _ _ (λ_=>?_) ?_)
      .exact⟨(Jq.cell (lt_of_cell JB)).trans JB,(Jq.cell (lt_of_cell d0)).trans d0,(Jq.cell (lt_of_cell d1)).trans d1,(Jq.cell (lt_of_cell dl)).trans dl,(Jq.cell (lt_of_cell dr)).trans dr⟩
      clear hK K;(try simp only[nP]);(refine oZ ax (i:=19) λK hK=>?_;go_simp);refine(hRR _ Jq).mono ?_;rintro e w8 ⟨v8,rfl,ho8,VV⟩;rw[acH]at ho8;clear hLL acH;have CY:=ay Jq VV;(refine hK.out _ _ (λ_=>?_) ?_)
      .exact⟨(CY.cell (lt_of_cell JB)).trans JB,(CY.cell (lt_of_cell d0)).trans d0,(CY.cell (lt_of_cell d1)).trans d1,(CY.cell (lt_of_cell dl)).trans dl,(CY.cell (lt_of_cell dr)).trans dr⟩
      clear hK K;(try simp only[nP]);obtain⟨a7,c7,rfl,-,-⟩:=bD Hd;obtain⟨a8,c8,rfl,-,-⟩:=bD ho8;have Zy:w8.cell? ⟨w.heap.size,0,none⟩=some (.pointer (some ⟨pp,0,none⟩))/\w8.cell? ⟨pp,0,none⟩=some (.slice (some ⟨gl,0,none⟩) s.D.length Ur)/\w8.cell? ⟨pp,1,none⟩=some (.slice (some ⟨gr,0,none⟩) s.D.length Uo)/\w8.cell? ⟨gl,x,none⟩=some (.slice aL OL.length cL)/\w8.cell? ⟨gr,x,none⟩=some (.slice aR OR.length cR):=⟨(CY.cell (lt_of_cell JB)).trans JB,(CY.cell (lt_of_cell d0)).trans d0,(CY.cell (lt_of_cell d1)).trans d1,(CY.cell (lt_of_cell dl)).trans dl,(CY.cell (lt_of_cell dr)).trans dr⟩;clear ae;have ae:=Zy;(refine bT 20 ax ae ?_;refine bT 21 ax ae ?_);(refine oZ ax (i:=22) λK hK=>?_;go_simp);(refine hK.out _ _ (λ_=>?_) ?_)
      .exact⟨bI Zy.1 _,bI Zy.2.1 _,bI Zy.2.2.1 _,bI Zy.2.2.2.1 _,bI Zy.2.2.2.2 _⟩
      clear hK K;(try simp only[nP]);refine ow ax [23,24] [_,_] ?_;clear Zy;have hm8:=zW.Z6 (e:=⟨x,.slice a7 LL.length c7,.slice a8 RR.length c8,LL,RR⟩) CY ⟨dn Hd VV,jX ho8 Jq.size,acu,acs,by show LL.length<=1000000;omega,by show RR.length<=1000000;omega⟩ (λb hb hc=>by have:=(Hd.lt b hb).2;have:=(ho8.lt b hc).1;omega);have hw8:=hm8.ext.size;clear ax ae d0 d1 dl dr hRL hRR hm zW lx6 hbx JB sw hSR JU JS ze wQ hoL hoR acu acs;go_wp2_with (at_builtin;refine bQ rfl (.tmp 64) (.tmp 86) 189 rfl W1.heap.size 192 iE (.agg #[.int .i64 0,.slice none 0 0,.slice none 0 0]) 3 56 underlying189 hiE zE0 zE1 zE2 rfl (by decide) (.slice ag group.length cg) group.length _ rfl (hm8.Hg.alloc _) _ 1 _ [.int .i64 (x:Int),.slice a7 LL.length c7,.slice a8 RR.length c8] rfl rfl (.inr ⟨_,rfl,Ol⟩) Kw (by unfold maxLen;omega) (by omega) (by rw[fw];omega) ?_;intro v9 w9 Vb LX Y4)
      go_roundw
      case rel=>
       have hm9:=hm8.agI (e:=⟨x,.slice a7 LL.length c7,.slice a8 RR.length c8,LL,RR⟩) (bK (Below.refl _ _) _) LX Vb (by simp) (by simp[En.cells]) Y4;rw[bY]at hm9;exact⟨q+1,group++[⟨x,.slice a7 LL.length c7,.slice a8 RR.length c8,LL,RR⟩],by omega,by have:=Bb.out;go_num,hm9,aH (HG.out.add (e:=⟨x,.slice a7 LL.length c7,.slice a8 RR.length c8,LL,RR⟩) qU HX.out.1 HXN.out (by rw[<-HX.out.1];exact HX.out.2.2))⟩
      case measure=>have:=Bb.out;simp[intOf];omega
     .have hbf:((bz.born (vl s.D x):Int)== (b0:Int))=false:=by simp;omega
      have HQ:=aH (show ∀hl:q<rest.length,bz.born (vl s.D rest[q])≠b0 from λhl=>by rw[<-hxe];exact hbq);clear hxe hye J9 hyr hby hbq Qm hkn;go_upto_region 9 with fail
      go_quiet (fail)
      generalize XU:wr.drewN nq=W6;have hd6:Ext wr W6:=(by rw[<-XU];exact bS ⟨_,rfl⟩);have zW:=hm.ext' hd6;have hq1:0<q:=by
       rcases kg q with e|e
       .subst e;exact absurd HB0.out.symm (HQ.out h0)
       .exact e
      replace hgl:=aH hgl;have LW:0<group.length/\group.length<=1000000:=(by have:=hgl.out;omega);clear XU hm hbx;obtain⟨gg,cg,rfl,-,-,-⟩:=iB zW.Hg LW.1;have hgg:=zW.Hg.lt gg rfl;have hSE:=aH (ym W1.heap.size gg cg group W6 zW.Hg (λe he=>zW.tC e (aK.2 (.inr he))) (λe he hb=>(zW.far e (aK.2 (.inr he)) gg hb).2.2.2 rfl) LW.1 LW.2);go_upto_region 14 with(go_at_call 166;refine hSE.out.mono ?_;rintro e w7 ⟨rfl,G',Sy,hs7,Hd,Kb⟩)
      have hm7:=zW.X6 Sy Hd Kb;have X4:=Sy.length_eq;rw[<-X4]at ⊢;have hGn:∀e,e∈G'->e.nd=Xn s.D at_ e.id:=λe he=>HG.out.nds e (Sy.mem_iff.1 he)
      have hpi:(G'.map En.id).Perm (rest.take q):=(by rw[<-HG.out.ids];exact Sy.map _);have hsi:(G'.map En.id).Pairwise (λx y=>¬bz.nc (Xn s.D at_ y) (Xn s.D at_ x)<0):=by
       rw[jl];exact ig (λ{a b} ha hb hab=>by rw[<-hGn a ha,<-hGn b hb];omega) hs7
      have Aj:=aH (HS.out.next hP.good hr hq HG.out.born HQ.out hpi hsi);have HGN:=aH hGn;have hgq:G'.length=q:=(by rw[X4];exact hgl.out);have Y0:=hnl.out;have HAT:=aH (λj (hj:j<(G'.map En.id).length)=>Ae (at_:=at_) (n:=(nodes.map En.nd).length) (root:=root) Aj.out.2.1 Aj.out.2.2.1 j hj);have HAO:=aH (λy (hy:y ∉ G'.map En.id)=>xV (from_:=G'.map En.id) (n:=(nodes.map En.nd).length) (root:=root) HS.out.form.atl y hy);have Og:Hid ((nodes.map En.nd).length=idx.length):=aH (by rw[aJ];exact hnl.out);have HR0:Hid (∀x,x∈idx++(G'.map En.id).take 0->fm (.int .i64 (x:Int))=some (.int .i64 (((qo at_ (G'.map En.id) (nodes.map En.nd).length root).getD x 0:Nat):Int))):=aH (λx hx=>by
       rw[sD,bq]at hx;have hn:x ∉ G'.map En.id:=λhy=>Aj.out.2.2.2 x hy hx
       rw[HI.out.rank x hx,aV,aV,HAO.out x hn])
      have UY:=aH hgq;clear zW hSE Sy hs7 Hd Kb X4 hGn hpi hsi hgq Y0;generalize qo at_ (G'.map En.id) (nodes.map En.nd).length root=at2 at *;obtain⟨from_,hfr⟩:∃f,f=G'.map En.id:=⟨_,rfl⟩;rw[<-hfr]at HR0 HAT Aj HAO;have Qu:=aH hfr;clear hfr;go_wp2
      go_loopw [8,13,14,92] (λnv _ _ ii wr=>∃(j:Nat) (Kk:Value->Option Value),j<=G'.length/\ii=.int .i64 ((j:Nat):Int)/\OM W1 wr lb lc rb nv (.slice (some ⟨gg,0,none⟩) G'.length cg) (idx++(from_.take j++rest.drop j)) (idx.length+j) Kk (nodes++G'.take j) G' (nodes++G')/\Hid (∀x,x∈idx++from_.take j->Kk (.int .i64 (x:Int))=some (.int .i64 ((at2.getD x 0:Nat):Int)))) (λ_ _ _ ii _=>G'.length-(intOf ii).toNat)
      case atStart=>exact⟨0,fm,az _,rfl,by simpa using hm7,HR0⟩
      case round=>
       clear hm7 HR0;obtain⟨j,Kk,hj,rfl,hm,HR⟩:=hrel;by_cases hjl:j<G'.length
       .have h3:((j:Nat):Int)<((G'.length:Nat):Int):=by omega
        have hNl:idx.length+G'.length<=900000:=(by have:=UY.out;omega);have hfl:from_.length=G'.length:=(by rw[Qu.out,aJ]);have hjr:j<rest.length:=(by have:=UY.out;omega);have hLc:(idx++(from_.take j++rest.drop j)).length=N:=(by simp;omega);have k0:=rQ hm hjl 0 (by omega);have k1:=rQ hm hjl 1 (by omega);have k2:=rQ hm hjl 2 (by omega);have hen:=hm.tC _ (aK.2 (.inr (ah hjl)));have htk:nodes++G'.take (j+1)=(nodes++G'.take j)++[G'[j]]:=(by rw[bg hjl,bY]);have hfj:from_[j]?=some G'[j].id:=(by rw[Qu.out,dB,aa hjl];rfl);have S9:G'[j].id<900000:=by
         have h1:G'[j].id∈from_:=dU hfj;have:=Aj.out.2.2.1 _ h1;omega
        have hll:=vW hm (k:=idx.length+j) (by omega);have hlf:=hm.list.frozenAt (idx.length+j);obtain⟨e,Wh⟩:∃e,e=G'[j]:=⟨_,rfl⟩;rw[<-Wh]at k0 k1 k2 hen htk hfj S9;have HFJ:=aH (And.intro htk hfj);have HEE:=aH Wh;clear Wh htk hfj;obtain⟨wP,elv,erv,el,er⟩:=e;obtain⟨b1,d1,e1,-,-⟩:=bD hen.1;obtain⟨b2,d2,e2,-,-⟩:=bD hen.2.1;dsimp only at e1 e2;subst e1 e2;simp only[En.cells,dQ,dJ,kS]at k0 k1 k2;obtain⟨np,Ka⟩:∃np,np=nodes++G'.take j:=⟨_,rfl⟩;have hnn:np.length<=1000000:=(by rw[Ka,aj,ek,hnl.out];omega);have HNP:=aH Ka;rw[<-Ka]at hm;obtain⟨av,cv,rfl,-,-⟩:=bD hm.node;have hki:=qj wP (by simp only at S9;omega);have HM:=aH hm;have HR2:=aH HR.out;clear Ka;have Si:Ext wr (wr.alloc (.cells #[.int .i64 (wP:Int),.slice b1 el.length d1,.slice b2 er.length d2] 192)):=bK (Below.refl _ _) _;have Gg:=hm.ext' Si;have f0:(wr.alloc (.cells #[.int .i64 (wP:Int),.slice b1 el.length d1,.slice b2 er.length d2] 192)).cell? ⟨wr.heap.size,0,none⟩=some (.int .i64 (wP:Int)):=World.cell?_alloc_at _ _ _ 0 rfl;have f1:(wr.alloc (.cells #[.int .i64 (wP:Int),.slice b1 el.length d1,.slice b2 er.length d2] 192)).cell? ⟨wr.heap.size,1,none⟩=some (.slice b1 el.length d1):=World.cell?_alloc_at _ _ _ 1 rfl;have f2:(wr.alloc (.cells #[.int .i64 (wP:Int),.slice b1 el.length d1,.slice b2 er.length d2] 192)).cell? ⟨wr.heap.size,2,none⟩=some (.slice b2 er.length d2):=World.cell?_alloc_at _ _ _ 2 rfl;have ab4:=(hm.Lg).2;have afk:=hm.rank.lt;have hwz:(wr.alloc (.cells #[.int .i64 (wP:Int),.slice b1 el.length d1,.slice b2 er.length d2] 192)).heap.size=wr.heap.size+1:=fw _ _;clear hm hen;go_upto_region 17 with fail
        clear k0 k1 k2 hll hlf;generalize wr.alloc (.cells #[.int .i64 (wP:Int),.slice b1 el.length d1,.slice b2 er.length d2] 192)=Xd at *;generalize heb:wr.heap.size=eb at *;have hkr:idx.length+j<N:=(by omega);have Vd:((idx.length+j:Nat):Int)<(N:Int):=(by omega);have hlc:=Gg.list.frozenAt (idx.length+j);have hln:=vW Gg (k:=idx.length+j) (by omega);have hS1:=Gg.abk (k:=idx.length+j) (by omega) wP;clear heb;go_upto_region 18 with fail
        have zX:∃h:j<from_.length,from_[j]=wP:=by
         have:=HFJ.out.2;obtain⟨h,e⟩:=dI.1 this;exact⟨h,e⟩
        have Zh:from_.length<=rest.length:=(by have:=UY.out;omega);rw[<-zX.2,EU zX.1 Zh]at hS1;rw[zX.2]at hS1;have L6:eb≠lb:=(by omega);have Zi:eb≠rb:=(by omega);have g0:=(World.cell?_setCell_other Xd ⟨lb,idx.length+j,none⟩ ⟨eb,0,none⟩ (.int .i64 (wP:Int)) (by simp[L6.symm])).trans f0;have g1:=(World.cell?_setCell_other Xd ⟨lb,idx.length+j,none⟩ ⟨eb,1,none⟩ (.int .i64 (wP:Int)) (by simp[L6.symm])).trans f1;have g2:=(World.cell?_setCell_other Xd ⟨lb,idx.length+j,none⟩ ⟨eb,2,none⟩ (.int .i64 (wP:Int)) (by simp[L6.symm])).trans f2;generalize Xd.setCell ⟨lb,idx.length+j,none⟩ (.int .i64 (wP:Int))=W11 at *;clear f0 f1 f2 hlc hln Gg;have hM:=hS1.rank;have Tx:=aH hS1;obtain⟨kj,hkj⟩:∃n,n=idx.length+j:=⟨_,rfl⟩;have HKJ:=aH hkj;have afL:idx.length+j<=900000:=(by omega);clear hS1 Si hkj;go_upto_region 19 with(at_mapUpdate;refine iT rfl _ _ _ 135 rfl 3 3 oD underlying135 rb (idx.length+j) Kk rfl hM (by unfold maxLen;omega) (.int .i64 (wP:Int)) (.int .i64 ((idx.length+j:Nat):Int)) rfl (by go_num) hki ?_;intro w12 TD LY)
        have LQ:=Tx.out.aa5 TD LY;have Mc:w12.heap[eb]?=W11.heap[eb]?:=(gJ LY).block eb (by have:=lt_of_cell g1;exact this) (λh=>Zi h);have d1':=(World.cell?_of_block Mc).trans g1;have d2':=(World.cell?_of_block Mc).trans g2;have afa:W1.heap.size<=w12.heap.size:=LQ.ext.size;clear g0 g1 g2 Mc Tx hM TD LY;go_wp2_with (at_builtin;refine bQ rfl (.tmp 110) (.tmp 113) 26 rfl W1.heap.size 89 iN (.agg #[.slice none 0 0,.slice none 0 0]) 2 48 underlying26 hiN zN0 zN1 zN2 rfl (by decide) (.slice av np.length cv) np.length _ rfl (LQ.node.alloc _) _ 1 _ [.slice b1 el.length d1,.slice b2 er.length d2] rfl rfl (.inr ⟨_,rfl,FD⟩) uw (by unfold maxLen;omega) (by omega) (by rw[fw];omega) ?_;intro v13 w13 YZ Zg Y6)
        go_roundw
        case rel=>
         have SN:=LQ.abh (e:=⟨wP,.slice b1 el.length d1,.slice b2 er.length d2,el,er⟩) (bK (Below.refl _ _) _) Zg YZ (by simp) (by simp[En.two]) Y6;rw[HNP.out,<-HFJ.out.1]at SN;exact⟨j+1,_,by omega,by go_num,SN,aH (by
          have hr:=EL (at2:=at2) (m:=idx.length+j) (j:=j) (from_:=from_) zX.1 HR2.out (by rw[<-Og.out];exact HAT.out j zX.1);rw[zX.2]at hr;exact hr)⟩
        case measure=>simp[intOf];omega
       .have Za:j=G'.length:=by omega
        subst Za;have h3:¬(((G'.length:Nat):Int)<((G'.length:Nat):Int)):=(by omega);have hNl:idx.length+G'.length<=900000:=(by have:=UY.out;omega);have hfl:from_.length=G'.length:=(by rw[Qu.out,aJ]);have hft:from_.take G'.length=from_:=(by rw[<-hfl,dz]);rw[hft,dz]at hm;have HR2:=aH HR.out;rw[hft]at HR2;have hmd:=hm.X7;have hrl:G'.length=q:=UY.out;have e1:idx++(from_++rest.drop G'.length)=(idx++from_)++rest.drop q:=(by rw[hrl,bY]);have e2:idx.length+G'.length=(idx++from_).length:=(by rw[aj,hfl]);rw[e1,e2]at hmd;have HMD:=aH hmd;have HE2:=aH e2;have HO:Hid (Xh s.D root N (nodes++G') (idx++from_) at2 (b0+1) (rest.drop q) Kk):=aH ⟨by
         have h:=Aj.out.1;have e:(nodes++G').map En.nd=nodes.map En.nd++from_.map (Xn s.D at_):=by
          rw[aU,Qu.out,jC];congr 1;exact dP λe he=>HGN.out e he
         rw[e];exact h,by rw[aU,HI.out.ids,Qu.out],by rw[aj,aj,mV,hfl];omega,HR2.out⟩
        have YU:=aH hrl;clear hm hmd e1 e2 hft HR HR2 hrl;go_wp2
        go_roundw
        case rel=>exact⟨nodes++G',idx++from_,at2,b0+1,rest.drop q,Kk,by rw[<-HE2.out];go_num,HMD.out,HO⟩
        case measure=>have:=YU.out;simp[intOf];omega
end Go.Proofs.YteknjeohbcgpdaaGreatDoor