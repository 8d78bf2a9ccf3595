/-
  Contract of the program's order at one root: the subpositions in order, each with the ranks of its options.
-/
import Derived.Test.YteknjeohbcgpdaaGreatDoorK33
set_option maxRecDepth 100000
namespace Go.Proofs.YteknjeohbcgpdaaGreatDoor
open Tryz
open Go.RowKit
open bO (dH Nd vl fC dZ Same)
variable {w wr:World} {lb lc rb mr b q j m:Nat} {nv gv:Value} {Lc at_ rest idx from_:List Nat} {fm:Value->Option Value} {nodes group V:List En} {D:dH}
theorem OM.aa7(m:OM w wr lb lc rb nv gv Lc mr fm nodes group V):OM w wr lb lc rb nv (.slice none 0 0) Lc mr fm nodes [] V:=
 ⟨m.list,m.rank,m.XD,m.node,⟨by simp,.inl ⟨rfl,rfl⟩⟩,m.uk,m.apart,m.self,λe he x hx=>⟨(m.far e he x hx).1,(m.far e he x hx).2.1,(m.far e he x hx).2.2.1,by simp[Value.ownBlock]⟩,m.a1,m.a2,by simp[Value.ownBlock],by simp[Value.ownBlock],m.ext⟩
def Rv(s:iH)(root:Nat)(w:World)(e:Ending)(w':World):Prop:=
 ∃W1 lv nv lb lc rb gv Lc mr fm nodes,e=.returned (.tuple #[lv,nv])/\Ext w W1/\OM W1 w' lb lc rb nv gv Lc mr fm nodes [] nodes/\fC (nodes.map En.nd)/\Same (dZ (nodes.map En.nd)) (vl s.D root)/\(nodes.map En.id).Nodup/\(∀j,j∈nodes.map En.id↔bO.Reach s.D root j)
structure ZX(D:dH)(root:Nat)(N:Nat)(nodes:List En)(idx at_:List Nat)(b:Nat)(rest:List Nat)(fm:Value->Option Value):Prop where
 st:oD D root (nodes.map En.nd) idx at_ b rest
 ids:nodes.map En.id=idx
 len:(idx++rest).length=N
 rank:∀x,x∈idx->fm (.int .i64 (x:Int))=some (.int .i64 ((at_.getD x 0:Nat):Int))
structure GInv(D:dH)(at_:List Nat)(b q:Nat)(rest:List Nat)(group:List En):Prop where
 ids:group.map En.id=rest.take q
 nds:∀e,e∈group->e.nd=Xn D at_ e.id
 born:∀j (hj:j<rest.length),j<q->bO.born (vl D rest[j])=b
theorem GInv.start(D:dH)(at_:List Nat)(b:Nat)(rest:List Nat):GInv D at_ b 0 rest []:=⟨by simp,by simp,λ_ _ h=>absurd h (by omega)⟩
theorem GInv.add(h:GInv D at_ b q rest group)(hq:q<rest.length){e:En}(he:e.id=rest[q])(hn:e.nd=Xn D at_ e.id)(hb:bO.born (vl D rest[q])=b):GInv D at_ b (q+1) rest (group++[e]):=by
 refine⟨?_,λa ha=>?_,λj hj hjq=>?_⟩
 .rw[bG,h.ids,bg hq,<-he];rfl
 .rcases bq.1 ha with ha|ha
  .exact h.nds a ha
  .simp at ha;subst ha;exact hn
 .by_cases c:j=q
  .subst c;exact hb
  .exact h.born j hj (by omega)
theorem GInv.len(h:GInv D at_ b q rest group)(hq:q<=rest.length):group.length=q:=by
 have:=congrArg List.length h.ids;simp at this;omega
theorem Mx(w:World)(B n:Nat)(hB:B<=w.heap.size)(hn:n<=1000000):(w.alloc (.cells (madeCells #[Value.slice none 0 0,.slice none 0 0] (n*2)) 89)).ownsRow B 89 2 (.slice (some ⟨w.heap.size,0,none⟩) 0 n) 0 []:=
 ⟨by simp,.inr ⟨w.heap.size,n,_,rfl,hB,heap_alloc_new w _,aJ _,by unfold maxLen;omega,by rw[size_madeCells],by simp⟩⟩
theorem JI{w3:World}{N:Nat}{L0:List Nat}(hE:Ext w w3)(hN:L0.length=N)(hl:N<=1000000){B:Nat}(hB:w.heap.size<=B)(ho:w3.ownsRow B 3 1 (.slice (some ⟨lb,0,none⟩) N lc) N ((dD L0).map (Value.int .i64))):
 OM w ((w3.alloc (.map #[] 0)).alloc (.cells (madeCells #[Value.slice none 0 0,.slice none 0 0] (N*2)) 89)) lb lc w3.heap.size (.slice (some ⟨w3.heap.size+1,0,none⟩) 0 N) (.slice none 0 0) L0 0 (λ_=>none) [] [] []:=by
 have z1:(w3.alloc (.map #[] 0)).heap.size=w3.heap.size+1:=eQ _ _;have hz:=hE.size;have hlb:=ho.lt lb rfl;refine⟨?_,?_,hz,?_,⟨by simp,.inl ⟨rfl,rfl⟩⟩,by simp,List.Pairwise.nil,by simp,by simp,by omega,?_,by simp[Value.ownBlock],by simp[Value.ownBlock],by go_grown⟩
 .rw[hN];exact((jS ho hB).alloc _).alloc _
 .refine gz.made _ _ (c:=0) ?_
  rw[Below.heap_alloc _ _ _ (by omega)];exact alloc_at rfl
 .have:=Mx (w3.alloc (.map #[] 0)) w.heap.size N (by omega) hl
  rw[z1]at this;exact this
 .simp[Value.ownBlock];omega
theorem FU(hj:j<from_.length)(hl:from_.length<=rest.length):(idx++(from_.take j++rest.drop j)).set (idx.length+j) from_[j]=idx++(from_.take (j+1)++rest.drop (j+1)):=by
 have h1:(from_.take j).length=j:=by rw[dI];omega
 rw[List.set_append_right _ _ (by omega),Nat.add_sub_cancel_left,List.set_append_right _ _ (by omega),h1,Nat.sub_self,lg (by omega:j<rest.length),List.set_cons_zero,bg hj,dA];rfl
theorem FC{at2:List Nat}(hj:j<from_.length)(h:∀x,x∈idx++from_.take j->fm (.int .i64 (x:Int))=some (.int .i64 ((at2.getD x 0:Nat):Int)))(ha:at2[from_[j]]?=some m):
 ∀x,x∈idx++from_.take (j+1)->upd (λ_ _=>Classical.propDecidable _) fm (.int .i64 (from_[j]:Int)) (.int .i64 (m:Int)) (.int .i64 (x:Int))=some (.int .i64 ((at2.getD x 0:Nat):Int)):=by
 intro x hx;by_cases c:x=from_[j]
 .subst c;rw[upd_same,aj,ha];rfl
 .rw[upd_ne (by simp;omega)]
  refine h x ?_;rw[bg hj]at hx;simp only[bq,lC]at hx ⊢;rcases hx with hx|hx|hx
  .exact .inl hx
  .exact .inr hx
  .exact absurd hx c
theorem MO:(prog.info? 192).map (λi=>(i.zero,i.size,i.bytes))=some (some (.agg #[.int .i64 0,.slice none 0 0,.slice none 0 0]),3,56):=by kernel_rfl
theorem PX{x y z:Value}{e:TypeId}:∀j u,([x,y,z]:List Value)[j]?=some u->(w.alloc (.cells #[x,y,z] e)).cell? ((⟨w.heap.size,0,none⟩:Addr).add j)=some u:=by
 intro j u h
 match j with
 | 0=>simp at h;subst h;exact(World.cell?_alloc_at (w:=w) #[x,y,z] e _ 0 rfl)
 | 1=>simp at h;subst h;exact(World.cell?_alloc_at (w:=w) #[x,y,z] e _ 1 rfl)
 | 2=>simp at h;subst h;exact(World.cell?_alloc_at (w:=w) #[x,y,z] e _ 2 rfl)
 |n+3=>simp at h
theorem LP{a b:Option Addr}{k:IntKind}{x:Int}{n c d:Nat}:∀u∈([Value.int k x,Value.slice a n c,Value.slice b m d]:List Value),u.oneCell'=true:=by
 intro u h;simp at h;rcases h with rfl|rfl|rfl <;> rfl
theorem xh(m:OM w wr lb lc rb nv gv Lc mr fm nodes group V){k:Nat}(hk:k<Lc.length):wr.cell? ⟨lb,k,none⟩=some (.int .i64 (Lc[k]:Int)):=by
 rw[m.list.cellAt k (by omega)];simp[dD,hk]
theorem flat3:∀(G:List En) (j:Nat) (hj:j<G.length) (t:Nat),t<3->(G.flatMap En.cells)[j*3+t]?=(G[j].cells)[t]?
 |[],j,hj,_,_=>by simp at hj
 |x :: G,0,_,t,ht=>by
  rw[ji,dN (by simp[En.cells];omega)];simp
 |x :: G,j+1,hj,t,ht=>by
  rw[ji,dW (by simp[En.cells];omega)];have e:(j+1)*3+t-x.cells.length=j*3+t:=by simp[En.cells];omega
  rw[e,flat3 G j (by simpa using hj) t ht];simp
theorem sU{gg cg:Nat}(m:OM w wr lb lc rb nv (.slice (some ⟨gg,0,none⟩) group.length cg) Lc mr fm nodes group V)(hj:j<group.length)(t:Nat)(ht:t<3):wr.cell? ⟨gg,j*3+t,none⟩=(group[j].cells)[t]?:=by
 rw[<-flat3 group j hj t ht];exact m.IW.cellAt (j*3+t) (by omega)
def Yj:List Row:=[⟨0,[],65,[10]⟩,⟨1,[],66,[12]⟩,⟨2,[],67,[2]⟩,⟨3,[2],68,[66]⟩,⟨4,[3],69,[67]⟩,⟨5,[4],70,[68]⟩,⟨6,[],71,[12]⟩,⟨7,[5,6],72,[69,70]⟩,⟨8,[7],73,[71]⟩,⟨9,[],74,[7]⟩,⟨10,[8,9],75,[72,73]⟩,⟨11,[],76,[2]⟩,⟨12,[11],77,[75]⟩,⟨13,[12],78,[76]⟩,⟨14,[13],79,[77]⟩,⟨15,[],80,[12]⟩,⟨16,[14,15],81,[78,79]⟩,⟨17,[16],82,[80]⟩,⟨18,[],83,[7]⟩,⟨19,[17,18,10],84,[81,82]⟩,⟨20,[10,19],85,[74,83]⟩,⟨21,[1,20],86,[65,84]⟩,⟨22,[21],87,[85]⟩,⟨23,[0,22,19],88,[64,86]⟩,⟨24,[23,23,0,1,2,3,4,5,6,7,8,9,10,11,12,13,14,15,16,17,18,19,20,21,22,23],11,[87]⟩]
set_option maxHeartbeats 8000000 in
theorem Qu(pp h:Nat)(s:iH)(root:Nat)(v:Value)(T:Nat->Prop)(w:World)(hP:dz w pp h s)(hr:root<s.D.length)(hv:kg T w v [root]):
 Calls prog 118 #[.pointer (some ⟨pp,0,none⟩),v] w (Rv s root w):=by
 have hds:=hP.small;obtain⟨i0,hi0,hz0,hz1,hz2⟩:=info_parts iw;obtain⟨iN,RS,zN0,zN1,zN2⟩:=info_parts Ay;have hmm:=λw:World=>run_makeMap_plain (P:=prog) (w:=w) 135
 have hx1:Ext w (w.alloc (.cells #[.pointer (some ⟨pp,0,none⟩)] 96)):=by go_grown
 have hbx:=dh w (.pointer (some ⟨pp,0,none⟩)) 96;have apS:(w.alloc (.cells #[.pointer (some ⟨pp,0,none⟩)] 96)).heap.size=w.heap.size+1:=eQ _ _;go_enter Tryz.func118,Tryz.ntmps118
 go_upto_region 1 with fail
 generalize w.alloc (.cells #[.pointer (some ⟨pp,0,none⟩)] 96)=W1 at *;go_upto_region 2 with(go_at_call 117;refine(FH pp h s _ [root] T W1 (hP.ext hx1) (by simpa using hr) (by simp) (hv.ext hx1)).mono ?_;rintro e w2 ⟨v2,Ls,rfl,ho2,MW,hm2,hx2⟩)
 have YU:∀j,j∈Ls↔bO.Reach s.D root j:=λj=>by rw[hm2];simp
 have hrL:root∈Ls:=(YU root).2 .here;have hL0:0<Ls.length:=List.length_pos_of_mem hrL;have hLD:∀x,x∈Ls->x<s.D.length:=λx hx=>by have:=bO.mP hP.good.wf ((YU x).1 hx);omega
 have VA:Ls.length<=900000:=by have:=jI MW hLD;omega
 obtain⟨lb,lc,rfl,hlc,hlm,-⟩:=gV ho2 hL0;have afr:=ho2.lt lb rfl;have hE2:=ax hx1 hx2;have O9:=Gz pp h s w.heap.size W1.heap.size lb lc Ls w2 (hP.ext hE2) ho2 hLD hL0 (by omega) ((hx2.cell (lt_of_cell hbx)).trans hbx) (by omega) (hP.new (by omega)).1 (hP.new (by omega)).2;go_upto_region 3 with(go_at_call 163;refine O9.mono ?_;rintro e w3 ⟨rfl,L0,hp3,hs3,ho3,hk3⟩)
 have ui:Ext w w3:=kK hE2 hk3 (λb hb=>by omega);have QW:=(World.cell?_of_block (hk3.block w.heap.size (bz (lt_of_cell hbx) hx2.size) (by omega))).trans ((hx2.cell (lt_of_cell hbx)).trans hbx);have hn3:=hp3.length_eq;have HST:=aQ (oD.start (D:=s.D) (root:=root) (hp3.symm.nodup MW) (λj=>by rw[hp3.mem_iff];exact YU j) hs3);have arH:∀x,x∈L0->x<s.D.length:=λx hx=>hLD x (hp3.mem_iff.1 hx)
 obtain⟨N,hN⟩:∃N,N=Ls.length:=⟨_,rfl⟩;rw[<-hN]at ho3 hL0 VA hn3 hlc ⊢;have hmk:=λw:World=>run_make (P:=prog) w 26 89 iN (.agg #[.slice none 0 0,.slice none 0 0]) underlying26 RS zN0 .i64 .i64 (0:Int) (N:Int) (by omega) (by omega) (by rw[zN2];omega) (by omega)
 simp only[zN1,dP,Int.toNat_zero,Nat.zero_mul,Value.cells]at hmk;have hP3:=hP.ext ui;clear O9 hm2 YU MW hrL hLD ho2 hp3 hs3 hN hE2 hv;go_upto_region 5 with fail
 have agF:Ext W1 w3:=kK hx2 hk3 (λb hb=>by omega);have hOM:=JI agF hn3 (by omega) (ay _) ho3;have Y5:=hbx;have Y6:((w3.alloc (.map #[] 0)).alloc (.cells (madeCells #[Value.slice none 0 0,.slice none 0 0] (N*2)) 89)).cell? ⟨w.heap.size,0,none⟩=some (.pointer (some ⟨pp,0,none⟩)):=bK (bK QW _) _;generalize (w3.alloc (.map #[] 0)).alloc (.cells (madeCells #[Value.slice none 0 0,.slice none 0 0] (N*2)) 89)=W4 at *;have aqr:lb≠w.heap.size:=by omega
 generalize hrb:w3.heap.size=rb at *;have aqd:rb≠w.heap.size:=by have:=lt_of_cell QW;simp only at this;omega
 clear hmk hmm ho3 QW ui hP3 hrb hk3 hx2 agF hbx;have HI0:=aQ (show ZX s.D root N [] [] (List.replicate (root+1) 0) 0 L0 (λ_=>none) from⟨HST.out,rfl,by simpa using hn3,by simp⟩);go_wp2
 go_loopw [8,9,10,11,12,13] (λnv ff _ _ _ _ wr=>∃(nodes:List En) (idx at_:List Nat) (b:Nat) (rest:List Nat) (fm:Value->Option Value),ff=.int .i64 ((idx.length:Nat):Int)/\OM W1 wr lb lc rb nv (.slice none 0 0) (idx++rest) idx.length fm nodes [] nodes/\Hid (ZX s.D root N nodes idx at_ b rest fm)) (λ_ ff _ _ _ _ _=>N-(intOf ff).toNat)
 case atStart=>exact⟨[],[],List.replicate (root+1) 0,0,L0,λ_=>none,rfl,hOM,HI0⟩
 case round=>
  clear hOM Y6 HI0;obtain⟨nodes,idx,at_,b,rest,fm,rfl,hm,HI⟩:=hrel;have hbx:=(hm.ext.cell (lt_of_cell Y5)).trans Y5;have hlen:=HI.out.len;rw[aK]at hlen;have hnl:nodes.length=idx.length:=by have:=congrArg List.length HI.out.ids;simpa using this
  by_cases hre:rest.length=0
  .have hrn:rest=[]:=fK hre
   subst hrn;have h1:¬(((idx.length:Nat):Int)<((N:Nat):Int)):=(by omega);have HL:=aQ (HI.out.st.last hP.good hr);have HND:=aQ (show(nodes.map En.id).Nodup by have:=HI.out.st.nd;rw[fV,<-HI.out.ids]at this;exact this);have HMB:=aQ (show ∀j,j∈nodes.map En.id↔bO.Reach s.D root j from λj=>by rw[HI.out.ids,<-HI.out.st.mem j,fV]);obtain⟨an,cn,rfl,-,-⟩:=bH hm.node;clear hlen hre hnl;go_wp2
   refine bodyPost_ret (results_tmp2 rfl _ _ _) rfl ?_;exact⟨W1,_,_,lb,lc,rb,_,_,_,fm,nodes,rfl,hx1,hm,HL.out.1,HL.out.2,HND.out,HMB.out⟩
  .have h1:((idx.length:Nat):Int)<((N:Nat):Int):=by omega
   have h0:0<rest.length:=(by omega);have HS:=aQ (HI.out.st.stage h0);obtain⟨b0,hb0⟩:∃b0,b0=bO.born (vl s.D rest[0]):=⟨_,rfl⟩;rw[<-hb0]at HS;have HB0:=aQ hb0;have hm1:=hm.akV;have akj:(wr.alloc (.cells #[] 192)).cell? ⟨w.heap.size,0,none⟩=some (.pointer (some ⟨pp,0,none⟩)):=bK hbx _;clear hb0 hbx hm hre;go_upto_region 8 with fail
   generalize wr.alloc (.cells #[] 192)=W5 at *;generalize hgb:wr.heap.size=gb0 at *;obtain⟨an,cn,rfl,-,-⟩:=bH hm1.node;go_wp2
   go_loopw [10,11,12] (λgv kk _ wr=>∃(q:Nat) (group:List En),q<=rest.length/\kk=.int .i64 ((idx.length+q:Nat):Int)/\OM W1 wr lb lc rb (.slice an nodes.length cn) gv (idx++rest) idx.length fm nodes group (nodes++group)/\Hid (GInv s.D at_ b0 q rest group)) (λ_ kk _ _=>N-(intOf kk).toNat)
   case atStart=>exact⟨0,[],aJ _,rfl,by rw[fV];exact hm1,GInv.start _ _ _ _⟩
   case round=>
    clear hm1 akj hgb;obtain⟨q,group,hq,rfl,hm,HG⟩:=hrel;have hbx:=(hm.ext.cell (lt_of_cell Y5)).trans Y5;have hgl:=HG.out.len hq;obtain⟨kn,hkn⟩:∃n,n=idx.length+q:=⟨_,rfl⟩;rw[<-hkn];have BX:=aQ hkn;replace hnl:=aQ hnl;by_cases hqe:q=rest.length
    .have h2:¬(((kn:Nat):Int)<((N:Nat):Int)):=by omega
     clear hkn;have HQ:=aQ (show ∀hl:q<rest.length,bO.born (vl s.D rest[q])≠b0 from λhl=>absurd hl (by omega));go_upto_region 9 with fail
     go_quiet (fail)
     generalize hW6:wr.drewN nq=W6;have hd6:Ext wr W6:=(by rw[<-hW6];exact eU ⟨_,rfl⟩);have AA:=hm.ext' hd6;have hq1:0<q:=by
      rcases qi q with e|e
      .subst e;exact absurd HB0.out.symm (HQ.out h0)
      .exact e
     replace hgl:=aQ hgl;have M6:0<group.length/\group.length<=1000000:=(by have:=hgl.out;omega);clear hW6 hm hbx;obtain⟨gg,cg,rfl,-,-,-⟩:=gV AA.IW M6.1;have hgg:=AA.IW.lt gg rfl;have hSE:=aQ (yS W1.heap.size gg cg group W6 AA.IW (λe he=>AA.uk e (bq.2 (.inr he))) (λe he hb=>(AA.far e (bq.2 (.inr he)) gg hb).2.2.2 rfl) M6.1 M6.2);go_upto_region 14 with(go_at_call 166;refine hSE.out.mono ?_;rintro e w7 ⟨rfl,G',UT,hs7,BF,O5⟩)
     have hm7:=AA.aa6 UT BF O5;have hGl:=UT.length_eq;rw[<-hGl]at ⊢;have hGn:∀e,e∈G'->e.nd=Xn s.D at_ e.id:=λe he=>HG.out.nds e (UT.mem_iff.1 he)
     have hpi:(G'.map En.id).Perm (rest.take q):=(by rw[<-HG.out.ids];exact UT.map _);have hsi:(G'.map En.id).Pairwise (λx y=>¬bO.nc (Xn s.D at_ y) (Xn s.D at_ x)<0):=by
      rw[jh];exact iq (λ{a b} ha hb hab=>by rw[<-hGn a ha,<-hGn b hb];omega) hs7
     have yg:=aQ (HS.out.next hP.good hr hq HG.out.born HQ.out hpi hsi);have HGN:=aQ hGn;have hgq:G'.length=q:=(by rw[hGl];exact hgl.out);have ab8:=hnl.out;have HAT:=aQ (λj (hj:j<(G'.map En.id).length)=>A8 (at_:=at_) (n:=(nodes.map En.nd).length) (root:=root) yg.out.2.1 yg.out.2.2.1 j hj);have HAO:=aQ (λy (hy:y ∉ G'.map En.id)=>yH (from_:=G'.map En.id) (n:=(nodes.map En.nd).length) (root:=root) HS.out.form.atl y hy);have PN:Hid ((nodes.map En.nd).length=idx.length):=aQ (by rw[bD];exact hnl.out);have HR0:Hid (∀x,x∈idx++(G'.map En.id).take 0->fm (.int .i64 (x:Int))=some (.int .i64 (((qC at_ (G'.map En.id) (nodes.map En.nd).length root).getD x 0:Nat):Int))):=aQ (λx hx=>by
      rw[o5,fV]at hx;have hn:x ∉ G'.map En.id:=λhy=>yg.out.2.2.2 x hy hx
      rw[HI.out.rank x hx,aj,aj,HAO.out x hn])
     have Xm:=aQ hgq;clear AA hSE UT hs7 BF O5 hGl hGn hpi hsi hgq ab8;generalize qC at_ (G'.map En.id) (nodes.map En.nd).length root=at2 at *;obtain⟨from_,hfr⟩:∃f,f=G'.map En.id:=⟨_,rfl⟩;rw[<-hfr]at HR0 HAT yg HAO;have Sd:=aQ hfr;clear hfr;go_wp2
     go_loopw [8,13,14,92] (λnv _ _ ii wr=>∃(j:Nat) (LA:Value->Option Value),j<=G'.length/\ii=.int .i64 ((j:Nat):Int)/\OM W1 wr lb lc rb nv (.slice (some ⟨gg,0,none⟩) G'.length cg) (idx++(from_.take j++rest.drop j)) (idx.length+j) LA (nodes++G'.take j) G' (nodes++G')/\Hid (∀x,x∈idx++from_.take j->LA (.int .i64 (x:Int))=some (.int .i64 ((at2.getD x 0:Nat):Int)))) (λ_ _ _ ii _=>G'.length-(intOf ii).toNat)
     case atStart=>exact⟨0,fm,aJ _,rfl,by simpa using hm7,HR0⟩
     case round=>
      clear hm7 HR0;obtain⟨j,LA,hj,rfl,hm,HR⟩:=hrel;by_cases hjl:j<G'.length
      .have h3:((j:Nat):Int)<((G'.length:Nat):Int):=by omega
       have hNl:idx.length+G'.length<=900000:=(by have:=Xm.out;omega);have hfl:from_.length=G'.length:=(by rw[Sd.out,bD]);have hjr:j<rest.length:=(by have:=Xm.out;omega);have hLc:(idx++(from_.take j++rest.drop j)).length=N:=(by simp;omega);have k0:=sU hm hjl 0 (by omega);have k1:=sU hm hjl 1 (by omega);have k2:=sU hm hjl 2 (by omega);have hen:=hm.uk _ (bq.2 (.inr (ai hjl)));have htk:nodes++G'.take (j+1)=(nodes++G'.take j)++[G'[j]]:=(by rw[bg hjl,dA]);have hfj:from_[j]?=some G'[j].id:=(by rw[Sd.out,dm,aa hjl];rfl);have U8:G'[j].id<900000:=by
        have h1:G'[j].id∈from_:=jr hfj;have:=yg.out.2.2.1 _ h1;omega
       have hll:=xh hm (k:=idx.length+j) (by omega);have hlf:=hm.list.frozenAt (idx.length+j);obtain⟨e,Y1⟩:∃e,e=G'[j]:=⟨_,rfl⟩;rw[<-Y1]at k0 k1 k2 hen htk hfj U8;have HFJ:=aQ (And.intro htk hfj);have HEE:=aQ Y1;clear Y1 htk hfj;obtain⟨xJ,elv,erv,el,er⟩:=e;obtain⟨b1,d1,e1,-,-⟩:=bH hen.1;obtain⟨b2,d2,e2,-,-⟩:=bH hen.2.1;dsimp only at e1 e2;subst e1 e2;simp only[En.cells,eZ,eP,mG]at k0 k1 k2;obtain⟨np,Lm⟩:∃np,np=nodes++G'.take j:=⟨_,rfl⟩;have hnn:np.length<=1000000:=(by rw[Lm,aK,dI,hnl.out];omega);have HNP:=aQ Lm;rw[<-Lm]at hm;obtain⟨av,cv,rfl,-,-⟩:=bH hm.node;have hki:=qz xJ (by simp only at U8;omega);have HM:=aQ hm;have HR2:=aQ HR.out;clear Lm;have UF:Ext wr (wr.alloc (.cells #[.int .i64 (xJ:Int),.slice b1 el.length d1,.slice b2 er.length d2] 192)):=bS (Below.refl _ _) _;have Hl:=hm.ext' UF;have f0:(wr.alloc (.cells #[.int .i64 (xJ:Int),.slice b1 el.length d1,.slice b2 er.length d2] 192)).cell? ⟨wr.heap.size,0,none⟩=some (.int .i64 (xJ:Int)):=World.cell?_alloc_at _ _ _ 0 rfl;have f1:(wr.alloc (.cells #[.int .i64 (xJ:Int),.slice b1 el.length d1,.slice b2 er.length d2] 192)).cell? ⟨wr.heap.size,1,none⟩=some (.slice b1 el.length d1):=World.cell?_alloc_at _ _ _ 1 rfl;have f2:(wr.alloc (.cells #[.int .i64 (xJ:Int),.slice b1 el.length d1,.slice b2 er.length d2] 192)).cell? ⟨wr.heap.size,2,none⟩=some (.slice b2 er.length d2):=World.cell?_alloc_at _ _ _ 2 rfl;have afr:=(hm.MG).2;have ajo:=hm.rank.lt;have hwz:(wr.alloc (.cells #[.int .i64 (xJ:Int),.slice b1 el.length d1,.slice b2 er.length d2] 192)).heap.size=wr.heap.size+1:=eQ _ _;clear hm hen;go_upto_region 17 with fail
       clear k0 k1 k2 hll hlf;generalize wr.alloc (.cells #[.int .i64 (xJ:Int),.slice b1 el.length d1,.slice b2 er.length d2] 192)=ZT at *;generalize heb:wr.heap.size=eb at *;have hkr:idx.length+j<N:=(by omega);have XM:((idx.length+j:Nat):Int)<(N:Int):=(by omega);have hlc:=Hl.list.frozenAt (idx.length+j);have hln:=xh Hl (k:=idx.length+j) (by omega);have hS1:=Hl.aeC (k:=idx.length+j) (by omega) xJ;clear heb;go_upto_region 18 with fail
       have AJ:∃h:j<from_.length,from_[j]=xJ:=by
        have:=HFJ.out.2;obtain⟨h,e⟩:=cK.1 this;exact⟨h,e⟩
       have acu:from_.length<=rest.length:=(by have:=Xm.out;omega);rw[<-AJ.2,FU AJ.1 acu]at hS1;rw[AJ.2]at hS1;have Na:eb≠lb:=(by omega);have acv:eb≠rb:=(by omega);have g0:=(World.cell?_setCell_other ZT ⟨lb,idx.length+j,none⟩ ⟨eb,0,none⟩ (.int .i64 (xJ:Int)) (by simp[Na.symm])).trans f0;have g1:=(World.cell?_setCell_other ZT ⟨lb,idx.length+j,none⟩ ⟨eb,1,none⟩ (.int .i64 (xJ:Int)) (by simp[Na.symm])).trans f1;have g2:=(World.cell?_setCell_other ZT ⟨lb,idx.length+j,none⟩ ⟨eb,2,none⟩ (.int .i64 (xJ:Int)) (by simp[Na.symm])).trans f2;generalize ZT.setCell ⟨lb,idx.length+j,none⟩ (.int .i64 (xJ:Int))=W11 at *;clear f0 f1 f2 hlc hln Hl;have hM:=hS1.rank;have Vt:=aQ hS1;obtain⟨kj,hkj⟩:∃n,n=idx.length+j:=⟨_,rfl⟩;have HKJ:=aQ hkj;have ajV:idx.length+j<=900000:=(by omega);clear hS1 UF hkj;go_upto_region 19 with(at_mapUpdate;refine iK rfl _ _ _ 135 rfl 3 3 oG underlying135 rb (idx.length+j) LA rfl hM (by unfold maxLen;omega) (.int .i64 (xJ:Int)) (.int .i64 ((idx.length+j:Nat):Int)) rfl (by go_num) hki ?_;intro w12 Vz M8)
       have MZ:=Vt.out.aes Vz M8;have Nh:w12.heap[eb]?=W11.heap[eb]?:=(gJ M8).block eb (by have:=lt_of_cell g1;exact this) (λh=>acv h);have d1':=(World.cell?_of_block Nh).trans g1;have d2':=(World.cell?_of_block Nh).trans g2;have ai8:W1.heap.size<=w12.heap.size:=MZ.ext.size;clear g0 g1 g2 Nh Vt hM Vz M8;go_wp2_with (at_builtin;refine dC rfl (.tmp 110) (.tmp 113) 26 rfl W1.heap.size 89 iN (.agg #[.slice none 0 0,.slice none 0 0]) 2 48 underlying26 RS zN0 zN1 zN2 rfl (by decide) (.slice av np.length cv) np.length _ rfl (MZ.node.alloc _) _ 1 _ [.slice b1 el.length d1,.slice b2 er.length d2] rfl rfl (.inr ⟨_,rfl,Gw⟩) uS (by unfold maxLen;omega) (by omega) (by rw[eQ];omega) ?_;intro v13 w13 ab7 acs ace)
       go_roundw
       case rel=>
        have U4:=MZ.aeB (e:=⟨xJ,.slice b1 el.length d1,.slice b2 er.length d2,el,er⟩) (bS (Below.refl _ _) _) acs ab7 (by simp) (by simp[En.two]) ace;rw[HNP.out,<-HFJ.out.1]at U4;exact⟨j+1,_,by omega,by go_num,U4,aQ (by
         have hr:=FC (at2:=at2) (m:=idx.length+j) (j:=j) (from_:=from_) AJ.1 HR2.out (by rw[<-PN.out];exact HAT.out j AJ.1);rw[AJ.2]at hr;exact hr)⟩
       case measure=>simp[intOf];omega
      .have hje:j=G'.length:=by omega
       subst hje;have h3:¬(((G'.length:Nat):Int)<((G'.length:Nat):Int)):=(by omega);have hNl:idx.length+G'.length<=900000:=(by have:=Xm.out;omega);have hfl:from_.length=G'.length:=(by rw[Sd.out,bD]);have hft:from_.take G'.length=from_:=(by rw[<-hfl,dB]);rw[hft,dB]at hm;have HR2:=aQ HR.out;rw[hft]at HR2;have hmd:=hm.aa7;have hrl:G'.length=q:=Xm.out;have e1:idx++(from_++rest.drop G'.length)=(idx++from_)++rest.drop q:=(by rw[hrl,dA]);have e2:idx.length+G'.length=(idx++from_).length:=(by rw[aK,hfl]);rw[e1,e2]at hmd;have HMD:=aQ hmd;have HE2:=aQ e2;have HO:Hid (ZX s.D root N (nodes++G') (idx++from_) at2 (b0+1) (rest.drop q) LA):=aQ ⟨by
        have h:=yg.out.1;have e:(nodes++G').map En.nd=nodes.map En.nd++from_.map (Xn s.D at_):=by
         rw[bG,Sd.out,gM];congr 1;exact df λe he=>HGN.out e he
        rw[e];exact h,by rw[bG,HI.out.ids,Sd.out],by rw[aK,aK,iB,hfl];omega,HR2.out⟩
       have ab2:=aQ hrl;clear hm hmd e1 e2 hft HR HR2 hrl;go_wp2
       go_roundw
       case rel=>exact⟨nodes++G',idx++from_,at2,b0+1,rest.drop q,LA,by rw[<-HE2.out];go_num,HMD.out,HO⟩
       case measure=>have:=ab2.out;simp[intOf];omega
    .have oH:q<rest.length:=by omega
     have h2:((kn:Nat):Int)<((N:Nat):Int):=(by omega);have hE0:=ax hx1 hm.ext;have RY:=hP.ext hE0;obtain⟨x,hxe⟩:∃x,x=rest[q]:=⟨_,rfl⟩;obtain⟨y,hye⟩:∃y,y=rest[0]:=⟨_,rfl⟩;have Ll:bO.Reach s.D root x:=(by rw[hxe];exact HS.out.reach (ai oH));have hyr:bO.Reach s.D root y:=(by rw[hye];exact HS.out.reach (ai h0));have XI:x<s.D.length:=(by have:=bO.mP hP.good.wf Ll;omega);have hyD:y<s.D.length:=(by have:=bO.mP hP.good.wf hyr;omega);have lx:=xh hm (k:=idx.length+q) (by rw[aK];omega);have ly:=xh hm (k:=idx.length) (by rw[aK];omega);rw[dU (by omega)]at lx ly;simp only[Nat.add_sub_cancel_left,Nat.sub_self]at lx ly;rw[<-hxe,<-hkn]at lx;rw[<-hye]at ly;obtain⟨gb,cb,c2,aj7,aj6,cx⟩:=RY.AY XI;obtain⟨gb',cb',c2',-,-,cy⟩:=RY.AY hyD;rw[c2]at c2';simp only[bN,Value.slice.injEq,Addr.mk.injEq,true_and,and_true]at c2';obtain⟨rfl,rfl⟩:=c2';have hby:bO.born (vl s.D y)=b0:=(by rw[HB0.out,hye]);rw[hby]at cy;by_cases hbq:bO.born (vl s.D x)=b0
     .rw[hbq]at cx
      have HX:=aQ (And.intro hxe (And.intro Ll hbq));have hxm:x∈rest:=(by rw[hxe];exact ai oH);have hoL:=HS.out.opts hP.good hxm hbq true;have hoR:=HS.out.opts hP.good hxm hbq false;have XM:=oN hP.good (left:=true) (f:=x);have hlR:=oN hP.good (left:=false) (f:=x);obtain⟨gr,Ws,aR,cR,xK,acn,qa,KP,hSR⟩:=hP.pV XI;obtain⟨gl,Wu,aL,cL,zU,acr,acp,KQ,tu⟩:=hP.rG XI;rw[<-(o9 XI).1]at KQ tu;rw[<-(o9 XI).2]at KP hSR;have Y7:∀y,y∈idx->y<900000000/\at_.getD y 0<900000000:=λy hy=>by
       have h1:=((HS.out.form.mem y).1 hy).1;have h2:=bO.mP hP.good.wf h1;have h3:=Rn HS.out.form hy;omega
      have HXN:=aQ (show(bQ ((opt s.D true x).map λy=>at_.getD y 0),bQ ((opt s.D false x).map λy=>at_.getD y 0))=Xn s.D at_ x from rfl);generalize hOL:opt s.D true x=OL at *;generalize hOR:opt s.D false x=OR at *;obtain⟨ag,cg,rfl,-,-⟩:=bH hm.IW;replace hgl:=aQ hgl;have hgn:group.length<=900000:=(by have:=hgl.out;omega);clear hxe hye Ll hyr hby hbq RY hkn hOL hOR hxm;go_upto_region 9 with fail
      go_quiet (fail)
      generalize hW6:wr.drewN nq=W6;have hd6:Ext wr W6:=(by rw[<-hW6];exact eU ⟨_,rfl⟩);have AA:=hm.ext' hd6;have Ko:=(hd6.cell (lt_of_cell hbx)).trans hbx;have lx6:=(hd6.cell (lt_of_cell lx)).trans lx;clear hW6 lx ly cx cy c2;go_upto_region 12 with fail
      have Q4:=ax hx1 AA.ext;have d0:=(Q4.cell (lt_of_cell zU)).trans zU;have d1:=(Q4.cell (lt_of_cell xK)).trans xK;have dl:=(Q4.cell (lt_of_cell KQ)).trans KQ;have dr:=(Q4.cell (lt_of_cell KP)).trans KP;have hRL:∀W,Ext W6 W->Calls prog 165 #[.slice aL OL.length cL,.map (some rb)] W (Eh (OL.map λy=>at_.getD y 0) W):=λW hW=>Dc _ OL rb idx.length fm _ W (tu.ext (ax Q4 hW)).out (by omega) (λy hy=>(Y7 y (hoL.1 y hy)).1) ((AA.ext' hW).rank) (λy hy=>HI.out.rank y (hoL.1 y hy)) hoL.2.1
      have hRR:∀W,Ext W6 W->Calls prog 165 #[.slice aR OR.length cR,.map (some rb)] W (Eh (OR.map λy=>at_.getD y 0) W):=λW hW=>Dc _ OR rb idx.length fm _ W (hSR.ext (ax Q4 hW)).out (by omega) (λy hy=>(Y7 y (hoR.1 y hy)).1) ((AA.ext' hW).rank) (λy hy=>HI.out.rank y (hoR.1 y hy)) hoR.2.1
      have afS:∀y,y∈bQ (OL.map λy=>at_.getD y 0)->y<900000000:=λy hy=>by obtain⟨z,hz,rfl⟩:=aH.1 (bZ.1 hy);exact(Y7 z (hoL.1 z hz)).2
      have afR:∀y,y∈bQ (OR.map λy=>at_.getD y 0)->y<900000000:=λy hy=>by obtain⟨z,hz,rfl⟩:=aH.1 (bZ.1 hy);exact(Y7 z (hoR.1 z hz)).2
      have hsL:=qc (OL.map λy=>at_.getD y 0);have hsR:=qc (OR.map λy=>at_.getD y 0);rw[bD]at hsL hsR;generalize XU:bQ (OL.map λy=>at_.getD y 0)=LL at *;generalize af5:bQ (OR.map λy=>at_.getD y 0)=RR at *;obtain⟨iE,hiE,zE0,zE1,zE2⟩:=info_parts MO;refine bV (λW=>W.cell? ⟨w.heap.size,0,none⟩=some (.pointer (some ⟨pp,0,none⟩))/\W.cell? ⟨pp,0,none⟩=some (.slice (some ⟨gl,0,none⟩) s.D.length Wu)/\W.cell? ⟨pp,1,none⟩=some (.slice (some ⟨gr,0,none⟩) s.D.length Ws)/\W.cell? ⟨gl,x,none⟩=some (.slice aL OL.length cL)/\W.cell? ⟨gr,x,none⟩=some (.slice aR OR.length cR)) [23,24] Yj (by kernel_rfl) ⟨by kernel_rfl,by kernel_rfl,by kernel_rfl⟩ ⟨Ko,d0,d1,dl,dr⟩ (λaz ah=>?_);(refine bT 0 az ah ?_;refine bT 1 az ah ?_;refine bT 2 az ah ?_;refine bT 3 az ah ?_;refine bT 4 az ah ?_;refine bT 5 az ah ?_;refine bT 6 az ah ?_;refine bT 7 az ah ?_;refine bT 8 az ah ?_;refine bT 9 az ah ?_;refine bT 11 az ah ?_;refine bT 12 az ah ?_;refine bT 13 az ah ?_;refine bT 14 az ah ?_;refine bT 15 az ah ?_;refine bT 16 az ah ?_;refine bT 17 az ah ?_;refine bT 18 az ah ?_);(refine nM az (i:=10) λK hK=>?_;go_simp);refine(hRL _ (eU ⟨1,rfl⟩)).mono ?_;rintro e w7 ⟨v7,rfl,BF,hx7⟩;rw[XU]at BF;have Kb:Ext W6 w7:=ax (eU ⟨1,rfl⟩) hx7;(refine hK.out _ _ (λ_=>?_) ?_)
      .exact⟨(Kb.cell (lt_of_cell Ko)).trans Ko,(Kb.cell (lt_of_cell d0)).trans d0,(Kb.cell (lt_of_cell d1)).trans d1,(Kb.cell (lt_of_cell dl)).trans dl,(Kb.cell (lt_of_cell dr)).trans dr⟩
      clear hK K;(try simp only[nP]);(refine nM az (i:=19) λK hK=>?_;go_simp);refine(hRR _ Kb).mono ?_;rintro e w8 ⟨v8,rfl,ho8,UD⟩;rw[af5]at ho8;clear XU af5;have DF:=ax Kb UD;(refine hK.out _ _ (λ_=>?_) ?_)
      .exact⟨(DF.cell (lt_of_cell Ko)).trans Ko,(DF.cell (lt_of_cell d0)).trans d0,(DF.cell (lt_of_cell d1)).trans d1,(DF.cell (lt_of_cell dl)).trans dl,(DF.cell (lt_of_cell dr)).trans dr⟩
      clear hK K;(try simp only[nP]);obtain⟨a7,c7,rfl,-,-⟩:=bH BF;obtain⟨a8,c8,rfl,-,-⟩:=bH ho8;have hS8:w8.cell? ⟨w.heap.size,0,none⟩=some (.pointer (some ⟨pp,0,none⟩))/\w8.cell? ⟨pp,0,none⟩=some (.slice (some ⟨gl,0,none⟩) s.D.length Wu)/\w8.cell? ⟨pp,1,none⟩=some (.slice (some ⟨gr,0,none⟩) s.D.length Ws)/\w8.cell? ⟨gl,x,none⟩=some (.slice aL OL.length cL)/\w8.cell? ⟨gr,x,none⟩=some (.slice aR OR.length cR):=⟨(DF.cell (lt_of_cell Ko)).trans Ko,(DF.cell (lt_of_cell d0)).trans d0,(DF.cell (lt_of_cell d1)).trans d1,(DF.cell (lt_of_cell dl)).trans dl,(DF.cell (lt_of_cell dr)).trans dr⟩;clear ah;have ah:=hS8;(refine bT 20 az ah ?_;refine bT 21 az ah ?_);(refine nM az (i:=22) λK hK=>?_;go_simp);(refine hK.out _ _ (λ_=>?_) ?_)
      .exact⟨bK hS8.1 _,bK hS8.2.1 _,bK hS8.2.2.1 _,bK hS8.2.2.2.1 _,bK hS8.2.2.2.2 _⟩
      clear hK K;(try simp only[nP]);refine nU az [23,24] [_,_] ?_;clear hS8;have hm8:=AA.adm (e:=⟨x,.slice a7 LL.length c7,.slice a8 RR.length c8,LL,RR⟩) DF ⟨bY BF UD,jS ho8 Kb.size,afS,afR,by show LL.length<=1000000;omega,by show RR.length<=1000000;omega⟩ (λb hb hc=>by have:=(BF.lt b hb).2;have:=(ho8.lt b hc).1;omega);have hw8:=hm8.ext.size;clear az ah d0 d1 dl dr hRL hRR hm AA lx6 hbx Ko tu hSR KQ KP zU xK hoL hoR afS afR;go_wp2_with (at_builtin;refine dC rfl (.tmp 64) (.tmp 86) 189 rfl W1.heap.size 192 iE (.agg #[.int .i64 0,.slice none 0 0,.slice none 0 0]) 3 56 underlying189 hiE zE0 zE1 zE2 rfl (by decide) (.slice ag group.length cg) group.length _ rfl (hm8.IW.alloc _) _ 1 _ [.int .i64 (x:Int),.slice a7 LL.length c7,.slice a8 RR.length c8] rfl rfl (.inr ⟨_,rfl,PX⟩) LP (by unfold maxLen;omega) (by omega) (by rw[eQ];omega) ?_;intro v9 w9 UZ M7 hl9)
      go_roundw
      case rel=>
       have hm9:=hm8.akW (e:=⟨x,.slice a7 LL.length c7,.slice a8 RR.length c8,LL,RR⟩) (bS (Below.refl _ _) _) M7 UZ (by simp) (by simp[En.cells]) hl9;rw[dA]at hm9;exact⟨q+1,group++[⟨x,.slice a7 LL.length c7,.slice a8 RR.length c8,LL,RR⟩],by omega,by have:=BX.out;go_num,hm9,aQ (HG.out.add (e:=⟨x,.slice a7 LL.length c7,.slice a8 RR.length c8,LL,RR⟩) oH HX.out.1 HXN.out (by rw[<-HX.out.1];exact HX.out.2.2))⟩
      case measure=>have:=BX.out;simp[intOf];omega
     .have hbf:((bO.born (vl s.D x):Int)== (b0:Int))=false:=by simp;omega
      have HQ:=aQ (show ∀hl:q<rest.length,bO.born (vl s.D rest[q])≠b0 from λhl=>by rw[<-hxe];exact hbq);clear hxe hye Ll hyr hby hbq RY hkn;go_upto_region 9 with fail
      go_quiet (fail)
      generalize hW6:wr.drewN nq=W6;have hd6:Ext wr W6:=(by rw[<-hW6];exact eU ⟨_,rfl⟩);have AA:=hm.ext' hd6;have hq1:0<q:=by
       rcases qi q with e|e
       .subst e;exact absurd HB0.out.symm (HQ.out h0)
       .exact e
      replace hgl:=aQ hgl;have M6:0<group.length/\group.length<=1000000:=(by have:=hgl.out;omega);clear hW6 hm hbx;obtain⟨gg,cg,rfl,-,-,-⟩:=gV AA.IW M6.1;have hgg:=AA.IW.lt gg rfl;have hSE:=aQ (yS W1.heap.size gg cg group W6 AA.IW (λe he=>AA.uk e (bq.2 (.inr he))) (λe he hb=>(AA.far e (bq.2 (.inr he)) gg hb).2.2.2 rfl) M6.1 M6.2);go_upto_region 14 with(go_at_call 166;refine hSE.out.mono ?_;rintro e w7 ⟨rfl,G',UT,hs7,BF,O5⟩)
      have hm7:=AA.aa6 UT BF O5;have hGl:=UT.length_eq;rw[<-hGl]at ⊢;have hGn:∀e,e∈G'->e.nd=Xn s.D at_ e.id:=λe he=>HG.out.nds e (UT.mem_iff.1 he)
      have hpi:(G'.map En.id).Perm (rest.take q):=(by rw[<-HG.out.ids];exact UT.map _);have hsi:(G'.map En.id).Pairwise (λx y=>¬bO.nc (Xn s.D at_ y) (Xn s.D at_ x)<0):=by
       rw[jh];exact iq (λ{a b} ha hb hab=>by rw[<-hGn a ha,<-hGn b hb];omega) hs7
      have yg:=aQ (HS.out.next hP.good hr hq HG.out.born HQ.out hpi hsi);have HGN:=aQ hGn;have hgq:G'.length=q:=(by rw[hGl];exact hgl.out);have ab8:=hnl.out;have HAT:=aQ (λj (hj:j<(G'.map En.id).length)=>A8 (at_:=at_) (n:=(nodes.map En.nd).length) (root:=root) yg.out.2.1 yg.out.2.2.1 j hj);have HAO:=aQ (λy (hy:y ∉ G'.map En.id)=>yH (from_:=G'.map En.id) (n:=(nodes.map En.nd).length) (root:=root) HS.out.form.atl y hy);have PN:Hid ((nodes.map En.nd).length=idx.length):=aQ (by rw[bD];exact hnl.out);have HR0:Hid (∀x,x∈idx++(G'.map En.id).take 0->fm (.int .i64 (x:Int))=some (.int .i64 (((qC at_ (G'.map En.id) (nodes.map En.nd).length root).getD x 0:Nat):Int))):=aQ (λx hx=>by
       rw[o5,fV]at hx;have hn:x ∉ G'.map En.id:=λhy=>yg.out.2.2.2 x hy hx
       rw[HI.out.rank x hx,aj,aj,HAO.out x hn])
      have Xm:=aQ hgq;clear AA hSE UT hs7 BF O5 hGl hGn hpi hsi hgq ab8;generalize qC at_ (G'.map En.id) (nodes.map En.nd).length root=at2 at *;obtain⟨from_,hfr⟩:∃f,f=G'.map En.id:=⟨_,rfl⟩;rw[<-hfr]at HR0 HAT yg HAO;have Sd:=aQ hfr;clear hfr;go_wp2
      go_loopw [8,13,14,92] (λnv _ _ ii wr=>∃(j:Nat) (LA:Value->Option Value),j<=G'.length/\ii=.int .i64 ((j:Nat):Int)/\OM W1 wr lb lc rb nv (.slice (some ⟨gg,0,none⟩) G'.length cg) (idx++(from_.take j++rest.drop j)) (idx.length+j) LA (nodes++G'.take j) G' (nodes++G')/\Hid (∀x,x∈idx++from_.take j->LA (.int .i64 (x:Int))=some (.int .i64 ((at2.getD x 0:Nat):Int)))) (λ_ _ _ ii _=>G'.length-(intOf ii).toNat)
      case atStart=>exact⟨0,fm,aJ _,rfl,by simpa using hm7,HR0⟩
      case round=>
       clear hm7 HR0;obtain⟨j,LA,hj,rfl,hm,HR⟩:=hrel;by_cases hjl:j<G'.length
       .have h3:((j:Nat):Int)<((G'.length:Nat):Int):=by omega
        have hNl:idx.length+G'.length<=900000:=(by have:=Xm.out;omega);have hfl:from_.length=G'.length:=(by rw[Sd.out,bD]);have hjr:j<rest.length:=(by have:=Xm.out;omega);have hLc:(idx++(from_.take j++rest.drop j)).length=N:=(by simp;omega);have k0:=sU hm hjl 0 (by omega);have k1:=sU hm hjl 1 (by omega);have k2:=sU hm hjl 2 (by omega);have hen:=hm.uk _ (bq.2 (.inr (ai hjl)));have htk:nodes++G'.take (j+1)=(nodes++G'.take j)++[G'[j]]:=(by rw[bg hjl,dA]);have hfj:from_[j]?=some G'[j].id:=(by rw[Sd.out,dm,aa hjl];rfl);have U8:G'[j].id<900000:=by
         have h1:G'[j].id∈from_:=jr hfj;have:=yg.out.2.2.1 _ h1;omega
        have hll:=xh hm (k:=idx.length+j) (by omega);have hlf:=hm.list.frozenAt (idx.length+j);obtain⟨e,Y1⟩:∃e,e=G'[j]:=⟨_,rfl⟩;rw[<-Y1]at k0 k1 k2 hen htk hfj U8;have HFJ:=aQ (And.intro htk hfj);have HEE:=aQ Y1;clear Y1 htk hfj;obtain⟨xJ,elv,erv,el,er⟩:=e;obtain⟨b1,d1,e1,-,-⟩:=bH hen.1;obtain⟨b2,d2,e2,-,-⟩:=bH hen.2.1;dsimp only at e1 e2;subst e1 e2;simp only[En.cells,eZ,eP,mG]at k0 k1 k2;obtain⟨np,Lm⟩:∃np,np=nodes++G'.take j:=⟨_,rfl⟩;have hnn:np.length<=1000000:=(by rw[Lm,aK,dI,hnl.out];omega);have HNP:=aQ Lm;rw[<-Lm]at hm;obtain⟨av,cv,rfl,-,-⟩:=bH hm.node;have hki:=qz xJ (by simp only at U8;omega);have HM:=aQ hm;have HR2:=aQ HR.out;clear Lm;have UF:Ext wr (wr.alloc (.cells #[.int .i64 (xJ:Int),.slice b1 el.length d1,.slice b2 er.length d2] 192)):=bS (Below.refl _ _) _;have Hl:=hm.ext' UF;have f0:(wr.alloc (.cells #[.int .i64 (xJ:Int),.slice b1 el.length d1,.slice b2 er.length d2] 192)).cell? ⟨wr.heap.size,0,none⟩=some (.int .i64 (xJ:Int)):=World.cell?_alloc_at _ _ _ 0 rfl;have f1:(wr.alloc (.cells #[.int .i64 (xJ:Int),.slice b1 el.length d1,.slice b2 er.length d2] 192)).cell? ⟨wr.heap.size,1,none⟩=some (.slice b1 el.length d1):=World.cell?_alloc_at _ _ _ 1 rfl;have f2:(wr.alloc (.cells #[.int .i64 (xJ:Int),.slice b1 el.length d1,.slice b2 er.length d2] 192)).cell? ⟨wr.heap.size,2,none⟩=some (.slice b2 er.length d2):=World.cell?_alloc_at _ _ _ 2 rfl;have afr:=(hm.MG).2;have ajo:=hm.rank.lt;have hwz:(wr.alloc (.cells #[.int .i64 (xJ:Int),.slice b1 el.length d1,.slice b2 er.length d2] 192)).heap.size=wr.heap.size+1:=eQ _ _;clear hm hen;go_upto_region 17 with fail
        clear k0 k1 k2 hll hlf;generalize wr.alloc (.cells #[.int .i64 (xJ:Int),.slice b1 el.length d1,.slice b2 er.length d2] 192)=ZT at *;generalize heb:wr.heap.size=eb at *;have hkr:idx.length+j<N:=(by omega);have XM:((idx.length+j:Nat):Int)<(N:Int):=(by omega);have hlc:=Hl.list.frozenAt (idx.length+j);have hln:=xh Hl (k:=idx.length+j) (by omega);have hS1:=Hl.aeC (k:=idx.length+j) (by omega) xJ;clear heb;go_upto_region 18 with fail
        have AJ:∃h:j<from_.length,from_[j]=xJ:=by
         have:=HFJ.out.2;obtain⟨h,e⟩:=cK.1 this;exact⟨h,e⟩
        have acu:from_.length<=rest.length:=(by have:=Xm.out;omega);rw[<-AJ.2,FU AJ.1 acu]at hS1;rw[AJ.2]at hS1;have Na:eb≠lb:=(by omega);have acv:eb≠rb:=(by omega);have g0:=(World.cell?_setCell_other ZT ⟨lb,idx.length+j,none⟩ ⟨eb,0,none⟩ (.int .i64 (xJ:Int)) (by simp[Na.symm])).trans f0;have g1:=(World.cell?_setCell_other ZT ⟨lb,idx.length+j,none⟩ ⟨eb,1,none⟩ (.int .i64 (xJ:Int)) (by simp[Na.symm])).trans f1;have g2:=(World.cell?_setCell_other ZT ⟨lb,idx.length+j,none⟩ ⟨eb,2,none⟩ (.int .i64 (xJ:Int)) (by simp[Na.symm])).trans f2;generalize ZT.setCell ⟨lb,idx.length+j,none⟩ (.int .i64 (xJ:Int))=W11 at *;clear f0 f1 f2 hlc hln Hl;have hM:=hS1.rank;have Vt:=aQ hS1;obtain⟨kj,hkj⟩:∃n,n=idx.length+j:=⟨_,rfl⟩;have HKJ:=aQ hkj;have ajV:idx.length+j<=900000:=(by omega);clear hS1 UF hkj;go_upto_region 19 with(at_mapUpdate;refine iK rfl _ _ _ 135 rfl 3 3 oG underlying135 rb (idx.length+j) LA rfl hM (by unfold maxLen;omega) (.int .i64 (xJ:Int)) (.int .i64 ((idx.length+j:Nat):Int)) rfl (by go_num) hki ?_;intro w12 Vz M8)
        have MZ:=Vt.out.aes Vz M8;have Nh:w12.heap[eb]?=W11.heap[eb]?:=(gJ M8).block eb (by have:=lt_of_cell g1;exact this) (λh=>acv h);have d1':=(World.cell?_of_block Nh).trans g1;have d2':=(World.cell?_of_block Nh).trans g2;have ai8:W1.heap.size<=w12.heap.size:=MZ.ext.size;clear g0 g1 g2 Nh Vt hM Vz M8;go_wp2_with (at_builtin;refine dC rfl (.tmp 110) (.tmp 113) 26 rfl W1.heap.size 89 iN (.agg #[.slice none 0 0,.slice none 0 0]) 2 48 underlying26 RS zN0 zN1 zN2 rfl (by decide) (.slice av np.length cv) np.length _ rfl (MZ.node.alloc _) _ 1 _ [.slice b1 el.length d1,.slice b2 er.length d2] rfl rfl (.inr ⟨_,rfl,Gw⟩) uS (by unfold maxLen;omega) (by omega) (by rw[eQ];omega) ?_;intro v13 w13 ab7 acs ace)
        go_roundw
        case rel=>
         have U4:=MZ.aeB (e:=⟨xJ,.slice b1 el.length d1,.slice b2 er.length d2,el,er⟩) (bS (Below.refl _ _) _) acs ab7 (by simp) (by simp[En.two]) ace;rw[HNP.out,<-HFJ.out.1]at U4;exact⟨j+1,_,by omega,by go_num,U4,aQ (by
          have hr:=FC (at2:=at2) (m:=idx.length+j) (j:=j) (from_:=from_) AJ.1 HR2.out (by rw[<-PN.out];exact HAT.out j AJ.1);rw[AJ.2]at hr;exact hr)⟩
        case measure=>simp[intOf];omega
       .have hje:j=G'.length:=by omega
        subst hje;have h3:¬(((G'.length:Nat):Int)<((G'.length:Nat):Int)):=(by omega);have hNl:idx.length+G'.length<=900000:=(by have:=Xm.out;omega);have hfl:from_.length=G'.length:=(by rw[Sd.out,bD]);have hft:from_.take G'.length=from_:=(by rw[<-hfl,dB]);rw[hft,dB]at hm;have HR2:=aQ HR.out;rw[hft]at HR2;have hmd:=hm.aa7;have hrl:G'.length=q:=Xm.out;have e1:idx++(from_++rest.drop G'.length)=(idx++from_)++rest.drop q:=(by rw[hrl,dA]);have e2:idx.length+G'.length=(idx++from_).length:=(by rw[aK,hfl]);rw[e1,e2]at hmd;have HMD:=aQ hmd;have HE2:=aQ e2;have HO:Hid (ZX s.D root N (nodes++G') (idx++from_) at2 (b0+1) (rest.drop q) LA):=aQ ⟨by
         have h:=yg.out.1;have e:(nodes++G').map En.nd=nodes.map En.nd++from_.map (Xn s.D at_):=by
          rw[bG,Sd.out,gM];congr 1;exact df λe he=>HGN.out e he
         rw[e];exact h,by rw[bG,HI.out.ids,Sd.out],by rw[aK,aK,iB,hfl];omega,HR2.out⟩
        have ab2:=aQ hrl;clear hm hmd e1 e2 hft HR HR2 hrl;go_wp2
        go_roundw
        case rel=>exact⟨nodes++G',idx++from_,at2,b0+1,rest.drop q,LA,by rw[<-HE2.out];go_num,HMD.out,HO⟩
        case measure=>have:=ab2.out;simp[intOf];omega
end Go.Proofs.YteknjeohbcgpdaaGreatDoor