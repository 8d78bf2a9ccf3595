/-
  Contract of the book's form.
-/
import Derived.Test.YteknjeohbcgpdaaGreatDoorK10
import Derived.Deep.CutBlock
set_option maxRecDepth 100000
namespace Go.Proofs.YteknjeohbcgpdaaGreatDoor
open Tryz
open Go.RowKit
open bz (dC Nd vl nc born)
variable {w w' W W' w4:World} {D:dC} {at_ from_ at2:List Nat} {m p q i root xd n N:Nat} {L R v v' v3 x:Value} {xs:List Value} {K:Nat->Prop}
theorem eD.ado{pb:Nat}{vn vb:Value}(h:eD w pb vn vb D)(h0:0<D.length):
 ∃gb cb,vb=.slice (some ⟨gb,0,none⟩) D.length cb/\∀W,Ext w W->W.cell? ⟨pb,1,none⟩=some (.slice (some ⟨gb,0,none⟩) D.length cb)/\∀x,x<D.length->W.cell? ⟨gb,x,none⟩=some (.int .i64 (bz.born (vl D x):Int)):=by
 obtain⟨gb,cb,rfl,_,_,_⟩:=h.Zaa h0;refine⟨gb,cb,rfl,λW hW=>⟨(h.ext hW).cell1,λx hx=>?_⟩⟩;obtain⟨g,c,e,_,_,hc⟩:=(h.ext hW).Zaa hx;simp only[Value.slice.injEq,bJ,Addr.mk.injEq,and_true,true_and]at e;obtain⟨rfl,rfl⟩:=e;exact hc
theorem BO(at_ l:List Nat):Qo (dx at_) (dx l)=dx (l.map λx=>at_.getD x 0):=by
 unfold Qo dx;rw[jC,jC];refine dP λx _=>?_
 simp only[Function.comp,jv,kV,dB,aV];cases at_[x]? <;> rfl
theorem Vo(hm:m<D.length):jD (Qo (dx at_) (dx (D[m]).1))=dx (Xn D at_ m).1/\jD (Qo (dx at_) (dx (D[m]).2))=dx (Xn D at_ m).2:=by
 rw[BO,BO,kI,kI,Xn,oU hm,nK hm];exact⟨rfl,rfl⟩
theorem rO(g:bz.Good D)(hm:m<D.length):(D[m]).1.length<=m/\(D[m]).2.length<=m:=by
 have h:=g.BP _ (ah hm);have hw:=g.wf m _ (aa hm);exact⟨jY (l6 h.1) hw.1,jY (l6 h.2) hw.2⟩
def DN(w:World)(p:Nat)(L R:Value):Prop:=w.heap[p]?=some (.cells #[L,R] 89 (0,0))
theorem DN.ext(h:DN w p L R)(hx:Ext w w'):DN w' p L R:=by unfold DN at *;rw[hx.block p (bG h)];exact h
theorem ER{wr:World}{vB vD:Value}{l r:List Int}(iF:Ext wr W)(hpz:wr.heap.size<=p)(hP:DN W p L R)(hIB:Ints W vB l)(AZ:Ints W vD r)
 (hfB:∀b,vB.ownBlock=some b->wr.heap.size<=b/\b<W.heap.size) (qV:∀b,vD.ownBlock=some b->wr.heap.size<=b/\b<W.heap.size) (WI:∀b,vB.ownBlock=some b->b≠p) (WH:∀b,vD.ownBlock=some b->b≠p):
 Ext wr ((W.setCell ⟨p,0,none⟩ vB).setCell ⟨p,1,none⟩ vD)/\DN ((W.setCell ⟨p,0,none⟩ vB).setCell ⟨p,1,none⟩ vD) p vB vD/\Ints ((W.setCell ⟨p,0,none⟩ vB).setCell ⟨p,1,none⟩ vD) vB l/\Ints ((W.setCell ⟨p,0,none⟩ vB).setCell ⟨p,1,none⟩ vD) vD r/\
 (∀b,vB.ownBlock=some b->wr.heap.size<=b/\b<((W.setCell ⟨p,0,none⟩ vB).setCell ⟨p,1,none⟩ vD).heap.size)/\(∀b,vD.ownBlock=some b->wr.heap.size<=b/\b<((W.setCell ⟨p,0,none⟩ vB).setCell ⟨p,1,none⟩ vD).heap.size):=by
 have e:∀k,k≠p->((W.setCell ⟨p,0,none⟩ vB).setCell ⟨p,1,none⟩ vD).heap[k]?=W.heap[k]?:=λk hk=>by rw[heap_setCell_other _ _ _ _ (by exact hk),heap_setCell_other _ _ _ _ (by exact hk)]
 refine⟨(iF.setCell (p:=⟨p,0,none⟩) hpz _).setCell (p:=⟨p,1,none⟩) hpz _,?_,hIB.keep (λb _ hb=>e b (WI b hb)),AZ.keep (λb _ hb=>e b (WH b hb)),by simpa using hfB,by simpa using qV⟩;exact heap_setCell_same _ _ _ _ _ _ (heap_setCell_same _ _ _ _ _ _ hP)
theorem DN.grown(h:DN W q L R)(hg:W.grownBy W' v.ownBlock)(hq:∀b,v.ownBlock=some b->b≠q):DN W' q L R:=by
 unfold DN at *;rw[hg.block q (bG h) (λe=>hq q e.symm rfl)];exact h
theorem VN(h:DN W q L R)(hl:mM W v v')(hq:∀b,v.ownBlock=some b->b≠q):∀b,v'.ownBlock=some b->b≠q:=by
 intro b hb e;have hlt:=bG h;rcases hl with h1|⟨g,h1,h2⟩
 .exact hq b (by rw[<-h1];exact hb) e
 .rw[h1]at hb;injection hb with hb;omega
theorem IW(h:DN W q L R):∀j u,([L,R]:List Value)[j]?=some u->W.cell? ((⟨q,0,none⟩:Addr).add j)=some u:=by
 intro j u hj;have e:(⟨q,0,none⟩:Addr).add j=⟨q,j,none⟩:=by simp[Addr.add];intro h;omega
 rw[e,cell_of_row W q j _ _ _ h]
 simpa using hj
theorem Jo{w3:World}{X:Nat->Nd}(Jr:W.ownsRow w3.heap.size 89 2 v3 (i+1+(from_.length-i)) (xs.take (i*2)++[L,R]++(xs.drop (i*2)).take ((from_.length-i)*2)))
 (hnr:jg w3 xs (from_.map X) w.heap.size K) (iF:Ext w3 W) (hxl:xs.length=from_.length*2) (hi:i<=from_.length) (hB:Ints w3 L (dx (X m).1)) (hD:Ints w3 R (dx (X m).2))
 (bL:∀b,L.ownBlock=some b->w.heap.size<=b/\b<w3.heap.size/\¬K b) (bR:∀b,R.ownBlock=some b->w.heap.size<=b/\b<w3.heap.size/\¬K b) (hw:w.heap.size<=w3.heap.size):
 ∃g cap xs',v3=.slice (some ⟨g,0,none⟩) (from_.length+1) cap/\Ext w3 W/\w3.heap.size<=g/\W.ownsRow w.heap.size 89 2 v3 (from_.length+1) xs'/\jg W xs' ((from_.take i++m :: from_.drop i).map X) w.heap.size K:=by
 have ht:(xs.drop (i*2)).take ((from_.length-i)*2)=xs.drop (i*2):=cO (by rw[mV];omega);rw[show i+1+(from_.length-i)=from_.length+1 by omega,ht,bY]at Jr;obtain⟨g,cap,rfl,h1,h2,_⟩:=iB Jr (by omega);have hn:=hnr.insert (by simpa using hxl) (i:=i) (by simpa using hi) hB hD bL bR;rw[show(from_.map X).take i++X m :: (from_.map X).drop i=(from_.take i++m :: from_.drop i).map X by simp[List.map_take,List.map_drop]]at hn;exact⟨g,cap,_,rfl,iF,(Jr.lt g rfl).1,CB Jr hw,hn.ext iF⟩
def Qg(w:World)(q:Nat)(v:Value):Prop:=w.heap[q]?=some (.cells #[v] 3 (0,0))
theorem Qg.ext(h:Qg w q v)(hx:Ext w w'):Qg w' q v:=by unfold Qg at *;rw[hx.block q (bG h)];exact h
theorem Qg.grown(h:Qg W q x)(hg:W.grownBy W' v.ownBlock)(hq:∀b,v.ownBlock=some b->b≠q):Qg W' q x:=by
 unfold Qg at *;rw[hg.block q (bG h) (λe=>hq q e.symm rfl)];exact h
theorem RV(h:Qg W q x)(hl:mM W v v')(hq:∀b,v.ownBlock=some b->b≠q):∀b,v'.ownBlock=some b->b≠q:=by
 intro b hb e;have hlt:=bG h;rcases hl with h1|⟨g,h1,h2⟩
 .exact hq b (by rw[<-h1];exact hb) e
 .rw[h1]at hb;injection hb with hb;omega
theorem Jn(h:W.ownsRow w4.heap.size 3 1 v3 (i+1+(from_.length-i)) (((dx from_).map (Value.int .i64)).take i++[.int .i64 ((m:Nat):Int)]++(((dx from_).map (Value.int .i64)).drop i).take (from_.length-i)))(iF:Ext w4 W)(hi:i<=from_.length)(hw:w.heap.size<=w4.heap.size):
 ∃g cap,v3=.slice (some ⟨g,0,none⟩) (from_.length+1) cap/\Ext w4 W/\w4.heap.size<=g/\W.ownsRow w.heap.size 3 1 v3 (from_.length+1) ((dx (from_.take i++m :: from_.drop i)).map (Value.int .i64)):=by
 have ht:(((dx from_).map (Value.int .i64)).drop i).take (from_.length-i)=((dx from_).map (Value.int .i64)).drop i:=cO (by simp[bu]);rw[show i+1+(from_.length-i)=from_.length+1 by omega,ht]at h;have e:(dx (from_.take i++m :: from_.drop i)).map (Value.int .i64)=((dx from_).map (Value.int .i64)).take i++[.int .i64 ((m:Nat):Int)]++((dx from_).map (Value.int .i64)).drop i:=by
  simp[dx,List.map_take,List.map_drop]
 obtain⟨g,cap,rfl,h1,h2,_⟩:=iB h (by omega);exact⟨g,cap,rfl,iF,(h.lt g rfl).1,by rw[e];exact CB h hw⟩
theorem Ou{wo:World}{F:dC}{idx:List Nat}{b g5 c5:Nat}{xs5:List Value}(g:bz.Good D)(hF:nL D root F idx at_ b)(hr:root<D.length)(hL:wT D root at_ b from_ m)(LH:bz.Reach D root m)(hbm:born (vl D m)=b)(hmt:m<=root)
 (hi:i<=from_.length) (h1:∀j (hj:j<from_.length),j<i->nc (Xn D at_ from_[j]) (Xn D at_ m)<0) (h2:∀hl:i<from_.length,¬nc (Xn D at_ from_[i]) (Xn D at_ m)<0) (hx:Ext wo w4) (iF:Ext w4 W)
 (VW:w4.ownsRow w.heap.size 89 2 (.slice (some ⟨g5,0,none⟩) (from_.length+1) c5) (from_.length+1) xs5) (VY:jg w4 xs5 ((from_.take i++m :: from_.drop i).map (Xn D at_)) w.heap.size K) (hg5:wo.heap.size<=g5)
 (hT:∃g cap,v3=.slice (some ⟨g,0,none⟩) (from_.length+1) cap/\Ext w4 W/\w4.heap.size<=g/\W.ownsRow w.heap.size 3 1 v3 (from_.length+1) ((dx (from_.take i++m :: from_.drop i)).map (Value.int .i64))) (hK:∀b,K b->b<wo.heap.size):
 ∃m' from',m'<=root+1/\Value.int .i64 ((m:Int)+1)=.int .i64 ((m':Nat):Int)/\wT D root at_ b from' m'/\Ext wo W/\GR w W K (.slice (some ⟨g5,0,none⟩) (from_.length+1) c5) v3 from' (Xn D at_):=by
 obtain⟨g6,c6,rfl,_,hg6,afi⟩:=hT;have hl:(from_.take i++m :: from_.drop i).length=from_.length+1:=by simp;omega
 have hz:=hx.size;refine⟨m+1,from_.take i++m :: from_.drop i,by omega,by simp,hL.put g hF hr LH hbm hi h1 h2,ay hx iF,⟨⟨xs5,?_,VY.ext iF⟩,?_,λb hb k=>?_,λb hb k=>?_,?_,?_⟩⟩
 .rw[hl];exact dn VW iF
 .rw[hl];exact afi
 .simp[Value.ownBlock]at hb;subst hb;have:=hK _ k;omega
 .simp[Value.ownBlock]at hb;subst hb;have:=hK _ k;omega
 .rw[hl];exact⟨_,_,rfl⟩
 .rw[hl];exact⟨_,_,rfl⟩
theorem KT(hn:from_.Nodup)(hlt:i<from_.length)(hx:from_[i]=xd)(hl:xd<at2.length)(hN:N=n+i)(h:∀j (h:j<from_.length),j<i->at2[from_[j]]?=some (n+j)):
 Hid (∀j (h:j<from_.length),j<i+1->(at2.set xd N)[from_[j]]?=some (n+j)):=by
 intro j hj hji;by_cases e:j=i
 .subst e
  rw[hx,kU,if_pos rfl,if_pos hl,hN]
 .rw[kU,if_neg (λe2=>e (zM hn hj hlt (by rw[hx,e2])))]
  exact h j hj (by omega)
theorem KU(hlt:i<from_.length)(hx:from_[i]=xd)(h:∀y,(∀j (h:j<from_.length),j<i->from_[j]≠y)->at2[y]?=at_[y]?):
 Hid (∀y,(∀j (h:j<from_.length),j<i+1->from_[j]≠y)->(at2.set xd N)[y]?=at_[y]?):=by
 intro y hy;rw[kU,if_neg (λe=>hy i hlt (by omega) (by rw[hx,e]))];exact h y (λj hj hji=>hy j hj (by omega))
theorem Rx{B e size:Nat}(h:w.ownsRow B e size v n xs):w.ownsRow 0 e size v n xs:=by
 obtain⟨hl,h⟩:=h;refine⟨hl,?_⟩;rcases h with h|⟨g,cap,cur,h1,hb,h2⟩
 .exact .inl h
 .exact .inr ⟨g,cap,cur,h1,az _,h2⟩
theorem wU.start{w1 w2:World}(hx1:Ext (w.alloc (.cells #[.slice none 0 0] 28)) w1)(ho2:w2.ownsRow w.heap.size 3 1 (.slice (some ⟨w1.heap.size,0,none⟩) (root+1) (root+1)) (root+1) ((dx (List.replicate (root+1) 0)).map (Value.int .i64)))(hg2:w1.grownBy w2 none):
 wU w ((w2.alloc (.cells #[] 89)).alloc (.cells #[.slice (some ⟨w2.heap.size,0,none⟩) 0 0] 28)) (w2.heap.size+1) w1.heap.size (.slice (some ⟨w2.heap.size,0,none⟩) 0 0) root [] (List.replicate (root+1) 0):=by
 have z1:=hx1.size;rw[fw]at z1;have z2:=(ho2.lt w1.heap.size rfl).2;have hx2:Ext w1 w2:=dZ (Below.refl _ _) hg2 (by simp);have hx0:Ext w w2:=ay (ay (by go_grown) hx1) hx2;have hx3:Ext w2 ((w2.alloc (.cells #[] 89)).alloc (.cells #[.slice (some ⟨w2.heap.size,0,none⟩) 0 0] 28)):=by go_grown
 have r0:(w.alloc (.cells #[.slice none 0 0] 28)).heap[w.heap.size]?=some (.cells #[.slice none 0 0] 28 (0,0)):=heap_alloc_new _ _;refine⟨ay hx0 hx3,?_,dn ho2 hx3,?_,⟨[],?_,jg.nil _ _ _⟩,?_,?_,?_,?_,?_,?_,?_⟩
 .rw[hx3.block _ (by omega),hx2.block _ (by omega),hx1.block _ (by rw[fw];omega)];exact r0
 .have:=heap_alloc_new (w2.alloc (.cells #[] 89)) (.cells #[.slice (some ⟨w2.heap.size,0,none⟩) 0 0] 28);rw[fw]at this;exact this
 .exact(World.ownsRow_made w2 #[] 0 (by omega) (by decide) (by simp)).alloc _
 .simp[Value.ownBlock]
 .simp[Value.ownBlock];omega
 .simp[Value.ownBlock];omega
 .omega
 .omega
 .omega
 .omega
def KM:List Row:=[⟨0,[],58,[6]⟩,⟨1,[],59,[0]⟩,⟨2,[1],60,[58]⟩,⟨3,[2],61,[59]⟩,⟨4,[3],62,[60]⟩,⟨5,[],63,[11]⟩,⟨6,[4,5],64,[61,62]⟩,⟨7,[6],65,[63]⟩,⟨8,[7],66,[64]⟩,⟨9,[0,8],67,[57,65]⟩,⟨10,[9,9],68,[66]⟩,⟨11,[],69,[6]⟩,⟨12,[],70,[0]⟩,⟨13,[12],71,[69]⟩,⟨14,[13],72,[70]⟩,⟨15,[14],73,[71]⟩,⟨16,[],74,[11]⟩,⟨17,[15,16],75,[72,73]⟩,⟨18,[17],76,[74]⟩,⟨19,[18],77,[75]⟩,⟨20,[11,19,10],78,[68,76]⟩,⟨21,[20,20],79,[77]⟩,⟨22,[10,21],80,[67,78]⟩,⟨23,[],13,[]⟩,⟨24,[23,22,21,0,1,2,3,4,5,6,7,8,9,10,11,12,13,14,15,16,17,18,19,20,21,22,23],0,[12,79]⟩]
def xJ:List Row:=[⟨0,[],81,[13]⟩,⟨1,[],82,[9]⟩,⟨2,[1],83,[81]⟩,⟨3,[0,2],84,[80,82]⟩,⟨4,[3],85,[83]⟩,⟨5,[4],86,[9,84]⟩,⟨6,[4],87,[13,84]⟩,⟨7,[5,6,4],88,[85,86,84]⟩,⟨8,[7,4],89,[87,84]⟩,⟨9,[4],90,[12,84]⟩,⟨10,[8,9,4,4],91,[88,89,84]⟩,⟨11,[4,10],92,[84,90]⟩]
def KL:List Row:=[⟨0,[],95,[]⟩,⟨1,[],96,[9]⟩,⟨2,[],97,[13]⟩,⟨3,[1,2],98,[95,96]⟩,⟨4,[0,3],99,[94,97]⟩,⟨5,[],100,[12]⟩,⟨6,[5],101,[99]⟩,⟨7,[4,6,4],102,[98,100]⟩,⟨8,[],103,[9]⟩,⟨9,[],104,[13]⟩,⟨10,[8,9],105,[102,103]⟩,⟨11,[7,10,7],106,[101,104]⟩,⟨12,[11,11,0,1,2,3,4,5,6,7,8,9,10,11],10,[105]⟩]
def KJ:List Row:=[⟨0,[],107,[]⟩,⟨1,[],108,[10]⟩,⟨2,[],109,[13]⟩,⟨3,[1,2],110,[107,108]⟩,⟨4,[0,3],111,[106,109]⟩,⟨5,[],112,[11]⟩,⟨6,[5],113,[111]⟩,⟨7,[4,6,4],114,[110,112]⟩,⟨8,[],115,[10]⟩,⟨9,[],116,[13]⟩,⟨10,[8,9],117,[114,115]⟩,⟨11,[7,10,7],118,[113,116]⟩,⟨12,[11,11,0,1,2,3,4,5,6,7,8,9,10,11],11,[117]⟩]
def KI:List Row:=[⟨0,[],125,[6]⟩,⟨1,[],126,[10]⟩,⟨2,[],127,[14]⟩,⟨3,[1,2],128,[125,126]⟩,⟨4,[3],129,[127]⟩,⟨5,[],130,[7]⟩,⟨6,[5],131,[129]⟩,⟨7,[6],132,[130]⟩,⟨8,[0,4,0,1,2,3,4,5,6,7],133,[124,128]⟩,⟨9,[8,7,0,1,2,3,4,5,6,7],0,[132,131]⟩]
def KH:List Row:=[⟨0,[],134,[7]⟩,⟨1,[0],135,[133]⟩,⟨2,[],136,[9]⟩,⟨3,[],137,[14]⟩,⟨4,[2,3],138,[135,136]⟩,⟨5,[4],139,[137]⟩,⟨6,[5],140,[138]⟩,⟨7,[1,6],141,[134,139]⟩,⟨8,[0,1,2,3,4,5,6,7],142,[7]⟩,⟨9,[8,7,7,0,1,2,3,4,5,6,7],0,[141,140]⟩]
set_option maxHeartbeats 20000000 in
theorem y7(pb:Nat)(vn vb:Value)(D:dC)(root:Nat)(w:World)(hB:eD w pb vn vb D)(hr:root<D.length):
 Calls prog 133 #[.pointer (some ⟨pb,0,none⟩),.int .i64 root] w λe w'=>∃vN F,e=.returned (.agg #[vN])/\eX w' w.heap.size vN F/\bz.fq F/\bz.Same (bz.eu F) (vl D root)/\Ext w w':=by
 have hds:=hB.small;obtain⟨i0,hi0,hz0,hz1,hz2⟩:=info_parts iy;obtain⟨i1,hi1,hy0,hy1,hy2⟩:=info_parts zV;have hw:IntKind.i64.wrap ((root:Int)+1)=(root:Int)+1:=by rw[IntKind.wrap_i64];omega
 go_enter Tryz.func133,Tryz.ntmps133
 go_wp2_with (go_at_call 177;refine(IJ pb vn vb D root _ (hB.ext (by go_grown)) hr).mono ?_;rintro e w1 ⟨aib,bs,rfl,XR,AU,hx1⟩;obtain⟨w2,hmk,ho2,hg2⟩:=run_make_full (P:=prog) w1 w.heap.size 80 3 i0 (.int .i64 0) 1 underlying80 hi0 hz0 hz1 .i64 .i64 (root+1) (by rw[hz2];omega) (by unfold maxLen;omega) (by have:=hx1.size;rw[fw]at this;omega);rw[show(((root+1:Nat)):Int)=(root:Int)+1 by omega]at hmk)
 have ho2:w2.ownsRow w.heap.size 3 1 (.slice (some ⟨w1.heap.size,0,none⟩) (root+1) (root+1)) (root+1) ((dx (List.replicate (root+1) 0)).map (Value.int .i64)):=by
  rw[jM]at ho2;rw[dx,List.map_replicate,List.map_replicate,<-toList_madeCells_one];exact ho2
 have hM0:=wU.start hx1 ho2 hg2;obtain⟨xy,Ue,rfl,_,_,_⟩:=iB AU (by omega);have zn:=AU.lt xy rfl;have z1:=hx1.size;have z2:=hg2.size;have z1':w.heap.size+1<=w1.heap.size:=by rw[fw]at z1;exact z1
 have zn':w.heap.size+1<=xy/\xy<w1.heap.size:=by rw[fw]at zn;exact zn
 have hx2:Ext w1 ((w2.alloc (.cells #[] 89)).alloc (.cells #[.slice (some ⟨w2.heap.size,0,none⟩) 0 0] 28)):=ay (dZ (Below.refl _ _) hg2 (by simp)) (by go_grown);have Gd:=dn AU hx2;have hK0:¬KF w (w2.heap.size+1) w1.heap.size (.slice (some ⟨w2.heap.size,0,none⟩) 0 0) xy:=by
  rintro(e|e|e|e)
  .omega
  .omega
  .omega
  .simp[Value.ownBlock]at e;omega
 obtain⟨gb,cb,rfl,Tn⟩:=hB.ado (by omega);have HBX:=aH Tn;have HB:=aH hB;have U0:=aH XR;obtain⟨gn,cn,_,_,_,_,rfl,_⟩:=hB.RJ hr;have hst:=nL.start D root;obtain⟨Wb,hWb⟩:∃W,W=w.alloc (.cells #[.slice none 0 0] 28):=⟨_,rfl⟩;have Gd:((w2.alloc (.cells #[] 89)).alloc (.cells #[.slice (some ⟨w2.heap.size,0,none⟩) 0 0] 28)).ownsRow 0 4 1 (.slice (some ⟨xy,0,none⟩) (root+1) Ue) (root+1) (bs.map Value.bool):=Rx Gd;clear hWb Wb hx2 z1 z2 zn z1' zn' AU ho2 hg2 hmk hx1 XR Tn hB;generalize ((w2.alloc (.cells #[] 89)).alloc (.cells #[.slice (some ⟨w2.heap.size,0,none⟩) 0 0] 28))=W0 at *;generalize Value.slice (some ⟨w2.heap.size,0,none⟩) 0 0=vN0 at *;generalize w2.heap.size+1=o at *;generalize w1.heap.size=pR at *;obtain⟨at0,acy⟩:∃a,a=List.replicate (root+1) 0:=⟨_,rfl⟩;rw[<-acy]at hst hM0;clear acy;have hBl:=bz.nH HB.out.good.wf root;have hnX:=λ(i:Nat) (hi:i<D.length)=>HB.out.RJ hi
 have Aj:=aH hnX;clear hnX;go_loopw [8] (λbb wr=>∃b vN F idx at_,bb=.int .i64 ((b:Nat):Int)/\b<=born (vl D root)+1/\nL D root F idx at_ b/\wU w wr o pR vN root F at_/\wr.ownsRow 0 4 1 (.slice (some ⟨xy,0,none⟩) (root+1) Ue) (root+1) (bs.map Value.bool)/\¬KF w o pR vN xy) (λbb _=>born (vl D root)+1-(intOf bb).toNat)
 case atStart=>exact⟨0,vN0,[],[],at0,rfl,az _,hst,hM0,Gd,hK0⟩
 case round=>
  clear hst hM0 Gd hK0;obtain⟨b,vN,F,idx,at_,rfl,hb,hF,hM,AU,hK⟩:=hrel;obtain⟨wo,rfl⟩:∃wo:World,wo=wr:=⟨_,rfl⟩;have hE:=hM.ext;obtain⟨cb1,cb2⟩:=HBX.out _ hE;have cbr:=cb2 root hr;have hfz:=frozen_of_row wo w.heap.size 0 _ _ hM.res;by_cases hbt:b<=born (vl D root)
  .have HM:=aH hM
   have HF:=aH hF;have HN:=aH AU;have HK:=aH hK;clear hM hF AU hK cb2;go_wp2
   go_loopw [9,10,11,12,13] (λlv fv kk _ _ w2=>∃m from_,m<=root+1/\kk=.int .i64 ((m:Nat):Int)/\wT D root at_ b from_ m/\Ext wo w2/\GR w w2 (KF w o pR vN) lv fv from_ (Xn D at_)) (λ_ _ kk _ _ _=>root+1-(intOf kk).toNat)
   case atStart=>
    have hkl:=HM.out.klt;refine⟨0,[],az _,rfl,wT.start _ _ _ _,by go_grown,⟨⟨[],?_,jg.nil _ _ _⟩,?_,λb hb k=>?_,λb hb k=>?_,⟨_,_,rfl⟩,⟨_,_,rfl⟩⟩⟩
    .exact(World.ownsRow_made wo #[] 0 hE.size (by decide) (by simp)).alloc _
    .exact lM wo _ _ hE.size _
    .simp[Value.ownBlock]at hb;subst hb;have:=hkl _ k;omega
    .simp[Value.ownBlock]at hb;subst hb;have:=hkl _ k;omega
   case round=>
    obtain⟨m,from_,hm,rfl,hL,hx,hLM⟩:=hrel;obtain⟨wm,rfl⟩:∃wm:World,wm=wr:=⟨_,rfl⟩;by_cases hmt:m<=root
    .have hmr:m<root+1:=by omega
     have hmD:m<D.length:=(by omega);have hEm:=ay hE hx;obtain⟨bv,hbv⟩:∃b,bs[m]?=some b:=⟨_,aa (by rw[U0.out.len];omega)⟩;have aci:=zl (dn HN.out hx) hmr hbv;have Tm:=(HBX.out _ hEm).2 m hmD;have acj:=(HBX.out _ hEm).1;have HL:=aH hL;have HX:=aH hx;have xW:=aH hLM;clear hL hx hLM;cases bv with
     |false=>
      go_wp2
      go_roundw
      case rel=>exact⟨m+1,from_,by omega,by go_num,HL.out.skip (λh=>by have:=(U0.out.all m).2 h.1;rw[hbv]at this;cases this),HX.out,xW.out⟩
      case measure=>simp[intOf];omega
     |true=>
      by_cases hbm:born (vl D m)=b
      ·
       have LH:Hid (bz.Reach D root m):=(U0.out.all m).1 hbv;rw[hbm]at Tm;clear hbv;obtain⟨g',c',aL,cL,aR,cR,he,hN⟩:=Aj.out m hmD;simp only[Value.slice.injEq,bJ,Addr.mk.injEq,and_true,true_and]at he;obtain⟨rfl,rfl⟩:=he;have HS:=aH hN;obtain⟨p0,p1,p2,p3,p4⟩:=hN _ hEm;have Gl:wm.cell? ⟨pb,0,none⟩=some (.slice (some ⟨gn,0,none⟩) D.length cn)/\wm.cell? ⟨gn,m*2,none⟩=some (.slice aL (D[m]).1.length cL)/\wm.cell? ⟨gn,m*2+1,none⟩=some (.slice aR (D[m]).2.length cR):=⟨p0,p1,p2⟩;clear hN;go_wp2_with fail
       go_cut [12] (λx wc=>∃p aB n cB aD k cD,x=.pointer (some ⟨p,0,none⟩)/\Ext wm wc/\wm.heap.size<=p/\DN wc p (.slice aB n cB) (.slice aD k cD)/\Ints wc (.slice aB n cB) (dx (Xn D at_ m).1)/\Ints wc (.slice aD k cD) (dx (Xn D at_ m).2)/\(∀b,Value.ownBlock (.slice aB n cB)=some b->wm.heap.size<=b/\b<wc.heap.size)/\(∀b,Value.ownBlock (.slice aD k cD)=some b->wm.heap.size<=b/\b<wc.heap.size))
       case first=>
        refine bW (λw'=>w'.cell? ⟨pb,0,none⟩=some (.slice (some ⟨gn,0,none⟩) D.length cn)/\w'.cell? ⟨gn,m*2,none⟩=some (.slice aL (D[m]).1.length cL)/\w'.cell? ⟨gn,m*2+1,none⟩=some (.slice aR (D[m]).2.length cR)) [24] KM (by kernel_rfl) ⟨by kernel_rfl,by kernel_rfl,by kernel_rfl⟩ Gl (λax ae=>?_);(refine bT 0 ax ae ?_;refine bT 1 ax ae ?_;refine bT 2 ax ae ?_;refine bT 3 ax ae ?_;refine bT 4 ax ae ?_;refine bT 5 ax ae ?_;refine bT 6 ax ae ?_;refine bT 7 ax ae ?_;refine bT 8 ax ae ?_;refine bT 11 ax ae ?_;refine bT 12 ax ae ?_;refine bT 13 ax ae ?_;refine bT 14 ax ae ?_;refine bT 15 ax ae ?_;refine bT 16 ax ae ?_;refine bT 17 ax ae ?_;refine bT 18 ax ae ?_;refine bT 19 ax ae ?_);have pq:∀W,Ext wm W->W.cell? ⟨pb,0,none⟩=some (.slice (some ⟨gn,0,none⟩) D.length cn)/\W.cell? ⟨gn,m*2,none⟩=some (.slice aL (D[m]).1.length cL)/\W.cell? ⟨gn,m*2+1,none⟩=some (.slice aR (D[m]).2.length cR):=λW h=>by obtain⟨q0,q1,q2,-,-⟩:=HS.out W (ay hEm h);exact⟨q0,q1,q2⟩
        have hLs:∀W,Ext wm W->Ints W (.slice aL (D[m]).1.length cL) (dx (D[m]).1):=λW h=>(HS.out W (ay hEm h)).2.2.2.1
        have hRs:∀W,Ext wm W->Ints W (.slice aR (D[m]).2.length cR) (dx (D[m]).2):=λW h=>(HS.out W (ay hEm h)).2.2.2.2
        have acx:=HF.out.atl;have hAt:∀W,Ext wm W->Ints W (.slice (some ⟨pR,0,none⟩) (root+1) (root+1)) (dx at_):=λW h=>(Ints.eO (l:=dx at_) HM.out.WW (by rw[bu];omega)).ext (ay HX.out h)
        have hgl:=rO HB.out.good hmD;have abm:(dx (D[m]).1).length<=1000000000:=(by rw[bu];omega);have abl:(dx (D[m]).2).length<=1000000000:=(by rw[bu];omega);have hwm:=HB.out.good.wf m _ (aa hmD);have Uy:∀x,x∈dx (D[m]).1->0<=x/\x<(dx at_).length:=λx hx=>by obtain⟨n,hn,rfl⟩:=ni hx;have:=hwm.1 n hn;rw[bu,acx];omega
        have Ux:∀x,x∈dx (D[m]).2->0<=x/\x<(dx at_).length:=λx hx=>by obtain⟨n,hn,rfl⟩:=ni hx;have:=hwm.2 n hn;rw[bu,acx];omega
        obtain⟨xl1,xl2⟩:=Vo (at_:=at_) hmD;have iF:Ext wm wm.drew:=⟨rfl,rfl,rfl,ai _,λ_ _=>rfl⟩;obtain⟨W,hW⟩:∃W,W=wm.drew:=⟨_,rfl⟩;rw[<-hW]at iF ae ⊢;clear hW;have De:=True.intro;refine lK ax (i:=9) (j:=23) (by kernel_rfl) ?fa1 ?fb1
        case' fb1=>
         (refine G8 (i:=23) λK hK=>?_;go_simp);have jb:Ext W (W.alloc (.cells #[.slice none 0 0,.slice none 0 0] 89)):=(by go_grown);have xw:DN (W.alloc (.cells #[.slice none 0 0,.slice none 0 0] 89)) W.heap.size (.slice none 0 0) (.slice none 0 0):=heap_alloc_new _ _;have hpz:wm.heap.size<=W.heap.size:=iF.size;(try have WI:=λb hb=>ji (hfB b hb).2);(try have WH:=λb hb=>ji (qV b hb).2);(try replace Gj:=Gj.ext jb);(try replace hIB:=hIB.ext jb);(try replace Eb:=Eb.ext jb);(try replace AZ:=AZ.ext jb);(try replace hP:=hP.ext jb);(try replace hfB:=λb hb=>And.intro (hfB b hb).1 (aQ (hfB b hb).2 jb.size));(try replace qV:=λb hb=>And.intro (qV b hb).1 (aQ (qV b hb).2 jb.size));replace iF:=ay iF jb;have ae:=pq _ iF;have hP:=xw;clear xw;refine hK.out _ _ (λ_=>ae) ?_;clear hK K;(try simp only[nP]);generalize W.alloc (.cells #[.slice none 0 0,.slice none 0 0] 89)=W1 at *;generalize W.heap.size=p at *;clear jb;obtain⟨W,rfl⟩:∃W,W=W1:=⟨_,rfl⟩;clear De
        case' fa1=>(refine G8 (i:=9) λK hK=>?_;go_simp)
        all_goals
         first
          |(have hNP:=De;clear hNP)
          |(refine oZ ax (i:=9) λK hK=>?_;go_simp)
         refine(rE _ _ (dx at_) (dx (D[m]).1) _ (hAt _ iF) (hLs _ iF) Uy abm).mono ?_;rintro e W ⟨vA,rfl,agA,jb⟩;(try replace Gj:=Gj.ext jb);(try replace hIB:=hIB.ext jb);(try replace Eb:=Eb.ext jb);(try replace AZ:=AZ.ext jb);(try replace hP:=hP.ext jb);(try replace hfB:=λb hb=>And.intro (hfB b hb).1 (aQ (hfB b hb).2 jb.size));(try replace qV:=λb hb=>And.intro (qV b hb).1 (aQ (qV b hb).2 jb.size));replace iF:=ay iF jb;have ae:=pq _ iF;have Gj:=agA;refine hK.out _ _ (λ_=>ae) ?_;clear hK K;(try simp only[nP])
        refine lK ax (i:=10) (j:=23) (by kernel_rfl) ?fa2 ?fb2
        case' fb2=>
         (refine G8 (i:=23) λK hK=>?_;go_simp);have jb:Ext W (W.alloc (.cells #[.slice none 0 0,.slice none 0 0] 89)):=(by go_grown);have xw:DN (W.alloc (.cells #[.slice none 0 0,.slice none 0 0] 89)) W.heap.size (.slice none 0 0) (.slice none 0 0):=heap_alloc_new _ _;have hpz:wm.heap.size<=W.heap.size:=iF.size;(try have WI:=λb hb=>ji (hfB b hb).2);(try have WH:=λb hb=>ji (qV b hb).2);(try replace Gj:=Gj.ext jb);(try replace hIB:=hIB.ext jb);(try replace Eb:=Eb.ext jb);(try replace AZ:=AZ.ext jb);(try replace hP:=hP.ext jb);(try replace hfB:=λb hb=>And.intro (hfB b hb).1 (aQ (hfB b hb).2 jb.size));(try replace qV:=λb hb=>And.intro (qV b hb).1 (aQ (qV b hb).2 jb.size));replace iF:=ay iF jb;have ae:=pq _ iF;have hP:=xw;clear xw;refine hK.out _ _ (λ_=>ae) ?_;clear hK K;(try simp only[nP]);generalize W.alloc (.cells #[.slice none 0 0,.slice none 0 0] 89)=W1 at *;generalize W.heap.size=p at *;clear jb;obtain⟨W,rfl⟩:∃W,W=W1:=⟨_,rfl⟩;clear De
        case' fa2=>(refine G8 (i:=10) λK hK=>?_;go_simp)
        all_goals
         first
          |(have hNP:=De;clear hNP)
          |(refine oZ ax (i:=10) λK hK=>?_;go_simp)
         refine(yM _ _ _ Gj (by rw[GI];exact abm)).mono ?_;rintro e W ⟨vB,rfl,ZI,jb,Wd⟩;(try have WI:∀b,vB.ownBlock=some b->b≠p:=λb hb e=>by have h1:=bG hP;have h2:=(Wd b hb).1;omega);have hfB:∀b,vB.ownBlock=some b->wm.heap.size<=b/\b<W.heap.size:=λb hb=>⟨bU iF.size (Wd b hb).1,(Wd b hb).2⟩
         clear Wd;rw[xl1]at ZI;obtain⟨aB,cB,rfl,-⟩:=id ZI;(try replace Gj:=Gj.ext jb);(try replace hIB:=hIB.ext jb);(try replace Eb:=Eb.ext jb);(try replace AZ:=AZ.ext jb);(try replace hP:=hP.ext jb);(try replace hfB:=λb hb=>And.intro (hfB b hb).1 (aQ (hfB b hb).2 jb.size));(try replace qV:=λb hb=>And.intro (qV b hb).1 (aQ (qV b hb).2 jb.size));replace iF:=ay iF jb;have ae:=pq _ iF;have hIB:=ZI;refine hK.out _ _ (λ_=>ae) ?_;clear hK K;(try simp only[nP])
        refine lK ax (i:=20) (j:=23) (by kernel_rfl) ?fa3 ?fb3
        case' fb3=>
         (refine G8 (i:=23) λK hK=>?_;go_simp);have jb:Ext W (W.alloc (.cells #[.slice none 0 0,.slice none 0 0] 89)):=(by go_grown);have xw:DN (W.alloc (.cells #[.slice none 0 0,.slice none 0 0] 89)) W.heap.size (.slice none 0 0) (.slice none 0 0):=heap_alloc_new _ _;have hpz:wm.heap.size<=W.heap.size:=iF.size;(try have WI:=λb hb=>ji (hfB b hb).2);(try have WH:=λb hb=>ji (qV b hb).2);(try replace Gj:=Gj.ext jb);(try replace hIB:=hIB.ext jb);(try replace Eb:=Eb.ext jb);(try replace AZ:=AZ.ext jb);(try replace hP:=hP.ext jb);(try replace hfB:=λb hb=>And.intro (hfB b hb).1 (aQ (hfB b hb).2 jb.size));(try replace qV:=λb hb=>And.intro (qV b hb).1 (aQ (qV b hb).2 jb.size));replace iF:=ay iF jb;have ae:=pq _ iF;have hP:=xw;clear xw;refine hK.out _ _ (λ_=>ae) ?_;clear hK K;(try simp only[nP]);generalize W.alloc (.cells #[.slice none 0 0,.slice none 0 0] 89)=W1 at *;generalize W.heap.size=p at *;clear jb;obtain⟨W,rfl⟩:∃W,W=W1:=⟨_,rfl⟩;clear De
        case' fa3=>(refine G8 (i:=20) λK hK=>?_;go_simp)
        all_goals
         first
          |(have hNP:=De;clear hNP)
          |(refine oZ ax (i:=20) λK hK=>?_;go_simp)
         refine(rE _ _ (dx at_) (dx (D[m]).2) _ (hAt _ iF) (hRs _ iF) Ux abl).mono ?_;rintro e W ⟨vC,rfl,agz,jb⟩;(try replace Gj:=Gj.ext jb);(try replace hIB:=hIB.ext jb);(try replace Eb:=Eb.ext jb);(try replace AZ:=AZ.ext jb);(try replace hP:=hP.ext jb);(try replace hfB:=λb hb=>And.intro (hfB b hb).1 (aQ (hfB b hb).2 jb.size));(try replace qV:=λb hb=>And.intro (qV b hb).1 (aQ (qV b hb).2 jb.size));replace iF:=ay iF jb;have ae:=pq _ iF;have Eb:=agz;refine hK.out _ _ (λ_=>ae) ?_;clear hK K;(try simp only[nP])
        refine lK ax (i:=21) (j:=23) (by kernel_rfl) ?fa4 ?fb4
        case' fb4=>
         (refine G8 (i:=23) λK hK=>?_;go_simp);have jb:Ext W (W.alloc (.cells #[.slice none 0 0,.slice none 0 0] 89)):=(by go_grown);have xw:DN (W.alloc (.cells #[.slice none 0 0,.slice none 0 0] 89)) W.heap.size (.slice none 0 0) (.slice none 0 0):=heap_alloc_new _ _;have hpz:wm.heap.size<=W.heap.size:=iF.size;(try have WI:=λb hb=>ji (hfB b hb).2);(try have WH:=λb hb=>ji (qV b hb).2);(try replace Gj:=Gj.ext jb);(try replace hIB:=hIB.ext jb);(try replace Eb:=Eb.ext jb);(try replace AZ:=AZ.ext jb);(try replace hP:=hP.ext jb);(try replace hfB:=λb hb=>And.intro (hfB b hb).1 (aQ (hfB b hb).2 jb.size));(try replace qV:=λb hb=>And.intro (qV b hb).1 (aQ (qV b hb).2 jb.size));replace iF:=ay iF jb;have ae:=pq _ iF;have hP:=xw;clear xw;refine hK.out _ _ (λ_=>ae) ?_;clear hK K;(try simp only[nP]);generalize W.alloc (.cells #[.slice none 0 0,.slice none 0 0] 89)=W1 at *;generalize W.heap.size=p at *;clear jb;obtain⟨W,rfl⟩:∃W,W=W1:=⟨_,rfl⟩;clear De
        case' fa4=>(refine G8 (i:=21) λK hK=>?_;go_simp)
        all_goals
         first
          |(have hNP:=De;clear hNP)
          |(refine oZ ax (i:=21) λK hK=>?_;go_simp)
         refine(yM _ _ _ Eb (by rw[GI];exact abl)).mono ?_;rintro e W ⟨vD,rfl,ZH,jb,V9⟩;(try have WH:∀b,vD.ownBlock=some b->b≠p:=λb hb e=>by have h1:=bG hP;have h2:=(V9 b hb).1;omega);have qV:∀b,vD.ownBlock=some b->wm.heap.size<=b/\b<W.heap.size:=λb hb=>⟨bU iF.size (V9 b hb).1,(V9 b hb).2⟩
         clear V9;rw[xl2]at ZH;obtain⟨aD,cD,rfl,-⟩:=id ZH;(try replace Gj:=Gj.ext jb);(try replace hIB:=hIB.ext jb);(try replace Eb:=Eb.ext jb);(try replace AZ:=AZ.ext jb);(try replace hP:=hP.ext jb);(try replace hfB:=λb hb=>And.intro (hfB b hb).1 (aQ (hfB b hb).2 jb.size));(try replace qV:=λb hb=>And.intro (qV b hb).1 (aQ (qV b hb).2 jb.size));replace iF:=ay iF jb;have ae:=pq _ iF;have AZ:=ZH;refine hK.out _ _ (λ_=>ae) ?_;clear hK K;(try simp only[nP])
        all_goals
         (refine bT 22 ax ae ?_)
        (refine oZ ax (i:=23) λK hK=>?_;go_simp);have jb:Ext W (W.alloc (.cells #[.slice none 0 0,.slice none 0 0] 89)):=(by go_grown);have xw:DN (W.alloc (.cells #[.slice none 0 0,.slice none 0 0] 89)) W.heap.size (.slice none 0 0) (.slice none 0 0):=heap_alloc_new _ _;have hpz:wm.heap.size<=W.heap.size:=iF.size;(try have WI:=λb hb=>ji (hfB b hb).2);(try have WH:=λb hb=>ji (qV b hb).2);(try replace Gj:=Gj.ext jb);(try replace hIB:=hIB.ext jb);(try replace Eb:=Eb.ext jb);(try replace AZ:=AZ.ext jb);(try replace hP:=hP.ext jb);(try replace hfB:=λb hb=>And.intro (hfB b hb).1 (aQ (hfB b hb).2 jb.size));(try replace qV:=λb hb=>And.intro (qV b hb).1 (aQ (qV b hb).2 jb.size));replace iF:=ay iF jb;have ae:=pq _ iF;have hP:=xw;clear xw;refine hK.out _ _ (λ_=>ae) ?_;clear hK K;(try simp only[nP]);generalize W.alloc (.cells #[.slice none 0 0,.slice none 0 0] 89)=W1 at *;generalize W.heap.size=p at *;clear jb;obtain⟨W,rfl⟩:∃W,W=W1:=⟨_,rfl⟩
        all_goals
         have q0:W.cell? ⟨p,0,none⟩=some (.slice none 0 0):=cell_of_row W p 0 _ _ _ hP;have q1:W.cell? ⟨p,1,none⟩=some (.slice none 0 0):=cell_of_row W p 1 _ _ _ hP;have q2:=frozen_of_row W p 0 _ _ hP;have q3:=frozen_of_row W p 1 _ _ hP;refine ow ax [24] [_] ?_;go_wp2_with fail
         go_meet
         case rel=>exact⟨p,aB,_,cB,aD,_,cD,rfl,(ER iF hpz hP hIB AZ hfB qV WI WH).1,hpz,(ER iF hpz hP hIB AZ hfB qV WI WH).2⟩
       case rest=>
        obtain⟨p,aB,nB,cB,aD,nD,cD,rfl,NA,hpz,hP,hIB,AZ,hfB,qV⟩:=hcut;obtain⟨gl,cl_,rfl⟩:=xW.out.s1;obtain⟨gf,cf,rfl⟩:=xW.out.s2;have HP:=aH hP;have HIB:=aH hIB;have HID:=aH AZ;have HfB:=aH hfB;have HfD:=aH qV;have HXC:=aH NA;have hp0:wc.cell? ⟨p,0,none⟩=some (.slice aB nB cB):=cell_of_row wc p 0 _ _ _ hP;have hp1:wc.cell? ⟨p,1,none⟩=some (.slice aD nD cD):=cell_of_row wc p 1 _ _ _ hP;have hll:from_.length<=root+1:=jY HL.out.nd (λx hx=>by have:=((HL.out.mem x).1 hx).1;omega);clear hP hIB AZ hfB qV NA p0 p1 p2 p3 p4 Gl aci Tm acj;go_upto_block 4 with fail
        go_cut [13] (λii w3=>∃i,i<=from_.length/\ii=.int .i64 ((i:Nat):Int)/\Ext wc w3/\(∀j (h:j<from_.length),j<i->nc (Xn D at_ from_[j]) (Xn D at_ m)<0)/\(∀h:i<from_.length,¬nc (Xn D at_ from_[i]) (Xn D at_ m)<0))
        case first=>
         go_wp2_with fail
         go_loopw [13] (λii w3=>∃i,i<=from_.length/\ii=.int .i64 ((i:Nat):Int)/\Ext wc w3/\Hid (∀j (h:j<from_.length),j<i->nc (Xn D at_ from_[j]) (Xn D at_ m)<0)) (λii _=>from_.length-(intOf ii).toNat)
         case atStart=>exact⟨0,az _,rfl,Below.refl _ _,λj _ h=>absurd h (by omega)⟩
         case round=>
          obtain⟨i,hi,rfl,hx3,Qs⟩:=hrel;have LD:=ay HXC.out hx3;have hP3:=HP.out.ext hx3;have hp0:wr.cell? ⟨p,0,none⟩=some (.slice aB nB cB):=cell_of_row wr p 0 _ _ _ hP3;have hp1:wr.cell? ⟨p,1,none⟩=some (.slice aD nD cD):=cell_of_row wr p 1 _ _ _ hP3;clear hP3;by_cases hlt:i<from_.length
          .obtain⟨xs,hrow,hnr⟩:=xW.out.rows
           have hrow3:=dn hrow LD;have abP:=hnr.ext LD;obtain⟨L,R,e1,e2,e3,e4,-,-⟩:=abP i (by simpa using hlt);rw[fA]at e3 e4;obtain⟨aX,cX,rfl,-⟩:=id e3;obtain⟨aY,cY,rfl,-⟩:=id e4;have cx:=(hrow3.cellAt (i*2) (by omega)).trans e1;have cy:=(hrow3.cellAt (i*2+1) (by omega)).trans e2;have Vn:=aH e3;have Yl:=aH e4;have Vj:=aH hx3;clear hrow hnr hrow3 abP e1 e2 e3 e4 LD hx3;by_cases hnc:nc (Xn D at_ from_[i]) (Xn D at_ m)<0
           .have hd:decide (nc (Xn D at_ from_[i]) (Xn D at_ m)<0)=true:=decide_eq_true hnc
            have HNL:=aH hnc;clear hnc;go_wp2_with fail
            refine bW (λw'=>w'.cell? ⟨gl,i*2,none⟩=some (.slice aX (dx (Xn D at_ from_[i]).1).length cX)/\w'.cell? ⟨gl,i*2+1,none⟩=some (.slice aY (dx (Xn D at_ from_[i]).2).length cY)/\w'.cell? ⟨p,0,none⟩=some (.slice aB nB cB)/\w'.cell? ⟨p,1,none⟩=some (.slice aD nD cD)) [10,11] xJ (by kernel_rfl) ⟨by kernel_rfl,by kernel_rfl,by kernel_rfl⟩ ⟨cx,cy,hp0,hp1⟩ (λax ae=>?_);(refine bT 0 ax ae ?_;refine bT 1 ax ae ?_;refine bT 2 ax ae ?_;refine bT 3 ax ae ?_;refine bT 4 ax ae ?_;refine bT 5 ax ae ?_;refine bT 6 ax ae ?_;refine bT 7 ax ae ?_;refine bT 8 ax ae ?_;refine bT 9 ax ae ?_);refine ow ax [10,11] [_,_] ?_;go_wp2_with (go_at_call 179;refine(xe _ _ _ _ (Xn D at_ from_[i]) (Xn D at_ m) _ (Vn.out.ext (by go_grown)) (Yl.out.ext (by go_grown)) (HIB.out.ext (ay Vj.out (by go_grown))) (HID.out.ext (ay Vj.out (by go_grown)))).mono ?_;rintro e w4 ⟨rfl,hx4⟩;rw[hd])
            go_roundw
            case rel=>exact⟨i+1,by omega,by go_num,ay Vj.out (ay (by go_grown) hx4),λj hj hji=>by
             by_cases e:j=i
             .subst e;exact HNL.out
             .exact Qs.out j hj (by omega)⟩
            case measure=>simp[intOf];omega
           .have hd:decide (nc (Xn D at_ from_[i]) (Xn D at_ m)<0)=false:=decide_eq_false hnc
            have HNL:=aH hnc;clear hnc;go_wp2_with fail
            refine bW (λw'=>w'.cell? ⟨gl,i*2,none⟩=some (.slice aX (dx (Xn D at_ from_[i]).1).length cX)/\w'.cell? ⟨gl,i*2+1,none⟩=some (.slice aY (dx (Xn D at_ from_[i]).2).length cY)/\w'.cell? ⟨p,0,none⟩=some (.slice aB nB cB)/\w'.cell? ⟨p,1,none⟩=some (.slice aD nD cD)) [10,11] xJ (by kernel_rfl) ⟨by kernel_rfl,by kernel_rfl,by kernel_rfl⟩ ⟨cx,cy,hp0,hp1⟩ (λax ae=>?_);(refine bT 0 ax ae ?_;refine bT 1 ax ae ?_;refine bT 2 ax ae ?_;refine bT 3 ax ae ?_;refine bT 4 ax ae ?_;refine bT 5 ax ae ?_;refine bT 6 ax ae ?_;refine bT 7 ax ae ?_;refine bT 8 ax ae ?_;refine bT 9 ax ae ?_);refine ow ax [10,11] [_,_] ?_;go_wp2_with (go_at_call 179;refine(xe _ _ _ _ (Xn D at_ from_[i]) (Xn D at_ m) _ (Vn.out.ext (by go_grown)) (Yl.out.ext (by go_grown)) (HIB.out.ext (ay Vj.out (by go_grown))) (HID.out.ext (ay Vj.out (by go_grown)))).mono ?_;rintro e w4 ⟨rfl,hx4⟩;rw[hd])
            go_meet
            case rel=>exact⟨i,by omega,rfl,ay Vj.out (ay (by go_grown) hx4),Qs.out,λ_=>by have:=HNL.out;omega⟩
          .have hie:i=from_.length:=by omega
           have hlt':¬((i:Int)<(from_.length:Int)):=(by omega);go_wp2_with fail
           refine bW (λw'=>w'.cell? ⟨p,0,none⟩=some (.slice aB nB cB)) [11] xJ (by kernel_rfl) ⟨by kernel_rfl,by kernel_rfl,by kernel_rfl⟩ hp0 (λax ae=>?_);(refine bT 0 ax ae ?_;refine bT 1 ax ae ?_;refine bT 2 ax ae ?_;refine bT 3 ax ae ?_;refine bT 4 ax ae ?_);((refine fM ax (i:=5) (oi:=_) (v:=undef) (by simp only[gE];rfl) (by kernel_rfl) (by exact λ_ _ _ h=>h) ae (Or.inr ⟨by rfl,rfl⟩) ?r53);(try simp only[nP]);(refine fM ax (i:=6) (oi:=_) (v:=undef) (by simp only[gE];rfl) (by kernel_rfl) (by exact λ_ _ _ h=>h) ae (Or.inr ⟨by rfl,rfl⟩) ?r54);(try simp only[nP]);(refine fM ax (i:=7) (oi:=_) (v:=undef) (by simp only[gE];rfl) (by kernel_rfl) (by exact λ_ _ _ h=>h) ae (Or.inr ⟨by rfl,rfl⟩) ?r55);(try simp only[nP]);(refine fM ax (i:=8) (oi:=_) (v:=undef) (by simp only[gE];rfl) (by kernel_rfl) (by exact λ_ _ _ h=>h) ae (Or.inr ⟨by rfl,rfl⟩) ?r56);(try simp only[nP]);(refine fM ax (i:=9) (oi:=_) (v:=undef) (by simp only[gE];rfl) (by kernel_rfl) (by exact λ_ _ _ h=>h) ae (Or.inr ⟨by rfl,rfl⟩) ?r57);(try simp only[nP]);(refine fM ax (i:=10) (oi:=_) (v:=undef) (by simp only[gE];rfl) (by kernel_rfl) (by exact λ_ _ _ h=>h) ae (Or.inr ⟨by rfl,rfl⟩) ?r58);(try simp only[nP]));refine ow ax [11] [_] ?_;go_wp2_with fail
           go_meet
           case rel=>exact⟨from_.length,ai _,rfl,ay hx3 (by go_grown),λj hj _=>Qs.out j hj (by omega),λh=>absurd h (by omega)⟩
        case rest=>
         obtain⟨i,hi,rfl,hx3,Qs,hne⟩:=hcut;obtain⟨w3,rfl⟩:∃w3:World,w3=wc:=⟨_,rfl⟩;have LD:=ay HXC.out hx3;have hP3:=HP.out.ext hx3;have hp0:w3.cell? ⟨p,0,none⟩=some (.slice aB nB cB):=cell_of_row w3 p 0 _ _ _ hP3;have hp1:w3.cell? ⟨p,1,none⟩=some (.slice aD nD cD):=cell_of_row w3 p 1 _ _ _ hP3;obtain⟨xs,hrow,hnr⟩:=xW.out.rows;have hrow3:=dn hrow LD;have hxl:xs.length=from_.length*2:=hrow.1;obtain⟨hcap1,hcap2⟩:from_.length<=cl_/\cl_<=maxLen:=(by obtain⟨_,_,e,h1,h2⟩:=bD hrow3;simp only[Value.slice.injEq]at e;obtain⟨_,_,rfl⟩:=e;exact⟨h1,h2⟩);have hone:=hnr.one (by simpa using hxl);have HNR:=aH hnr;have adz:=aH hrow3;have Xj:=aH LD;have ahB:=aH Qs;have GV:=aH hne;have Vj:=aH hx3;have ai7:i<=cl_:=(by omega);clear hP3 hrow hnr hrow3 LD Qs hne hx3;go_wp2_with fail
         go_cut [9] (λlv w4=>∃g cap xs',lv=.slice (some ⟨g,0,none⟩) (from_.length+1) cap/\Ext w3 w4/\w3.heap.size<=g/\w4.ownsRow w.heap.size 89 2 lv (from_.length+1) xs'/\jg w4 xs' ((from_.take i++m :: from_.drop i).map (Xn D at_)) w.heap.size (KF w o pR vN))
         case first=>
          have pq:∀W,Ext w3 W->W.cell? ⟨p,0,none⟩=some (.slice aB nB cB)/\W.cell? ⟨p,1,none⟩=some (.slice aD nD cD):=λW h=>⟨(h.cell (lt_of_cell hp0)).trans hp0,(h.cell (lt_of_cell hp1)).trans hp1⟩
          have ahv:=HNR.out.ext Xj.out;have HB3:=HIB.out.ext Vj.out;have HD3:=HID.out.ext Vj.out;have hz3:=Vj.out.size;have hkl:=HM.out.klt;have hzm:=HX.out.size;have YI:=hE.size;have ahd:∀b,Value.ownBlock (.slice aB nB cB)=some b->w.heap.size<=b/\b<w3.heap.size/\¬KF w o pR vN b:=λb hb=>⟨by have:=(HfB.out b hb).1;omega,by have:=(HfB.out b hb).2;omega,λk=>by have:=hkl b k;have:=(HfB.out b hb).1;omega⟩
          have ahb:∀b,Value.ownBlock (.slice aD nD cD)=some b->w.heap.size<=b/\b<w3.heap.size/\¬KF w o pR vN b:=λb hb=>⟨by have:=(HfD.out b hb).1;omega,by have:=(HfD.out b hb).2;omega,λk=>by have:=hkl b k;have:=(HfD.out b hb).1;omega⟩
          have hw3:w.heap.size<=w3.heap.size:=(by have:=Xj.out.size;omega);refine bW (λw'=>w'.cell? ⟨p,0,none⟩=some (.slice aB nB cB)/\w'.cell? ⟨p,1,none⟩=some (.slice aD nD cD)) [11,12] KL (by kernel_rfl) ⟨by kernel_rfl,by kernel_rfl,by kernel_rfl⟩ ⟨hp0,hp1⟩ (λax ae=>?_);(refine bT 1 ax ae ?_;refine bT 2 ax ae ?_;refine bT 3 ax ae ?_;refine bT 5 ax ae ?_;refine bT 8 ax ae ?_;refine bT 9 ax ae ?_;refine bT 10 ax ae ?_);have iF:Ext w3 w3.drew:=⟨rfl,rfl,rfl,ai _,λ_ _=>rfl⟩;obtain⟨W,hW⟩:∃W,W=w3.drew:=⟨_,rfl⟩;rw[<-hW]at iF ae ⊢;clear hW;have De:=True.intro;refine lK ax (i:=0) (j:=6) (by kernel_rfl) ?fa5 ?fb5
          case' fb5=>
           (refine G8 (i:=6) λK hK=>?_;go_simp);have jb:Ext W (W.alloc (.cells #[.slice aB nB cB,.slice aD nD cD] 89)):=(by go_grown);have xw:DN (W.alloc (.cells #[.slice aB nB cB,.slice aD nD cD] 89)) W.heap.size (.slice aB nB cB) (.slice aD nD cD):=heap_alloc_new _ _;(try have Pj:=λb hb=>ji (hro.lt b hb).2);(try replace hro:=dn hro jb);have hP:=xw;clear xw;replace iF:=ay iF jb;have ae:=pq _ iF;refine hK.out _ _ (λ_=>ae) ?_;clear hK K;(try simp only[nP]);generalize W.alloc (.cells #[.slice aB nB cB,.slice aD nD cD] 89)=W1 at *;generalize W.heap.size=q at *;clear jb;obtain⟨W,rfl⟩:∃W,W=W1:=⟨_,rfl⟩;clear De
          case' fa5=>(refine G8 (i:=0) λK hK=>?_;go_simp)
          all_goals
           first
            |(have hNP:=De;clear hNP)
            |(refine oZ ax (i:=0) λK hK=>?_;go_simp)
           have jb:Ext W (W.alloc (.cells #[] 89)):=(by go_grown);have wK:(W.alloc (.cells #[] 89)).ownsRow w3.heap.size 89 2 (.slice (some ⟨W.heap.size,0,none⟩) 0 0) 0 []:=World.ownsRow_made W #[] 0 iF.size (by decide) (by simp);(try have Pj:∀b,Value.ownBlock (.slice (some ⟨W.heap.size,0,none⟩) 0 0)=some b->b≠q:=λb hb e=>by have h1:=bG hP;simp[Value.ownBlock]at hb;omega);(try replace hP:=hP.ext jb);have hro:=wK;clear wK;replace iF:=ay iF jb;have ae:=pq _ iF;refine hK.out _ _ (λ_=>ae) ?_;clear hK K;(try simp only[nP]);generalize W.alloc (.cells #[] 89)=W1 at *;generalize W.heap.size=h0 at *;clear jb;obtain⟨W,rfl⟩:∃W,W=W1:=⟨_,rfl⟩
          refine lK ax (i:=4) (j:=6) (by kernel_rfl) ?fa6 ?fb6
          case' fb6=>
           (refine G8 (i:=6) λK hK=>?_;go_simp);have jb:Ext W (W.alloc (.cells #[.slice aB nB cB,.slice aD nD cD] 89)):=(by go_grown);have xw:DN (W.alloc (.cells #[.slice aB nB cB,.slice aD nD cD] 89)) W.heap.size (.slice aB nB cB) (.slice aD nD cD):=heap_alloc_new _ _;(try have Pj:=λb hb=>ji (hro.lt b hb).2);(try replace hro:=dn hro jb);have hP:=xw;clear xw;replace iF:=ay iF jb;have ae:=pq _ iF;refine hK.out _ _ (λ_=>ae) ?_;clear hK K;(try simp only[nP]);generalize W.alloc (.cells #[.slice aB nB cB,.slice aD nD cD] 89)=W1 at *;generalize W.heap.size=q at *;clear jb;obtain⟨W,rfl⟩:∃W,W=W1:=⟨_,rfl⟩;clear De
          case' fa6=>refine G8 (i:=4) λK hK=>?_
          all_goals
           first
            |(have hNP:=De;clear hNP)
            |refine oZ ax (i:=4) λK hK=>?_
           refine iA rfl (.tmp 94) (.tmp 97) 26 rfl w3.heap.size 89 i1 (.agg #[.slice none 0 0,.slice none 0 0]) 2 48 underlying26 hi1 hy0 hy1 hy2 rfl (by decide) (.slice (some ⟨h0,0,none⟩) 0 0) 0 [] rfl hro _ i _ ((xs.drop 0).take (i*2)) rfl (by simp;omega) (.inr ⟨⟨gl,0,none⟩,rfl,yw adz.out iF 0 (i*2) (by omega)⟩) (λu hu=>hone u (sH (gU hu))) (by unfold maxLen;omega) (by omega) iF.size ?_;intro v1 W LG hg1 hl1;simp only[gK,fB,List.drop_zero]at LG;(try have YW:=VN hP hl1 Pj);(try replace hP:=DN.grown hP hg1 Pj);(try replace Pj:=YW);replace iF:=dZ iF hg1 (λk hk=>(hro.lt k hk).1);replace hro:=LG;clear LG;have ae:=pq _ iF;refine hK.out _ _ (λ_=>ae) ?_;clear hK K;(try simp only[nP])
          (refine oZ ax (i:=6) λK hK=>?_;go_simp);have jb:Ext W (W.alloc (.cells #[.slice aB nB cB,.slice aD nD cD] 89)):=(by go_grown);have xw:DN (W.alloc (.cells #[.slice aB nB cB,.slice aD nD cD] 89)) W.heap.size (.slice aB nB cB) (.slice aD nD cD):=heap_alloc_new _ _;(try have Pj:=λb hb=>ji (hro.lt b hb).2);(try replace hro:=dn hro jb);have hP:=xw;clear xw;replace iF:=ay iF jb;have ae:=pq _ iF;refine hK.out _ _ (λ_=>ae) ?_;clear hK K;(try simp only[nP]);generalize W.alloc (.cells #[.slice aB nB cB,.slice aD nD cD] 89)=W1 at *;generalize W.heap.size=q at *;clear jb;obtain⟨W,rfl⟩:∃W,W=W1:=⟨_,rfl⟩
          all_goals
           refine oZ ax (i:=7) λK hK=>?_
           refine iA rfl (.tmp 98) (.tmp 100) 26 rfl w3.heap.size 89 i1 (.agg #[.slice none 0 0,.slice none 0 0]) 2 48 underlying26 hi1 hy0 hy1 hy2 rfl (by decide) v1 i (xs.take (i*2)) rfl hro _ 1 _ [.slice aB nB cB,.slice aD nD cD] rfl rfl (.inr ⟨⟨q,0,none⟩,rfl,IW hP⟩) uw (by unfold maxLen;omega) (by omega) iF.size ?_;intro v2 W Js hg2 hl2;replace iF:=dZ iF hg2 (λk hk=>(hro.lt k hk).1);have ae:=pq _ iF;refine hK.out _ _ (λ_=>ae) ?_;clear hK K;(try simp only[nP]);refine oZ ax (i:=11) λK hK=>?_
           refine iA rfl (.tmp 101) (.tmp 104) 26 rfl w3.heap.size 89 i1 (.agg #[.slice none 0 0,.slice none 0 0]) 2 48 underlying26 hi1 hy0 hy1 hy2 rfl (by decide) v2 (i+1) (xs.take (i*2)++[.slice aB nB cB,.slice aD nD cD]) rfl Js _ (from_.length-i) _ ((xs.drop (i*2)).take ((from_.length-i)*2)) rfl (by simp;omega) (by
            rcases dX i from_.length with h|h
            .exact .inr ⟨⟨gl,i*2,none⟩,by first|rfl|(rw[if_neg (by omega)]),yw adz.out iF (i*2) ((from_.length-i)*2) (by omega)⟩
            .exact .inl (by omega)) (λu hu=>hone u (sH (gU hu))) (by unfold maxLen;omega) (by omega) iF.size ?_
           intro v3 W Jr hg3 hl3;replace iF:=dZ iF hg3 (λk hk=>(Js.lt k hk).1);have ae:=pq _ iF;refine hK.out _ _ (λ_=>ae) ?_;clear hK K;(try simp only[nP]);refine ow ax [12] [_] ?_;go_wp2_with fail
           all_goals (go_meet;exact Jo Jr ahv iF hxl hi HB3 HD3 ahd ahb hw3)
         case rest=>
          obtain⟨g5,c5,xs5,rfl,hx4,hg5,VW,VY⟩:=hcut;obtain⟨w4,rfl⟩:∃w4:World,w4=wc:=⟨_,rfl⟩;have YO:=ay Xj.out hx4;have YT:=dn xW.out.NP YO;obtain⟨aja,ai9⟩:from_.length<=cf/\cf<=maxLen:=(by obtain⟨_,_,e,h1,h2⟩:=bD YT;simp only[Value.slice.injEq]at e;obtain⟨_,_,rfl⟩:=e;exact⟨h1,h2⟩);have adA:=aH YT;have adx:=aH YO;have ahl:=aH VW;have ahu:=aH VY;have HX4:=aH hx4;have ai8:i<=cf:=(by omega);have Nz:=hx4.size;clear hx4 VW VY YT YO hp0 hp1;go_wp2_with fail
          have hw4:w.heap.size<=w4.heap.size:=(by have:=adx.out.size;have:=HX.out.size;have:=hE.size;omega);have pq:∀W,Ext w4 W->True:=λ_ _=>trivial
          refine bW (λw'=>True) [11,12] KJ (by kernel_rfl) ⟨by kernel_rfl,by kernel_rfl,by kernel_rfl⟩ trivial (λax ae=>?_);(refine bT 1 ax ae ?_;refine bT 2 ax ae ?_;refine bT 3 ax ae ?_;refine bT 5 ax ae ?_;refine bT 8 ax ae ?_;refine bT 9 ax ae ?_;refine bT 10 ax ae ?_);have iF:Ext w4 w4.drew:=⟨rfl,rfl,rfl,ai _,λ_ _=>rfl⟩;obtain⟨W,hW⟩:∃W,W=w4.drew:=⟨_,rfl⟩;rw[<-hW]at iF ⊢;clear hW;have De:=True.intro;refine lK ax (i:=0) (j:=6) (by kernel_rfl) ?fa7 ?fb7
          case' fb7=>
           (refine G8 (i:=6) λK hK=>?_;go_simp);have jb:Ext W (W.alloc (.cells #[.int .i64 ((m:Nat):Int)] 3)):=(by go_grown);have xw:Qg (W.alloc (.cells #[.int .i64 ((m:Nat):Int)] 3)) W.heap.size (.int .i64 ((m:Nat):Int)):=heap_alloc_new _ _;(try have Pj:=λb hb=>ji (hro.lt b hb).2);(try replace hro:=dn hro jb);have hP:=xw;clear xw;replace iF:=ay iF jb;have ae:=pq _ iF;refine hK.out _ _ (λ_=>ae) ?_;clear hK K;(try simp only[nP]);generalize W.alloc (.cells #[.int .i64 ((m:Nat):Int)] 3)=W1 at *;generalize W.heap.size=q at *;clear jb;obtain⟨W,rfl⟩:∃W,W=W1:=⟨_,rfl⟩;clear De
          case' fa7=>(refine G8 (i:=0) λK hK=>?_;go_simp)
          all_goals
           first
            |(have hNP:=De;clear hNP)
            |(refine oZ ax (i:=0) λK hK=>?_;go_simp)
           have jb:Ext W (W.alloc (.cells #[] 3)):=(by go_grown);have wK:(W.alloc (.cells #[] 3)).ownsRow w4.heap.size 3 1 (.slice (some ⟨W.heap.size,0,none⟩) 0 0) 0 []:=World.ownsRow_made W #[] 0 iF.size (by decide) (by simp);(try have Pj:∀b,Value.ownBlock (.slice (some ⟨W.heap.size,0,none⟩) 0 0)=some b->b≠q:=λb hb e=>by have h1:=bG hP;simp[Value.ownBlock]at hb;omega);(try replace hP:=hP.ext jb);have hro:=wK;clear wK;replace iF:=ay iF jb;have ae:=pq _ iF;refine hK.out _ _ (λ_=>ae) ?_;clear hK K;(try simp only[nP]);generalize W.alloc (.cells #[] 3)=W1 at *;generalize W.heap.size=h0 at *;clear jb;obtain⟨W,rfl⟩:∃W,W=W1:=⟨_,rfl⟩
          refine lK ax (i:=4) (j:=6) (by kernel_rfl) ?fa8 ?fb8
          case' fb8=>
           (refine G8 (i:=6) λK hK=>?_;go_simp);have jb:Ext W (W.alloc (.cells #[.int .i64 ((m:Nat):Int)] 3)):=(by go_grown);have xw:Qg (W.alloc (.cells #[.int .i64 ((m:Nat):Int)] 3)) W.heap.size (.int .i64 ((m:Nat):Int)):=heap_alloc_new _ _;(try have Pj:=λb hb=>ji (hro.lt b hb).2);(try replace hro:=dn hro jb);have hP:=xw;clear xw;replace iF:=ay iF jb;have ae:=pq _ iF;refine hK.out _ _ (λ_=>ae) ?_;clear hK K;(try simp only[nP]);generalize W.alloc (.cells #[.int .i64 ((m:Nat):Int)] 3)=W1 at *;generalize W.heap.size=q at *;clear jb;obtain⟨W,rfl⟩:∃W,W=W1:=⟨_,rfl⟩;clear De
          case' fa8=>refine G8 (i:=4) λK hK=>?_
          all_goals
           first
            |(have hNP:=De;clear hNP)
            |refine oZ ax (i:=4) λK hK=>?_
           refine iA rfl (.tmp 106) (.tmp 109) 80 rfl w4.heap.size 3 i0 (.int .i64 0) 1 8 underlying80 hi0 hz0 hz1 hz2 rfl (by decide) (.slice (some ⟨h0,0,none⟩) 0 0) 0 [] rfl hro _ i _ ((((dx from_).map (Value.int .i64)).drop 0).take i) rfl (by simp[bu];omega) (.inr ⟨⟨gf,0,none⟩,rfl,yw adA.out iF 0 i (by omega)⟩) (λu hu=>kN _ u (sH (gU hu))) (by unfold maxLen;omega) (by omega) iF.size ?_;intro v1 W LG hg1 hl1;simp only[gK,fB,List.drop_zero]at LG;(try have YW:=RV hP hl1 Pj);(try replace hP:=Qg.grown hP hg1 Pj);(try replace Pj:=YW);replace iF:=dZ iF hg1 (λk hk=>(hro.lt k hk).1);replace hro:=LG;clear LG;have ae:=pq _ iF;refine hK.out _ _ (λ_=>ae) ?_;clear hK K;(try simp only[nP])
          (refine oZ ax (i:=6) λK hK=>?_;go_simp);have jb:Ext W (W.alloc (.cells #[.int .i64 ((m:Nat):Int)] 3)):=(by go_grown);have xw:Qg (W.alloc (.cells #[.int .i64 ((m:Nat):Int)] 3)) W.heap.size (.int .i64 ((m:Nat):Int)):=heap_alloc_new _ _;(try have Pj:=λb hb=>ji (hro.lt b hb).2);(try replace hro:=dn hro jb);have hP:=xw;clear xw;replace iF:=ay iF jb;have ae:=pq _ iF;refine hK.out _ _ (λ_=>ae) ?_;clear hK K;(try simp only[nP]);generalize W.alloc (.cells #[.int .i64 ((m:Nat):Int)] 3)=W1 at *;generalize W.heap.size=q at *;clear jb;obtain⟨W,rfl⟩:∃W,W=W1:=⟨_,rfl⟩
          all_goals
           refine oZ ax (i:=7) λK hK=>?_
           refine iA rfl (.tmp 110) (.tmp 112) 80 rfl w4.heap.size 3 i0 (.int .i64 0) 1 8 underlying80 hi0 hz0 hz1 hz2 rfl (by decide) v1 i (((dx from_).map (Value.int .i64)).take i) rfl hro _ 1 _ [.int .i64 ((m:Nat):Int)] rfl rfl (.inr ⟨⟨q,0,none⟩,rfl,cK (cell_of_row W q 0 _ _ _ hP)⟩) one_cell (by unfold maxLen;omega) (by omega) iF.size ?_;intro v2 W Js hg2 hl2;replace iF:=dZ iF hg2 (λk hk=>(hro.lt k hk).1);have ae:=pq _ iF;refine hK.out _ _ (λ_=>ae) ?_;clear hK K;(try simp only[nP]);refine oZ ax (i:=11) λK hK=>?_
           refine iA rfl (.tmp 113) (.tmp 116) 80 rfl w4.heap.size 3 i0 (.int .i64 0) 1 8 underlying80 hi0 hz0 hz1 hz2 rfl (by decide) v2 (i+1) (((dx from_).map (Value.int .i64)).take i++[.int .i64 ((m:Nat):Int)]) rfl Js _ (from_.length-i) _ ((((dx from_).map (Value.int .i64)).drop i).take (from_.length-i)) rfl (by simp[bu]) (by
            rcases dX i from_.length with h|h
            .exact .inr ⟨⟨gf,i,none⟩,by first|rfl|(rw[if_neg (by omega)]),yw adA.out iF i (from_.length-i) (by omega)⟩
            .exact .inl (by omega)) (λu hu=>kN _ u (sH (gU hu))) (by unfold maxLen;omega) (by omega) iF.size ?_
           intro v3 W Jr hg3 hl3;replace iF:=dZ iF hg3 (λk hk=>(Js.lt k hk).1);have ae:=pq _ iF;refine hK.out _ _ (λ_=>ae) ?_;clear hK K;(try simp only[nP]);refine ow ax [12] [_] ?_;go_wp2_with fail
           all_goals go_roundw
           all_goals first
            |exact Ou HB.out.good HF.out hr HL.out LH.out hbm hmt hi ahB.out (λh=>by have:=GV.out h;omega) (ay HX.out adx.out) iF ahl.out ahu.out (by have:=HX.out.size;have:=Xj.out.size;omega) (Jn Jr iF hi hw4) HM.out.klt
            |(simp[intOf];omega)
      .have hbn:((born (vl D m):Int)== (b:Int))=false:=by rw[beq_eq_false_iff_ne];omega
       have amj:¬((born (vl D m):Int)=(b:Int)):=(by omega);go_wp2
       go_roundw
       case rel=>exact⟨m+1,from_,by omega,by go_num,HL.out.skip (λh=>hbm h.2),HX.out,xW.out⟩
       case measure=>simp[intOf];omega
    .have hme:m=root+1:=by omega
     subst hme;have hlt':¬(((root+1:Nat):Int)<=(root:Int)):=(by omega);obtain⟨gl,cl_,rfl⟩:=hLM.s1;obtain⟨gf,cf,rfl⟩:=hLM.s2;have HL:=aH hL;have hM1:=HM.out.ext' hx;have hN1:=dn HN.out hx;have hfl:from_.length<=root+1:=jY hL.nd (λx hx=>by have:=((hL.mem x).1 hx).1;omega);have Kg:F.length<=root+1:=by
      rw[<-HF.out.len];exact jY HF.out.nd (λx hx=>by have:=bz.mX HB.out.good.wf ((HF.out.mem x).1 hx).1;omega)
     clear hL hx;go_wp2
     go_loopw [14] (λii wr=>∃i Yn at2,i<=from_.length/\ii=.int .i64 ((i:Nat):Int)/\wU w wr o pR Yn root (F++(from_.map (Xn D at_)).take i) at2/\GR w wr (KF w o pR Yn) (.slice (some ⟨gl,0,none⟩) from_.length cl_) (.slice (some ⟨gf,0,none⟩) from_.length cf) from_ (Xn D at_)/\
      wr.ownsRow 0 4 1 (.slice (some ⟨xy,0,none⟩) (root+1) Ue) (root+1) (bs.map Value.bool)/\¬KF w o pR Yn xy/\at2.length=root+1/\Hid (∀j (h:j<from_.length),j<i->at2[from_[j]]?=some (F.length+j))/\Hid (∀y,(∀j (h:j<from_.length),j<i->from_[j]≠y)->at2[y]?=at_[y]?)) (λii _=>from_.length-(intOf ii).toNat)
     case atStart=>exact⟨0,vN,at_,az _,rfl,by simpa using hM1,hLM,hN1,HK.out,HF.out.atl,λj _ h=>absurd h (by omega),λy _=>rfl⟩
     case round=>
      clear hM1 hN1 hLM;obtain⟨i,Yn,at2,hi,rfl,hM2,Wx,TC,hK2,hl2,HA,HA2⟩:=hrel;obtain⟨Fi,hFi⟩:∃Fi,Fi=F++(from_.map (Xn D at_)).take i:=⟨_,rfl⟩;rw[<-hFi]at hM2;have hlN:Fi.length=F.length+i:=(by rw[hFi];simp;omega);have HFi:=aH hFi;have pU:=aH hlN;clear hFi;by_cases hlt:i<from_.length
      .have hlt':((i:Int)<(from_.length:Int)):=by omega
       obtain⟨xsN,wK,LK⟩:=hM2.nodes;obtain⟨aN,zh,rfl,amc,amb⟩:=bD wK;obtain⟨xs,hrow,hnr⟩:=Wx.rows;obtain⟨L,R,e1,e2,e3,e4,e5,e6⟩:=hnr i (by simpa using hlt);rw[fA]at e3 e4;obtain⟨aX,cX,rfl,-⟩:=id e3;obtain⟨aY,cY,rfl,-⟩:=id e4;have cx:=(hrow.cellAt (i*2) (by omega)).trans e1;have cy:=(hrow.cellAt (i*2+1) (by omega)).trans e2;have cf1:wr.cell? ⟨gf,i,none⟩=some (.int .i64 ((from_[i]:Nat):Int)):=(by rw[Wx.NP.cellAt i (by omega)];simp[dx,hlt]);have J9:from_[i]<root+1:=((HL.out.mem _).1 (ah hlt)).1;obtain⟨av,hav⟩:∃a,at2[from_[i]]?=some a:=⟨_,aa (l:=at2) (i:=from_[i]) (by omega)⟩;have cat:wr.cell? ⟨pR,from_[i],none⟩=some (.int .i64 ((av:Nat):Int)):=(by rw[hM2.WW.cellAt _ (by omega)];simp[dx,hav]);have fat:=hM2.WW.frozenAt from_[i];have co:=cell_of_row wr o 0 _ _ _ hM2.out;have MM:=aH hM2;have adI:=aH Wx;have BQ:=aH TC;have HK2:=aH hK2;have HXR:=aH J9;clear hM2 Wx TC hK2 wK LK hrow hnr e1 e2;generalize hxd:from_[i]=xd at *;have hxi:((xd:Nat):Int)<(root:Int)+1:=(by have:=HXR.out;omega);clear hlN;go_wp2_with fail
       refine bW (λw'=>w'.cell? ⟨gf,i,none⟩=some (.int .i64 ((xd:Nat):Int))/\w'.cell? ⟨o,0,none⟩=some (.slice aN Fi.length zh)) [9] KI (by kernel_rfl) ⟨by kernel_rfl,by kernel_rfl,by kernel_rfl⟩ ⟨cf1,co⟩ (λax ae=>?_);(refine bT 0 ax ae ?_;refine bT 1 ax ae ?_;refine bT 2 ax ae ?_;refine bT 3 ax ae ?_;refine bT 4 ax ae ?_;refine bT 5 ax ae ?_;refine bT 6 ax ae ?_;refine bT 7 ax ae ?_;refine bT 8 ax ae ?_);refine ow ax [9] [_] ?_;go_wp2_with fail
       obtain⟨Gi,hk3⟩:=MM.out.setAt xd Fi.length;generalize wr.setCell ⟨pR,xd,none⟩ (.int .i64 ((Fi.length:Nat):Int))=W at *;have TF:=adI.out.keep hk3 (λ_ h=>h) (λ_ k=>.inl k);have hN3:=bO BQ.out hk3 (λb hb k=>by simp[Value.ownBlock]at hb;subst hb;exact HK2.out k);have hdr:Ext W W.drew:=⟨rfl,rfl,rfl,ai _,λ_ _=>rfl⟩;have af2:Ext W W.drew.drew:=⟨rfl,rfl,rfl,ai _,λ_ _=>rfl⟩;obtain⟨xsN,wK,LK⟩:=Gi.nodes;have jb:xsN.length=Fi.length*2:=wK.1;obtain⟨xs,hrow,hnr⟩:=TF.rows;obtain⟨L,R,e1,e2,e3,e4,e5,e6⟩:=hnr i (by simpa using hlt);rw[fA,hxd]at e3 e4;obtain⟨aX,cX,rfl,-⟩:=id e3;obtain⟨aY,cY,rfl,-⟩:=id e4;have cx:=(hrow.cellAt (i*2) (by omega)).trans e1;have cy:=(hrow.cellAt (i*2+1) (by omega)).trans e2;have co:=cell_of_row W o 0 _ _ _ Gi.out;have ao:=Gi.a1;have agl:gl≠o/\∀b,Value.ownBlock (.slice aN Fi.length zh)=some b->gl≠b:=⟨λe=>TF.k1 gl rfl (.inl e),λb hb e=>TF.k1 gl rfl (.inr (.inr (.inr (by rw[hb,e]))))⟩;have HM3:=aH Gi;have ahL:=aH TF;have HN3:=aH hN3;have HK3:=aH hk3;have HRN:=aH wK;have HNR:=aH LK;have E3:=aH e3;have E4:=aH e4;have E5:=aH e5;have E6:=aH e6;clear Gi hk3 TF hN3 wK LK hrow hnr e1 e2 e3 e4 e5 e6 MM adI BQ ae fat cat cf1;refine bW (λw'=>w'.cell? ⟨gl,i*2,none⟩=some (.slice aX (dx (Xn D at_ xd).1).length cX)/\w'.cell? ⟨gl,i*2+1,none⟩=some (.slice aY (dx (Xn D at_ xd).2).length cY)/\w'.cell? ⟨o,0,none⟩=some (.slice aN Fi.length zh)) [7,8,9] KH (by kernel_rfl) ⟨by kernel_rfl,by kernel_rfl,by kernel_rfl⟩ ⟨cx,cy,co⟩ (λax ae=>?_);(refine bT 0 ax ae ?_;refine bT 1 ax ae ?_;refine bT 2 ax ae ?_;refine bT 3 ax ae ?_;refine bT 4 ax ae ?_;refine bT 5 ax ae ?_);(refine oZ ax (i:=6) λK hK=>?_;go_simp);have hx6:Ext W (W.alloc (.cells #[.slice aX (dx (Xn D at_ xd).1).length cX,.slice aY (dx (Xn D at_ xd).2).length cY] 89)).drew.drew:=Below.drew (Below.drew (by go_grown));have hq6:(W.alloc (.cells #[.slice aX (dx (Xn D at_ xd).1).length cX,.slice aY (dx (Xn D at_ xd).2).length cY] 89)).heap[W.heap.size]?=some (.cells #[.slice aX (dx (Xn D at_ xd).1).length cX,.slice aY (dx (Xn D at_ xd).2).length cY] 89 (0,0)):=heap_alloc_new _ _;refine hK.out _ _ (λ_=>⟨(hx6.cell (lt_of_cell cx)).trans cx,(hx6.cell (lt_of_cell cy)).trans cy,(hx6.cell (lt_of_cell co)).trans co⟩) ?_;clear hK K;(try simp only[nP]);refine ow ax [7,8,9] [_,_,_] ?_;have hzW:=hx6.size;have hlN:=pU.out;refine bQ rfl (.tmp 134) (.tmp 139) 26 rfl w.heap.size 89 i1 (.agg #[.slice none 0 0,.slice none 0 0]) 2 48 underlying26 hi1 hy0 hy1 hy2 rfl (by decide) (.slice aN Fi.length zh) Fi.length xsN rfl (dn HRN.out hx6) _ 1 _ [.slice aX (dx (Xn D at_ xd).1).length cX,.slice aY (dx (Xn D at_ xd).2).length cY] rfl rfl (.inr ⟨⟨W.heap.size,0,none⟩,rfl,IW (q:=W.heap.size) hq6⟩) uw (by unfold maxLen;omega) (by omega) (by have:=HM3.out.ext.size;omega) ?_;intro v7 w7 Hd Hf Y5;obtain⟨hM7,Kb,hK7⟩:=HM3.out.push (wd:=W.drew.drew) HNR.out jb af2 rfl E3.out E4.out E5.out E6.out Hf Hd Y5;have co7:w7.cell? ⟨o,0,none⟩=some (.slice aN Fi.length zh):=Hf.cell ((hx6.cell (lt_of_cell co)).trans co) (λe=>ao e.symm);have hb7:w7.heap[o]?=some (.cells #[.slice aN Fi.length zh] 28 (0,0)):=by
        rw[Hf.block o (aQ (lt_of_cell co) hzW) (λe=>ao e.symm),hx6.block o (lt_of_cell co)];exact HM3.out.out
       have fo7:=frozen_of_row w7 o 0 _ _ hb7;obtain⟨a7,anu,rfl,_,_⟩:=bD Hd;have ad9:=(HN3.out.lt xy rfl).2;clear Hd Hf Y5 hb7 hlN;(try simp only[nP]);go_wp2_with fail
       go_roundw
       case rel=>
        have hX:(from_.map (Xn D at_)).take (i+1)=(from_.map (Xn D at_)).take i++[Xn D at_ xd]:=by
         rw[bg (by simpa using hlt),fA,hxd]
        refine⟨i+1,_,at2.set xd Fi.length,by omega,by go_num,?_,ahL.out.keep Kb (λ_ h=>h) hK7,bO HN3.out Kb (λb hb k=>?_),λk=>?_,by simpa using hl2,?_,?_⟩
        .rw[hX,<-bY,<-HFi.out];exact hM7
        .simp[Value.ownBlock]at hb;subst hb;exact HK2.out k
        .rcases hK7 _ k with k|k
         .exact HK2.out k
         .omega
        .exact KT HL.out.nd hlt hxd (by rw[hl2];exact HXR.out) pU.out HA.out
        .exact KU hlt hxd HA2.out
       case measure=>simp[intOf];omega
      .have hie:i=from_.length:=by omega
       have hlt':¬((i:Int)<(from_.length:Int)):=(by omega);have GY:=aH hie;have MM:=aH hM2;clear hie hM2;go_wp2
       go_roundw
       case rel=>
        refine⟨b+1,Yn,F++from_.map (Xn D at_),idx++from_,at2,by go_num,by omega,HF.out.next HB.out.good HL.out hl2 (λj hj=>HA.out j hj (by have:=GY.out;omega)) (λy hy=>HA2.out y (λj hj _ e=>hy (e ▸ ah hj))),?_,TC,hK2⟩;have h:=MM.out;rw[HFi.out,cO (by have:=GY.out;simp;omega)]at h;exact h
       case measure=>simp[intOf];omega
  .have hbe:b=born (vl D root)+1:=by omega
   have amg:¬((b:Int)<=(born (vl D root):Int)):=(by omega);obtain⟨xsN,wK,LK⟩:=hM.nodes;obtain⟨aN,zh,rfl,_,_⟩:=bD wK;have co:=cell_of_row wo o 0 _ _ _ hM.out;have cr:=cell_of_row wo w.heap.size 0 _ _ _ hM.res;rw[hbe]at hF;have hfin:=hF.last HB.out.good hr;have hks:=gI (w:=wo) (p:=⟨w.heap.size,0,none⟩) (v:=.slice aN F.length zh);have Js:=bO wK hks (λb hb e=>hM.a3 (by rw[hb,e]));have abQ:=LK.keep hks (λb e=>.inr (.inr (.inl e))) (λb k=>.inl k);have hres:=eX.eO Js abQ;have TH:Ext w (wo.setCell ⟨w.heap.size,0,none⟩ (.slice aN F.length zh)):=hE.setCell (p:=⟨w.heap.size,0,none⟩) (ai _) _;have cr2:=World.cell?_setCell_same wo ⟨w.heap.size,0,none⟩ (.slice aN F.length zh) cr;have hh:=heap_setCell_same wo w.heap.size 0 _ _ (.slice aN F.length zh) hM.res;have HH:Hid ((wo.setCell ⟨w.heap.size,0,none⟩ (.slice aN F.length zh)).heap[w.heap.size]?=some (.cells #[.slice aN F.length zh] 28 (0,0))):=hh;have adO:=aH hfin;have Qb:=aH hres;have HEW:=aH TH;clear hF hM wK LK Js abQ hks AU hK cb2 hfin hres TH hbe hh;go_wp2
   (try simp only[Exit.inBlock,Exit.then]);refine bodyPost_ret (results_cell_row rfl _ _ w.heap.size 28 #[.slice aN F.length zh] (0,0) _ rfl HH.out underlying28 rfl (by kernel_rfl)) rfl ?_;exact⟨_,rfl,F,Qb.out,adO.out.1,adO.out.2,HEW.out⟩
end Go.Proofs.YteknjeohbcgpdaaGreatDoor