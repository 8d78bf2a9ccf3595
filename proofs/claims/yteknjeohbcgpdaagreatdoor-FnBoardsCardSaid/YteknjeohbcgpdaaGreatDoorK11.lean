/-
  Contract of the book's form.
-/
import Derived.Test.YteknjeohbcgpdaaGreatDoorK10
set_option maxRecDepth 100000
namespace Go.Proofs.YteknjeohbcgpdaaGreatDoor
open Tryz
open Go.RowKit
open bO (dH Nd vl nc born)
variable {w w' W W' w4:World} {D:dH} {at_ from_ at2:List Nat} {m p q i root xd n N:Nat} {L R v v' v3 x:Value} {xs:List Value} {K:Nat->Prop}
theorem eH.agX{pb:Nat}{vn vb:Value}(h:eH w pb vn vb D)(h0:0<D.length):
 ∃gb cb,vb=.slice (some ⟨gb,0,none⟩) D.length cb/\∀W,Ext w W->W.cell? ⟨pb,1,none⟩=some (.slice (some ⟨gb,0,none⟩) D.length cb)/\∀x,x<D.length->W.cell? ⟨gb,x,none⟩=some (.int .i64 (bO.born (vl D x):Int)):=by
 obtain⟨gb,cb,rfl,_,_,_⟩:=h.wB h0;refine⟨gb,cb,rfl,λW hW=>⟨(h.ext hW).cell1,λx hx=>?_⟩⟩;obtain⟨g,c,e,_,_,hc⟩:=(h.ext hW).wB hx;simp only[Value.slice.injEq,bN,Addr.mk.injEq,and_true,true_and]at e;obtain⟨rfl,rfl⟩:=e;exact hc
theorem CL(at_ l:List Nat):R6 (dD at_) (dD l)=dD (l.map λx=>at_.getD x 0):=by
 unfold R6 dD;rw[gM,gM];refine df λx _=>?_
 simp only[Function.comp,jo,dP,dm,aj];cases at_[x]? <;> rfl
theorem Ya(hm:m<D.length):jB (R6 (dD at_) (dD (D[m]).1))=dD (Xn D at_ m).1/\jB (R6 (dD at_) (dD (D[m]).2))=dD (Xn D at_ m).2:=by
 rw[CL,CL,kE,kE,Xn,oV hm,nJ hm];exact⟨rfl,rfl⟩
theorem sN(g:bO.Good D)(hm:m<D.length):(D[m]).1.length<=m/\(D[m]).2.length<=m:=by
 have h:=g.Cf _ (ai hm);have hw:=g.wf m _ (aa hm);exact⟨jI (lU h.1) hw.1,jI (lU h.2) hw.2⟩
def Ex(w:World)(p:Nat)(L R:Value):Prop:=w.heap[p]?=some (.cells #[L,R] 89 (0,0))
theorem Ex.ext(h:Ex w p L R)(hx:Ext w w'):Ex w' p L R:=by unfold Ex at *;rw[hx.block p (bu h)];exact h
theorem FN{wr:World}{vB vD:Value}{l r:List Int}(iA:Ext wr W)(hpz:wr.heap.size<=p)(hP:Ex W p L R)(hIB:Ints W vB l)(BM:Ints W vD r)
 (hfB:∀b,vB.ownBlock=some b->wr.heap.size<=b/\b<W.heap.size) (rH:∀b,vD.ownBlock=some b->wr.heap.size<=b/\b<W.heap.size) (Zn:∀b,vB.ownBlock=some b->b≠p) (Zm:∀b,vD.ownBlock=some b->b≠p):
 Ext wr ((W.setCell ⟨p,0,none⟩ vB).setCell ⟨p,1,none⟩ vD)/\Ex ((W.setCell ⟨p,0,none⟩ vB).setCell ⟨p,1,none⟩ vD) p vB vD/\Ints ((W.setCell ⟨p,0,none⟩ vB).setCell ⟨p,1,none⟩ vD) vB l/\Ints ((W.setCell ⟨p,0,none⟩ vB).setCell ⟨p,1,none⟩ vD) vD r/\
 (∀b,vB.ownBlock=some b->wr.heap.size<=b/\b<((W.setCell ⟨p,0,none⟩ vB).setCell ⟨p,1,none⟩ vD).heap.size)/\(∀b,vD.ownBlock=some b->wr.heap.size<=b/\b<((W.setCell ⟨p,0,none⟩ vB).setCell ⟨p,1,none⟩ vD).heap.size):=by
 have e:∀k,k≠p->((W.setCell ⟨p,0,none⟩ vB).setCell ⟨p,1,none⟩ vD).heap[k]?=W.heap[k]?:=λk hk=>by rw[heap_setCell_other _ _ _ _ (by exact hk),heap_setCell_other _ _ _ _ (by exact hk)]
 refine⟨(iA.setCell (p:=⟨p,0,none⟩) hpz _).setCell (p:=⟨p,1,none⟩) hpz _,?_,hIB.keep (λb _ hb=>e b (Zn b hb)),BM.keep (λb _ hb=>e b (Zm b hb)),by simpa using hfB,by simpa using rH⟩;exact heap_setCell_same _ _ _ _ _ _ (heap_setCell_same _ _ _ _ _ _ hP)
theorem Ex.grown(h:Ex W q L R)(hg:W.grownBy W' v.ownBlock)(hq:∀b,v.ownBlock=some b->b≠q):Ex W' q L R:=by
 unfold Ex at *;rw[hg.block q (bu h) (λe=>hq q e.symm rfl)];exact h
theorem Yz(h:Ex W q L R)(hl:kR W v v')(hq:∀b,v.ownBlock=some b->b≠q):∀b,v'.ownBlock=some b->b≠q:=by
 intro b hb e;have hlt:=bu h;rcases hl with h1|⟨g,h1,h2⟩
 .exact hq b (by rw[<-h1];exact hb) e
 .rw[h1]at hb;injection hb with hb;omega
theorem JF(h:Ex W q L R):∀j u,([L,R]:List Value)[j]?=some u->W.cell? ((⟨q,0,none⟩:Addr).add j)=some u:=by
 intro j u hj;have e:(⟨q,0,none⟩:Addr).add j=⟨q,j,none⟩:=by simp[Addr.add];intro h;omega
 rw[e,cell_of_row W q j _ _ _ h]
 simpa using hj
theorem J7{w3:World}{X:Nat->Nd}(Kc:W.ownsRow w3.heap.size 89 2 v3 (i+1+(from_.length-i)) (xs.take (i*2)++[L,R]++(xs.drop (i*2)).take ((from_.length-i)*2)))
 (hnr:jd w3 xs (from_.map X) w.heap.size K) (iA:Ext w3 W) (hxl:xs.length=from_.length*2) (hi:i<=from_.length) (hB:Ints w3 L (dD (X m).1)) (hD:Ints w3 R (dD (X m).2))
 (bL:∀b,L.ownBlock=some b->w.heap.size<=b/\b<w3.heap.size/\¬K b) (bR:∀b,R.ownBlock=some b->w.heap.size<=b/\b<w3.heap.size/\¬K b) (hw:w.heap.size<=w3.heap.size):
 ∃g cap xs',v3=.slice (some ⟨g,0,none⟩) (from_.length+1) cap/\Ext w3 W/\w3.heap.size<=g/\W.ownsRow w.heap.size 89 2 v3 (from_.length+1) xs'/\jd W xs' ((from_.take i++m :: from_.drop i).map X) w.heap.size K:=by
 have ht:(xs.drop (i*2)).take ((from_.length-i)*2)=xs.drop (i*2):=bU (by rw[iB];omega);rw[show i+1+(from_.length-i)=from_.length+1 by omega,ht,dA]at Kc;obtain⟨g,cap,rfl,h1,h2,_⟩:=gV Kc (by omega);have hn:=hnr.insert (by simpa using hxl) (i:=i) (by simpa using hi) hB hD bL bR;rw[show(from_.map X).take i++X m :: (from_.map X).drop i=(from_.take i++m :: from_.drop i).map X by simp[List.map_take,List.map_drop]]at hn;exact⟨g,cap,_,rfl,iA,(Kc.lt g rfl).1,Dq Kc hw,hn.ext iA⟩
def RL(w:World)(q:Nat)(v:Value):Prop:=w.heap[q]?=some (.cells #[v] 3 (0,0))
theorem RL.ext(h:RL w q v)(hx:Ext w w'):RL w' q v:=by unfold RL at *;rw[hx.block q (bu h)];exact h
theorem RL.grown(h:RL W q x)(hg:W.grownBy W' v.ownBlock)(hq:∀b,v.ownBlock=some b->b≠q):RL W' q x:=by
 unfold RL at *;rw[hg.block q (bu h) (λe=>hq q e.symm rfl)];exact h
theorem Ul(h:RL W q x)(hl:kR W v v')(hq:∀b,v.ownBlock=some b->b≠q):∀b,v'.ownBlock=some b->b≠q:=by
 intro b hb e;have hlt:=bu h;rcases hl with h1|⟨g,h1,h2⟩
 .exact hq b (by rw[<-h1];exact hb) e
 .rw[h1]at hb;injection hb with hb;omega
theorem J6(h:W.ownsRow w4.heap.size 3 1 v3 (i+1+(from_.length-i)) (((dD from_).map (Value.int .i64)).take i++[.int .i64 ((m:Nat):Int)]++(((dD from_).map (Value.int .i64)).drop i).take (from_.length-i)))(iA:Ext w4 W)(hi:i<=from_.length)(hw:w.heap.size<=w4.heap.size):
 ∃g cap,v3=.slice (some ⟨g,0,none⟩) (from_.length+1) cap/\Ext w4 W/\w4.heap.size<=g/\W.ownsRow w.heap.size 3 1 v3 (from_.length+1) ((dD (from_.take i++m :: from_.drop i)).map (Value.int .i64)):=by
 have ht:(((dD from_).map (Value.int .i64)).drop i).take (from_.length-i)=((dD from_).map (Value.int .i64)).drop i:=bU (by simp[bJ]);rw[show i+1+(from_.length-i)=from_.length+1 by omega,ht]at h;have e:(dD (from_.take i++m :: from_.drop i)).map (Value.int .i64)=((dD from_).map (Value.int .i64)).take i++[.int .i64 ((m:Nat):Int)]++((dD from_).map (Value.int .i64)).drop i:=by
  simp[dD,List.map_take,List.map_drop]
 obtain⟨g,cap,rfl,h1,h2,_⟩:=gV h (by omega);exact⟨g,cap,rfl,iA,(h.lt g rfl).1,by rw[e];exact Dq h hw⟩
theorem PZ{wo:World}{F:dH}{idx:List Nat}{b g5 c5:Nat}{xs5:List Value}(g:bO.Good D)(hF:nO D root F idx at_ b)(hr:root<D.length)(hL:xM D root at_ b from_ m)(MS:bO.Reach D root m)(hbm:born (vl D m)=b)(hmt:m<=root)
 (hi:i<=from_.length) (h1:∀j (hj:j<from_.length),j<i->nc (Xn D at_ from_[j]) (Xn D at_ m)<0) (h2:∀hl:i<from_.length,¬nc (Xn D at_ from_[i]) (Xn D at_ m)<0) (hx:Ext wo w4) (iA:Ext w4 W)
 (YP:w4.ownsRow w.heap.size 89 2 (.slice (some ⟨g5,0,none⟩) (from_.length+1) c5) (from_.length+1) xs5) (YR:jd w4 xs5 ((from_.take i++m :: from_.drop i).map (Xn D at_)) w.heap.size K) (hg5:wo.heap.size<=g5)
 (hT:∃g cap,v3=.slice (some ⟨g,0,none⟩) (from_.length+1) cap/\Ext w4 W/\w4.heap.size<=g/\W.ownsRow w.heap.size 3 1 v3 (from_.length+1) ((dD (from_.take i++m :: from_.drop i)).map (Value.int .i64))) (hK:∀b,K b->b<wo.heap.size):
 ∃m' from',m'<=root+1/\Value.int .i64 ((m:Int)+1)=.int .i64 ((m':Nat):Int)/\xM D root at_ b from' m'/\Ext wo W/\IC w W K (.slice (some ⟨g5,0,none⟩) (from_.length+1) c5) v3 from' (Xn D at_):=by
 obtain⟨g6,c6,rfl,_,Km,ajk⟩:=hT;have hl:(from_.take i++m :: from_.drop i).length=from_.length+1:=by simp;omega
 have hz:=hx.size;refine⟨m+1,from_.take i++m :: from_.drop i,by omega,by simp,hL.put g hF hr MS hbm hi h1 h2,ax hx iA,⟨⟨xs5,?_,YR.ext iA⟩,?_,λb hb k=>?_,λb hb k=>?_,?_,?_⟩⟩
 .rw[hl];exact bY YP iA
 .rw[hl];exact ajk
 .simp[Value.ownBlock]at hb;subst hb;have:=hK _ k;omega
 .simp[Value.ownBlock]at hb;subst hb;have:=hK _ k;omega
 .rw[hl];exact⟨_,_,rfl⟩
 .rw[hl];exact⟨_,_,rfl⟩
theorem Ml(hn:from_.Nodup)(hlt:i<from_.length)(hx:from_[i]=xd)(hl:xd<at2.length)(hN:N=n+i)(h:∀j (h:j<from_.length),j<i->at2[from_[j]]?=some (n+j)):
 Hid (∀j (h:j<from_.length),j<i+1->(at2.set xd N)[from_[j]]?=some (n+j)):=by
 intro j hj hji;by_cases e:j=i
 .subst e
  rw[hx,eX,if_pos rfl,if_pos hl,hN]
 .rw[eX,if_neg (λe2=>e (Ap hn hj hlt (by rw[hx,e2])))]
  exact h j hj (by omega)
theorem Mm(hlt:i<from_.length)(hx:from_[i]=xd)(h:∀y,(∀j (h:j<from_.length),j<i->from_[j]≠y)->at2[y]?=at_[y]?):
 Hid (∀y,(∀j (h:j<from_.length),j<i+1->from_[j]≠y)->(at2.set xd N)[y]?=at_[y]?):=by
 intro y hy;rw[eX,if_neg (λe=>hy i hlt (by omega) (by rw[hx,e]))];exact h y (λj hj hji=>hy j hj (by omega))
theorem TP{B e size:Nat}(h:w.ownsRow B e size v n xs):w.ownsRow 0 e size v n xs:=by
 obtain⟨hl,h⟩:=h;refine⟨hl,?_⟩;rcases h with h|⟨g,cap,cur,h1,hb,h2⟩
 .exact .inl h
 .exact .inr ⟨g,cap,cur,h1,aJ _,h2⟩
theorem xP.start{w1 w2:World}(hx1:Ext (w.alloc (.cells #[.slice none 0 0] 28)) w1)(ho2:w2.ownsRow w.heap.size 3 1 (.slice (some ⟨w1.heap.size,0,none⟩) (root+1) (root+1)) (root+1) ((dD (List.replicate (root+1) 0)).map (Value.int .i64)))(hg2:w1.grownBy w2 none):
 xP w ((w2.alloc (.cells #[] 89)).alloc (.cells #[.slice (some ⟨w2.heap.size,0,none⟩) 0 0] 28)) (w2.heap.size+1) w1.heap.size (.slice (some ⟨w2.heap.size,0,none⟩) 0 0) root [] (List.replicate (root+1) 0):=by
 have z1:=hx1.size;rw[eQ]at z1;have z2:=(ho2.lt w1.heap.size rfl).2;have hx2:Ext w1 w2:=dS (Below.refl _ _) hg2 (by simp);have hx0:Ext w w2:=ax (ax (by go_grown) hx1) hx2;have hx3:Ext w2 ((w2.alloc (.cells #[] 89)).alloc (.cells #[.slice (some ⟨w2.heap.size,0,none⟩) 0 0] 28)):=by go_grown
 have r0:(w.alloc (.cells #[.slice none 0 0] 28)).heap[w.heap.size]?=some (.cells #[.slice none 0 0] 28 (0,0)):=heap_alloc_new _ _;refine⟨ax hx0 hx3,?_,bY ho2 hx3,?_,⟨[],?_,jd.nil _ _ _⟩,?_,?_,?_,?_,?_,?_,?_⟩
 .rw[hx3.block _ (by omega),hx2.block _ (by omega),hx1.block _ (by rw[eQ];omega)];exact r0
 .have:=heap_alloc_new (w2.alloc (.cells #[] 89)) (.cells #[.slice (some ⟨w2.heap.size,0,none⟩) 0 0] 28);rw[eQ]at this;exact this
 .exact(World.ownsRow_made w2 #[] 0 (by omega) (by decide) (by simp)).alloc _
 .simp[Value.ownBlock]
 .simp[Value.ownBlock];omega
 .simp[Value.ownBlock];omega
 .omega
 .omega
 .omega
 .omega
def Me:List Row:=[⟨0,[],58,[6]⟩,⟨1,[],59,[0]⟩,⟨2,[1],60,[58]⟩,⟨3,[2],61,[59]⟩,⟨4,[3],62,[60]⟩,⟨5,[],63,[11]⟩,⟨6,[4,5],64,[61,62]⟩,⟨7,[6],65,[63]⟩,⟨8,[7],66,[64]⟩,⟨9,[0,8],67,[57,65]⟩,⟨10,[9,9],68,[66]⟩,⟨11,[],69,[6]⟩,⟨12,[],70,[0]⟩,⟨13,[12],71,[69]⟩,⟨14,[13],72,[70]⟩,⟨15,[14],73,[71]⟩,⟨16,[],74,[11]⟩,⟨17,[15,16],75,[72,73]⟩,⟨18,[17],76,[74]⟩,⟨19,[18],77,[75]⟩,⟨20,[11,19,10],78,[68,76]⟩,⟨21,[20,20],79,[77]⟩,⟨22,[10,21],80,[67,78]⟩,⟨23,[],13,[]⟩,⟨24,[23,22,21,0,1,2,3,4,5,6,7,8,9,10,11,12,13,14,15,16,17,18,19,20,21,22,23],0,[12,79]⟩]
def yu:List Row:=[⟨0,[],81,[13]⟩,⟨1,[],82,[9]⟩,⟨2,[1],83,[81]⟩,⟨3,[0,2],84,[80,82]⟩,⟨4,[3],85,[83]⟩,⟨5,[4],86,[9,84]⟩,⟨6,[4],87,[13,84]⟩,⟨7,[5,6,4],88,[85,86,84]⟩,⟨8,[7,4],89,[87,84]⟩,⟨9,[4],90,[12,84]⟩,⟨10,[8,9,4,4],91,[88,89,84]⟩,⟨11,[4,10],92,[84,90]⟩]
def Md:List Row:=[⟨0,[],95,[]⟩,⟨1,[],96,[9]⟩,⟨2,[],97,[13]⟩,⟨3,[1,2],98,[95,96]⟩,⟨4,[0,3],99,[94,97]⟩,⟨5,[],100,[12]⟩,⟨6,[5],101,[99]⟩,⟨7,[4,6,4],102,[98,100]⟩,⟨8,[],103,[9]⟩,⟨9,[],104,[13]⟩,⟨10,[8,9],105,[102,103]⟩,⟨11,[7,10,7],106,[101,104]⟩,⟨12,[11,11,0,1,2,3,4,5,6,7,8,9,10,11],10,[105]⟩]
def Mc:List Row:=[⟨0,[],107,[]⟩,⟨1,[],108,[10]⟩,⟨2,[],109,[13]⟩,⟨3,[1,2],110,[107,108]⟩,⟨4,[0,3],111,[106,109]⟩,⟨5,[],112,[11]⟩,⟨6,[5],113,[111]⟩,⟨7,[4,6,4],114,[110,112]⟩,⟨8,[],115,[10]⟩,⟨9,[],116,[13]⟩,⟨10,[8,9],117,[114,115]⟩,⟨11,[7,10,7],118,[113,116]⟩,⟨12,[11,11,0,1,2,3,4,5,6,7,8,9,10,11],11,[117]⟩]
def Ma:List Row:=[⟨0,[],125,[6]⟩,⟨1,[],126,[10]⟩,⟨2,[],127,[14]⟩,⟨3,[1,2],128,[125,126]⟩,⟨4,[3],129,[127]⟩,⟨5,[],130,[7]⟩,⟨6,[5],131,[129]⟩,⟨7,[6],132,[130]⟩,⟨8,[0,4,0,1,2,3,4,5,6,7],133,[124,128]⟩,⟨9,[8,7,0,1,2,3,4,5,6,7],0,[132,131]⟩]
def L9:List Row:=[⟨0,[],134,[7]⟩,⟨1,[0],135,[133]⟩,⟨2,[],136,[9]⟩,⟨3,[],137,[14]⟩,⟨4,[2,3],138,[135,136]⟩,⟨5,[4],139,[137]⟩,⟨6,[5],140,[138]⟩,⟨7,[1,6],141,[134,139]⟩,⟨8,[0,1,2,3,4,5,6,7],142,[7]⟩,⟨9,[8,7,7,0,1,2,3,4,5,6,7],0,[141,140]⟩]
set_option maxHeartbeats 20000000 in
theorem zP(pb:Nat)(vn vb:Value)(D:dH)(root:Nat)(w:World)(hB:eH w pb vn vb D)(hr:root<D.length):
 Calls prog 133 #[.pointer (some ⟨pb,0,none⟩),.int .i64 root] w λe w'=>∃vN F,e=.returned (.agg #[vN])/\fu w' w.heap.size vN F/\bO.fC F/\bO.Same (bO.dZ F) (vl D root)/\Ext w w':=by
 have hds:=hB.small;obtain⟨i0,hi0,hz0,hz1,hz2⟩:=info_parts iw;obtain⟨i1,hi1,hy0,hy1,hy2⟩:=info_parts Ay;have hw:IntKind.i64.wrap ((root:Int)+1)=(root:Int)+1:=by rw[IntKind.wrap_i64];omega
 go_enter Tryz.func133,Tryz.ntmps133
 go_wp2_with (go_at_call 177;refine(Jw pb vn vb D root _ (hB.ext (by go_grown)) hr).mono ?_;rintro e w1 ⟨amF,bs,rfl,aaP,BG,hx1⟩;obtain⟨w2,hmk,ho2,hg2⟩:=run_make_full (P:=prog) w1 w.heap.size 80 3 i0 (.int .i64 0) 1 underlying80 hi0 hz0 hz1 .i64 .i64 (root+1) (by rw[hz2];omega) (by unfold maxLen;omega) (by have:=hx1.size;rw[eQ]at this;omega);rw[show(((root+1:Nat)):Int)=(root:Int)+1 by omega]at hmk)
 have ho2:w2.ownsRow w.heap.size 3 1 (.slice (some ⟨w1.heap.size,0,none⟩) (root+1) (root+1)) (root+1) ((dD (List.replicate (root+1) 0)).map (Value.int .i64)):=by
  rw[jZ]at ho2;rw[dD,List.map_replicate,List.map_replicate,<-toList_madeCells_one];exact ho2
 have hM0:=xP.start hx1 ho2 hg2;obtain⟨xY,V9,rfl,_,_,_⟩:=gV BG (by omega);have zn:=BG.lt xY rfl;have z1:=hx1.size;have z2:=hg2.size;have z1':w.heap.size+1<=w1.heap.size:=by rw[eQ]at z1;exact z1
 have zn':w.heap.size+1<=xY/\xY<w1.heap.size:=by rw[eQ]at zn;exact zn
 have hx2:Ext w1 ((w2.alloc (.cells #[] 89)).alloc (.cells #[.slice (some ⟨w2.heap.size,0,none⟩) 0 0] 28)):=ax (dS (Below.refl _ _) hg2 (by simp)) (by go_grown);have Hf:=bY BG hx2;have hK0:¬KF w (w2.heap.size+1) w1.heap.size (.slice (some ⟨w2.heap.size,0,none⟩) 0 0) xY:=by
  rintro(e|e|e|e)
  .omega
  .omega
  .omega
  .simp[Value.ownBlock]at e;omega
 obtain⟨gb,cb,rfl,Vl⟩:=hB.agX (by omega);have yh:=aQ Vl;have HB:=aQ hB;have Xp:=aQ aaP;obtain⟨gn,cn,_,_,_,_,rfl,_⟩:=hB.Ub hr;have hst:=nO.start D root;obtain⟨Wb,hWb⟩:∃W,W=w.alloc (.cells #[.slice none 0 0] 28):=⟨_,rfl⟩;have Hf:((w2.alloc (.cells #[] 89)).alloc (.cells #[.slice (some ⟨w2.heap.size,0,none⟩) 0 0] 28)).ownsRow 0 4 1 (.slice (some ⟨xY,0,none⟩) (root+1) V9) (root+1) (bs.map Value.bool):=TP Hf;clear hWb Wb hx2 z1 z2 zn z1' zn' BG ho2 hg2 hmk hx1 aaP Vl hB;generalize ((w2.alloc (.cells #[] 89)).alloc (.cells #[.slice (some ⟨w2.heap.size,0,none⟩) 0 0] 28))=W0 at *;generalize Value.slice (some ⟨w2.heap.size,0,none⟩) 0 0=vN0 at *;generalize w2.heap.size+1=o at *;generalize w1.heap.size=jk at *;obtain⟨at0,afV⟩:∃a,a=List.replicate (root+1) 0:=⟨_,rfl⟩;rw[<-afV]at hst hM0;clear afV;have hBl:=bO.ny HB.out.good.wf root;have hnX:=λ(i:Nat) (hi:i<D.length)=>HB.out.Ub hi
 have yg:=aQ hnX;clear hnX;go_loopw [8] (λbb wr=>∃b vN F idx at_,bb=.int .i64 ((b:Nat):Int)/\b<=born (vl D root)+1/\nO D root F idx at_ b/\xP w wr o jk vN root F at_/\wr.ownsRow 0 4 1 (.slice (some ⟨xY,0,none⟩) (root+1) V9) (root+1) (bs.map Value.bool)/\¬KF w o jk vN xY) (λbb _=>born (vl D root)+1-(intOf bb).toNat)
 case atStart=>exact⟨0,vN0,[],[],at0,rfl,aJ _,hst,hM0,Hf,hK0⟩
 case round=>
  clear hst hM0 Hf hK0;obtain⟨b,vN,F,idx,at_,rfl,hb,hF,hM,BG,hK⟩:=hrel;obtain⟨wo,rfl⟩:∃wo:World,wo=wr:=⟨_,rfl⟩;have hE:=hM.ext;obtain⟨cb1,Wp⟩:=yh.out _ hE;have cbr:=Wp root hr;have hfz:=frozen_of_row wo w.heap.size 0 _ _ hM.res;by_cases hbt:b<=born (vl D root)
  .have HM:=aQ hM
   have HF:=aQ hF;have HN:=aQ BG;have HK:=aQ hK;clear hM hF BG hK Wp;go_wp2
   go_loopw [9,10,11,12,13] (λlv fv kk _ _ w2=>∃m from_,m<=root+1/\kk=.int .i64 ((m:Nat):Int)/\xM D root at_ b from_ m/\Ext wo w2/\IC w w2 (KF w o jk vN) lv fv from_ (Xn D at_)) (λ_ _ kk _ _ _=>root+1-(intOf kk).toNat)
   case atStart=>
    have hkl:=HM.out.klt;refine⟨0,[],aJ _,rfl,xM.start _ _ _ _,by go_grown,⟨⟨[],?_,jd.nil _ _ _⟩,?_,λb hb k=>?_,λb hb k=>?_,⟨_,_,rfl⟩,⟨_,_,rfl⟩⟩⟩
    .exact(World.ownsRow_made wo #[] 0 hE.size (by decide) (by simp)).alloc _
    .exact lH wo _ _ hE.size _
    .simp[Value.ownBlock]at hb;subst hb;have:=hkl _ k;omega
    .simp[Value.ownBlock]at hb;subst hb;have:=hkl _ k;omega
   case round=>
    obtain⟨m,from_,hm,rfl,hL,hx,hLM⟩:=hrel;obtain⟨wm,rfl⟩:∃wm:World,wm=wr:=⟨_,rfl⟩;by_cases hmt:m<=root
    .have hmr:m<root+1:=by omega
     have hmD:m<D.length:=(by omega);have hEm:=ax hE hx;obtain⟨bv,hbv⟩:∃b,bs[m]?=some b:=⟨_,aa (by rw[Xp.out.len];omega)⟩;have afI:=zZ (bY HN.out hx) hmr hbv;have Vj:=(yh.out _ hEm).2 m hmD;have afJ:=(yh.out _ hEm).1;have HL:=aQ hL;have HX:=aQ hx;have IG:=aQ hLM;clear hL hx hLM;cases bv with
     |false=>
      go_wp2
      go_roundw
      case rel=>exact⟨m+1,from_,by omega,by go_num,HL.out.skip (λh=>by have:=(Xp.out.all m).2 h.1;rw[hbv]at this;cases this),HX.out,IG.out⟩
      case measure=>simp[intOf];omega
     |true=>
      by_cases hbm:born (vl D m)=b
      ·
       have MS:Hid (bO.Reach D root m):=(Xp.out.all m).1 hbv;rw[hbm]at Vj;clear hbv;obtain⟨g',c',aL,cL,aR,cR,he,hN⟩:=yg.out m hmD;simp only[Value.slice.injEq,bN,Addr.mk.injEq,and_true,true_and]at he;obtain⟨rfl,rfl⟩:=he;have HS:=aQ hN;obtain⟨p0,p1,p2,p3,p4⟩:=hN _ hEm;have Hq:wm.cell? ⟨pb,0,none⟩=some (.slice (some ⟨gn,0,none⟩) D.length cn)/\wm.cell? ⟨gn,m*2,none⟩=some (.slice aL (D[m]).1.length cL)/\wm.cell? ⟨gn,m*2+1,none⟩=some (.slice aR (D[m]).2.length cR):=⟨p0,p1,p2⟩;clear hN;go_wp2_with fail
       go_cut [12] (λx wc=>∃p aB n cB aD k cD,x=.pointer (some ⟨p,0,none⟩)/\Ext wm wc/\wm.heap.size<=p/\Ex wc p (.slice aB n cB) (.slice aD k cD)/\Ints wc (.slice aB n cB) (dD (Xn D at_ m).1)/\Ints wc (.slice aD k cD) (dD (Xn D at_ m).2)/\(∀b,Value.ownBlock (.slice aB n cB)=some b->wm.heap.size<=b/\b<wc.heap.size)/\(∀b,Value.ownBlock (.slice aD k cD)=some b->wm.heap.size<=b/\b<wc.heap.size))
       case first=>
        refine bV (λw'=>w'.cell? ⟨pb,0,none⟩=some (.slice (some ⟨gn,0,none⟩) D.length cn)/\w'.cell? ⟨gn,m*2,none⟩=some (.slice aL (D[m]).1.length cL)/\w'.cell? ⟨gn,m*2+1,none⟩=some (.slice aR (D[m]).2.length cR)) [24] Me (by kernel_rfl) ⟨by kernel_rfl,by kernel_rfl,by kernel_rfl⟩ Hq (λaz ah=>?_);(refine bT 0 az ah ?_;refine bT 1 az ah ?_;refine bT 2 az ah ?_;refine bT 3 az ah ?_;refine bT 4 az ah ?_;refine bT 5 az ah ?_;refine bT 6 az ah ?_;refine bT 7 az ah ?_;refine bT 8 az ah ?_;refine bT 11 az ah ?_;refine bT 12 az ah ?_;refine bT 13 az ah ?_;refine bT 14 az ah ?_;refine bT 15 az ah ?_;refine bT 16 az ah ?_;refine bT 17 az ah ?_;refine bT 18 az ah ?_;refine bT 19 az ah ?_);have pF:∀W,Ext wm W->W.cell? ⟨pb,0,none⟩=some (.slice (some ⟨gn,0,none⟩) D.length cn)/\W.cell? ⟨gn,m*2,none⟩=some (.slice aL (D[m]).1.length cL)/\W.cell? ⟨gn,m*2+1,none⟩=some (.slice aR (D[m]).2.length cR):=λW h=>by obtain⟨q0,q1,q2,-,-⟩:=HS.out W (ax hEm h);exact⟨q0,q1,q2⟩
        have hLs:∀W,Ext wm W->Ints W (.slice aL (D[m]).1.length cL) (dD (D[m]).1):=λW h=>(HS.out W (ax hEm h)).2.2.2.1
        have hRs:∀W,Ext wm W->Ints W (.slice aR (D[m]).2.length cR) (dD (D[m]).2):=λW h=>(HS.out W (ax hEm h)).2.2.2.2
        have afU:=HF.out.atl;have hAt:∀W,Ext wm W->Ints W (.slice (some ⟨jk,0,none⟩) (root+1) (root+1)) (dD at_):=λW h=>(Ints.eD (l:=dD at_) HM.out.ZI (by rw[bJ];omega)).ext (ax HX.out h)
        have hgl:=sN HB.out.good hmD;have aeF:(dD (D[m]).1).length<=1000000000:=(by rw[bJ];omega);have aeE:(dD (D[m]).2).length<=1000000000:=(by rw[bJ];omega);have hwm:=HB.out.good.wf m _ (aa hmD);have WG:∀x,x∈dD (D[m]).1->0<=x/\x<(dD at_).length:=λx hx=>by obtain⟨n,hn,rfl⟩:=mV hx;have:=hwm.1 n hn;rw[bJ,afU];omega
        have WE:∀x,x∈dD (D[m]).2->0<=x/\x<(dD at_).length:=λx hx=>by obtain⟨n,hn,rfl⟩:=mV hx;have:=hwm.2 n hn;rw[bJ,afU];omega
        obtain⟨xl1,xl2⟩:=Ya (at_:=at_) hmD;have iA:Ext wm wm.drew:=⟨rfl,rfl,rfl,ay _,λ_ _=>rfl⟩;obtain⟨W,hW⟩:∃W,W=wm.drew:=⟨_,rfl⟩;rw[<-hW]at iA ah ⊢;clear hW;have DW:=True.intro;refine lG az (i:=9) (j:=23) (by kernel_rfl) ?fa1 ?fb1
        case' fb1=>
         (refine IL (i:=23) λK hK=>?_;go_simp);have iX:Ext W (W.alloc (.cells #[.slice none 0 0,.slice none 0 0] 89)):=(by go_grown);have xX:Ex (W.alloc (.cells #[.slice none 0 0,.slice none 0 0] 89)) W.heap.size (.slice none 0 0) (.slice none 0 0):=heap_alloc_new _ _;have hpz:wm.heap.size<=W.heap.size:=iA.size;(try have Zn:=λb hb=>iJ (hfB b hb).2);(try have Zm:=λb hb=>iJ (rH b hb).2);(try replace Ho:=Ho.ext iX);(try replace hIB:=hIB.ext iX);(try replace EN:=EN.ext iX);(try replace BM:=BM.ext iX);(try replace hP:=hP.ext iX);(try replace hfB:=λb hb=>And.intro (hfB b hb).1 (bz (hfB b hb).2 iX.size));(try replace rH:=λb hb=>And.intro (rH b hb).1 (bz (rH b hb).2 iX.size));replace iA:=ax iA iX;have ah:=pF _ iA;have hP:=xX;clear xX;refine hK.out _ _ (λ_=>ah) ?_;clear hK K;(try simp only[nP]);generalize W.alloc (.cells #[.slice none 0 0,.slice none 0 0] 89)=W1 at *;generalize W.heap.size=p at *;clear iX;obtain⟨W,rfl⟩:∃W,W=W1:=⟨_,rfl⟩;clear DW
        case' fa1=>(refine IL (i:=9) λK hK=>?_;go_simp)
        all_goals
         first
          |(have hNP:=DW;clear hNP)
          |(refine nM az (i:=9) λK hK=>?_;go_simp)
         refine(sD _ _ (dD at_) (dD (D[m]).1) _ (hAt _ iA) (hLs _ iA) WG aeF).mono ?_;rintro e W ⟨vA,rfl,akO,iX⟩;(try replace Ho:=Ho.ext iX);(try replace hIB:=hIB.ext iX);(try replace EN:=EN.ext iX);(try replace BM:=BM.ext iX);(try replace hP:=hP.ext iX);(try replace hfB:=λb hb=>And.intro (hfB b hb).1 (bz (hfB b hb).2 iX.size));(try replace rH:=λb hb=>And.intro (rH b hb).1 (bz (rH b hb).2 iX.size));replace iA:=ax iA iX;have ah:=pF _ iA;have Ho:=akO;refine hK.out _ _ (λ_=>ah) ?_;clear hK K;(try simp only[nP])
        refine lG az (i:=10) (j:=23) (by kernel_rfl) ?fa2 ?fb2
        case' fb2=>
         (refine IL (i:=23) λK hK=>?_;go_simp);have iX:Ext W (W.alloc (.cells #[.slice none 0 0,.slice none 0 0] 89)):=(by go_grown);have xX:Ex (W.alloc (.cells #[.slice none 0 0,.slice none 0 0] 89)) W.heap.size (.slice none 0 0) (.slice none 0 0):=heap_alloc_new _ _;have hpz:wm.heap.size<=W.heap.size:=iA.size;(try have Zn:=λb hb=>iJ (hfB b hb).2);(try have Zm:=λb hb=>iJ (rH b hb).2);(try replace Ho:=Ho.ext iX);(try replace hIB:=hIB.ext iX);(try replace EN:=EN.ext iX);(try replace BM:=BM.ext iX);(try replace hP:=hP.ext iX);(try replace hfB:=λb hb=>And.intro (hfB b hb).1 (bz (hfB b hb).2 iX.size));(try replace rH:=λb hb=>And.intro (rH b hb).1 (bz (rH b hb).2 iX.size));replace iA:=ax iA iX;have ah:=pF _ iA;have hP:=xX;clear xX;refine hK.out _ _ (λ_=>ah) ?_;clear hK K;(try simp only[nP]);generalize W.alloc (.cells #[.slice none 0 0,.slice none 0 0] 89)=W1 at *;generalize W.heap.size=p at *;clear iX;obtain⟨W,rfl⟩:∃W,W=W1:=⟨_,rfl⟩;clear DW
        case' fa2=>(refine IL (i:=10) λK hK=>?_;go_simp)
        all_goals
         first
          |(have hNP:=DW;clear hNP)
          |(refine nM az (i:=10) λK hK=>?_;go_simp)
         refine(zB _ _ _ Ho (by rw[Io];exact aeF)).mono ?_;rintro e W ⟨vB,rfl,acX,iX,Y0⟩;(try have Zn:∀b,vB.ownBlock=some b->b≠p:=λb hb e=>by have h1:=bu hP;have h2:=(Y0 b hb).1;omega);have hfB:∀b,vB.ownBlock=some b->wm.heap.size<=b/\b<W.heap.size:=λb hb=>⟨dn iA.size (Y0 b hb).1,(Y0 b hb).2⟩
         clear Y0;rw[xl1]at acX;obtain⟨aB,cB,rfl,-⟩:=id acX;(try replace Ho:=Ho.ext iX);(try replace hIB:=hIB.ext iX);(try replace EN:=EN.ext iX);(try replace BM:=BM.ext iX);(try replace hP:=hP.ext iX);(try replace hfB:=λb hb=>And.intro (hfB b hb).1 (bz (hfB b hb).2 iX.size));(try replace rH:=λb hb=>And.intro (rH b hb).1 (bz (rH b hb).2 iX.size));replace iA:=ax iA iX;have ah:=pF _ iA;have hIB:=acX;refine hK.out _ _ (λ_=>ah) ?_;clear hK K;(try simp only[nP])
        refine lG az (i:=20) (j:=23) (by kernel_rfl) ?fa3 ?fb3
        case' fb3=>
         (refine IL (i:=23) λK hK=>?_;go_simp);have iX:Ext W (W.alloc (.cells #[.slice none 0 0,.slice none 0 0] 89)):=(by go_grown);have xX:Ex (W.alloc (.cells #[.slice none 0 0,.slice none 0 0] 89)) W.heap.size (.slice none 0 0) (.slice none 0 0):=heap_alloc_new _ _;have hpz:wm.heap.size<=W.heap.size:=iA.size;(try have Zn:=λb hb=>iJ (hfB b hb).2);(try have Zm:=λb hb=>iJ (rH b hb).2);(try replace Ho:=Ho.ext iX);(try replace hIB:=hIB.ext iX);(try replace EN:=EN.ext iX);(try replace BM:=BM.ext iX);(try replace hP:=hP.ext iX);(try replace hfB:=λb hb=>And.intro (hfB b hb).1 (bz (hfB b hb).2 iX.size));(try replace rH:=λb hb=>And.intro (rH b hb).1 (bz (rH b hb).2 iX.size));replace iA:=ax iA iX;have ah:=pF _ iA;have hP:=xX;clear xX;refine hK.out _ _ (λ_=>ah) ?_;clear hK K;(try simp only[nP]);generalize W.alloc (.cells #[.slice none 0 0,.slice none 0 0] 89)=W1 at *;generalize W.heap.size=p at *;clear iX;obtain⟨W,rfl⟩:∃W,W=W1:=⟨_,rfl⟩;clear DW
        case' fa3=>(refine IL (i:=20) λK hK=>?_;go_simp)
        all_goals
         first
          |(have hNP:=DW;clear hNP)
          |(refine nM az (i:=20) λK hK=>?_;go_simp)
         refine(sD _ _ (dD at_) (dD (D[m]).2) _ (hAt _ iA) (hRs _ iA) WE aeE).mono ?_;rintro e W ⟨vC,rfl,akN,iX⟩;(try replace Ho:=Ho.ext iX);(try replace hIB:=hIB.ext iX);(try replace EN:=EN.ext iX);(try replace BM:=BM.ext iX);(try replace hP:=hP.ext iX);(try replace hfB:=λb hb=>And.intro (hfB b hb).1 (bz (hfB b hb).2 iX.size));(try replace rH:=λb hb=>And.intro (rH b hb).1 (bz (rH b hb).2 iX.size));replace iA:=ax iA iX;have ah:=pF _ iA;have EN:=akN;refine hK.out _ _ (λ_=>ah) ?_;clear hK K;(try simp only[nP])
        refine lG az (i:=21) (j:=23) (by kernel_rfl) ?fa4 ?fb4
        case' fb4=>
         (refine IL (i:=23) λK hK=>?_;go_simp);have iX:Ext W (W.alloc (.cells #[.slice none 0 0,.slice none 0 0] 89)):=(by go_grown);have xX:Ex (W.alloc (.cells #[.slice none 0 0,.slice none 0 0] 89)) W.heap.size (.slice none 0 0) (.slice none 0 0):=heap_alloc_new _ _;have hpz:wm.heap.size<=W.heap.size:=iA.size;(try have Zn:=λb hb=>iJ (hfB b hb).2);(try have Zm:=λb hb=>iJ (rH b hb).2);(try replace Ho:=Ho.ext iX);(try replace hIB:=hIB.ext iX);(try replace EN:=EN.ext iX);(try replace BM:=BM.ext iX);(try replace hP:=hP.ext iX);(try replace hfB:=λb hb=>And.intro (hfB b hb).1 (bz (hfB b hb).2 iX.size));(try replace rH:=λb hb=>And.intro (rH b hb).1 (bz (rH b hb).2 iX.size));replace iA:=ax iA iX;have ah:=pF _ iA;have hP:=xX;clear xX;refine hK.out _ _ (λ_=>ah) ?_;clear hK K;(try simp only[nP]);generalize W.alloc (.cells #[.slice none 0 0,.slice none 0 0] 89)=W1 at *;generalize W.heap.size=p at *;clear iX;obtain⟨W,rfl⟩:∃W,W=W1:=⟨_,rfl⟩;clear DW
        case' fa4=>(refine IL (i:=21) λK hK=>?_;go_simp)
        all_goals
         first
          |(have hNP:=DW;clear hNP)
          |(refine nM az (i:=21) λK hK=>?_;go_simp)
         refine(zB _ _ _ EN (by rw[Io];exact aeE)).mono ?_;rintro e W ⟨vD,rfl,acW,iX,YZ⟩;(try have Zm:∀b,vD.ownBlock=some b->b≠p:=λb hb e=>by have h1:=bu hP;have h2:=(YZ b hb).1;omega);have rH:∀b,vD.ownBlock=some b->wm.heap.size<=b/\b<W.heap.size:=λb hb=>⟨dn iA.size (YZ b hb).1,(YZ b hb).2⟩
         clear YZ;rw[xl2]at acW;obtain⟨aD,cD,rfl,-⟩:=id acW;(try replace Ho:=Ho.ext iX);(try replace hIB:=hIB.ext iX);(try replace EN:=EN.ext iX);(try replace BM:=BM.ext iX);(try replace hP:=hP.ext iX);(try replace hfB:=λb hb=>And.intro (hfB b hb).1 (bz (hfB b hb).2 iX.size));(try replace rH:=λb hb=>And.intro (rH b hb).1 (bz (rH b hb).2 iX.size));replace iA:=ax iA iX;have ah:=pF _ iA;have BM:=acW;refine hK.out _ _ (λ_=>ah) ?_;clear hK K;(try simp only[nP])
        all_goals
         (refine bT 22 az ah ?_)
        (refine nM az (i:=23) λK hK=>?_;go_simp);have iX:Ext W (W.alloc (.cells #[.slice none 0 0,.slice none 0 0] 89)):=(by go_grown);have xX:Ex (W.alloc (.cells #[.slice none 0 0,.slice none 0 0] 89)) W.heap.size (.slice none 0 0) (.slice none 0 0):=heap_alloc_new _ _;have hpz:wm.heap.size<=W.heap.size:=iA.size;(try have Zn:=λb hb=>iJ (hfB b hb).2);(try have Zm:=λb hb=>iJ (rH b hb).2);(try replace Ho:=Ho.ext iX);(try replace hIB:=hIB.ext iX);(try replace EN:=EN.ext iX);(try replace BM:=BM.ext iX);(try replace hP:=hP.ext iX);(try replace hfB:=λb hb=>And.intro (hfB b hb).1 (bz (hfB b hb).2 iX.size));(try replace rH:=λb hb=>And.intro (rH b hb).1 (bz (rH b hb).2 iX.size));replace iA:=ax iA iX;have ah:=pF _ iA;have hP:=xX;clear xX;refine hK.out _ _ (λ_=>ah) ?_;clear hK K;(try simp only[nP]);generalize W.alloc (.cells #[.slice none 0 0,.slice none 0 0] 89)=W1 at *;generalize W.heap.size=p at *;clear iX;obtain⟨W,rfl⟩:∃W,W=W1:=⟨_,rfl⟩
        all_goals
         have q0:W.cell? ⟨p,0,none⟩=some (.slice none 0 0):=cell_of_row W p 0 _ _ _ hP;have q1:W.cell? ⟨p,1,none⟩=some (.slice none 0 0):=cell_of_row W p 1 _ _ _ hP;have q2:=frozen_of_row W p 0 _ _ hP;have q3:=frozen_of_row W p 1 _ _ hP;refine nU az [24] [_] ?_;go_wp2_with fail
         go_meet
         case rel=>exact⟨p,aB,_,cB,aD,_,cD,rfl,(FN iA hpz hP hIB BM hfB rH Zn Zm).1,hpz,(FN iA hpz hP hIB BM hfB rH Zn Zm).2⟩
       case rest=>
        obtain⟨p,aB,nB,cB,aD,nD,cD,rfl,OV,hpz,hP,hIB,BM,hfB,rH⟩:=hcut;obtain⟨gl,cl_,rfl⟩:=IG.out.s1;obtain⟨gf,cf,rfl⟩:=IG.out.s2;have HP:=aQ hP;have HIB:=aQ hIB;have HID:=aQ BM;have HfB:=aQ hfB;have HfD:=aQ rH;have HXC:=aQ OV;have hp0:wc.cell? ⟨p,0,none⟩=some (.slice aB nB cB):=cell_of_row wc p 0 _ _ _ hP;have hp1:wc.cell? ⟨p,1,none⟩=some (.slice aD nD cD):=cell_of_row wc p 1 _ _ _ hP;have hll:from_.length<=root+1:=jI HL.out.nd (λx hx=>by have:=((HL.out.mem x).1 hx).1;omega);clear hP hIB BM hfB rH OV p0 p1 p2 p3 p4 Hq afI Vj afJ;go_upto_block 4 with fail
        go_cut [13] (λii w3=>∃i,i<=from_.length/\ii=.int .i64 ((i:Nat):Int)/\Ext wc w3/\(∀j (h:j<from_.length),j<i->nc (Xn D at_ from_[j]) (Xn D at_ m)<0)/\(∀h:i<from_.length,¬nc (Xn D at_ from_[i]) (Xn D at_ m)<0))
        case first=>
         go_wp2_with fail
         go_loopw [13] (λii w3=>∃i,i<=from_.length/\ii=.int .i64 ((i:Nat):Int)/\Ext wc w3/\Hid (∀j (h:j<from_.length),j<i->nc (Xn D at_ from_[j]) (Xn D at_ m)<0)) (λii _=>from_.length-(intOf ii).toNat)
         case atStart=>exact⟨0,aJ _,rfl,Below.refl _ _,λj _ h=>absurd h (by omega)⟩
         case round=>
          obtain⟨i,hi,rfl,hx3,HNC⟩:=hrel;have MQ:=ax HXC.out hx3;have hP3:=HP.out.ext hx3;have hp0:wr.cell? ⟨p,0,none⟩=some (.slice aB nB cB):=cell_of_row wr p 0 _ _ _ hP3;have hp1:wr.cell? ⟨p,1,none⟩=some (.slice aD nD cD):=cell_of_row wr p 1 _ _ _ hP3;clear hP3;by_cases hlt:i<from_.length
          .obtain⟨xs,hrow,hnr⟩:=IG.out.rows
           have hrow3:=bY hrow MQ;have afe:=hnr.ext MQ;obtain⟨L,R,e1,e2,e3,e4,-,-⟩:=afe i (by simpa using hlt);rw[fT]at e3 e4;obtain⟨aX,cX,rfl,-⟩:=id e3;obtain⟨aY,cY,rfl,-⟩:=id e4;have cx:=(hrow3.cellAt (i*2) (by omega)).trans e1;have cy:=(hrow3.cellAt (i*2+1) (by omega)).trans e2;have PO:=aQ e3;have HE4:=aQ e4;have XZ:=aQ hx3;clear hrow hnr hrow3 afe e1 e2 e3 e4 MQ hx3;by_cases hnc:nc (Xn D at_ from_[i]) (Xn D at_ m)<0
           .have hd:decide (nc (Xn D at_ from_[i]) (Xn D at_ m)<0)=true:=decide_eq_true hnc
            have HNL:=aQ hnc;clear hnc;go_wp2_with fail
            refine bV (λw'=>w'.cell? ⟨gl,i*2,none⟩=some (.slice aX (dD (Xn D at_ from_[i]).1).length cX)/\w'.cell? ⟨gl,i*2+1,none⟩=some (.slice aY (dD (Xn D at_ from_[i]).2).length cY)/\w'.cell? ⟨p,0,none⟩=some (.slice aB nB cB)/\w'.cell? ⟨p,1,none⟩=some (.slice aD nD cD)) [10,11] yu (by kernel_rfl) ⟨by kernel_rfl,by kernel_rfl,by kernel_rfl⟩ ⟨cx,cy,hp0,hp1⟩ (λaz ah=>?_);(refine bT 0 az ah ?_;refine bT 1 az ah ?_;refine bT 2 az ah ?_;refine bT 3 az ah ?_;refine bT 4 az ah ?_;refine bT 5 az ah ?_;refine bT 6 az ah ?_;refine bT 7 az ah ?_;refine bT 8 az ah ?_;refine bT 9 az ah ?_);refine nU az [10,11] [_,_] ?_;go_wp2_with (go_at_call 179;refine(xR _ _ _ _ (Xn D at_ from_[i]) (Xn D at_ m) _ (PO.out.ext (by go_grown)) (HE4.out.ext (by go_grown)) (HIB.out.ext (ax XZ.out (by go_grown))) (HID.out.ext (ax XZ.out (by go_grown)))).mono ?_;rintro e w4 ⟨rfl,hx4⟩;rw[hd])
            go_roundw
            case rel=>exact⟨i+1,by omega,by go_num,ax XZ.out (ax (by go_grown) hx4),λj hj hji=>by
             by_cases e:j=i
             .subst e;exact HNL.out
             .exact HNC.out j hj (by omega)⟩
            case measure=>simp[intOf];omega
           .have hd:decide (nc (Xn D at_ from_[i]) (Xn D at_ m)<0)=false:=decide_eq_false hnc
            have HNL:=aQ hnc;clear hnc;go_wp2_with fail
            refine bV (λw'=>w'.cell? ⟨gl,i*2,none⟩=some (.slice aX (dD (Xn D at_ from_[i]).1).length cX)/\w'.cell? ⟨gl,i*2+1,none⟩=some (.slice aY (dD (Xn D at_ from_[i]).2).length cY)/\w'.cell? ⟨p,0,none⟩=some (.slice aB nB cB)/\w'.cell? ⟨p,1,none⟩=some (.slice aD nD cD)) [10,11] yu (by kernel_rfl) ⟨by kernel_rfl,by kernel_rfl,by kernel_rfl⟩ ⟨cx,cy,hp0,hp1⟩ (λaz ah=>?_);(refine bT 0 az ah ?_;refine bT 1 az ah ?_;refine bT 2 az ah ?_;refine bT 3 az ah ?_;refine bT 4 az ah ?_;refine bT 5 az ah ?_;refine bT 6 az ah ?_;refine bT 7 az ah ?_;refine bT 8 az ah ?_;refine bT 9 az ah ?_);refine nU az [10,11] [_,_] ?_;go_wp2_with (go_at_call 179;refine(xR _ _ _ _ (Xn D at_ from_[i]) (Xn D at_ m) _ (PO.out.ext (by go_grown)) (HE4.out.ext (by go_grown)) (HIB.out.ext (ax XZ.out (by go_grown))) (HID.out.ext (ax XZ.out (by go_grown)))).mono ?_;rintro e w4 ⟨rfl,hx4⟩;rw[hd])
            go_meet
            case rel=>exact⟨i,by omega,rfl,ax XZ.out (ax (by go_grown) hx4),HNC.out,λ_=>by have:=HNL.out;omega⟩
          .have hie:i=from_.length:=by omega
           have hlt':¬((i:Int)<(from_.length:Int)):=(by omega);go_wp2_with fail
           refine bV (λw'=>w'.cell? ⟨p,0,none⟩=some (.slice aB nB cB)) [11] yu (by kernel_rfl) ⟨by kernel_rfl,by kernel_rfl,by kernel_rfl⟩ hp0 (λaz ah=>?_);(refine bT 0 az ah ?_;refine bT 1 az ah ?_;refine bT 2 az ah ?_;refine bT 3 az ah ?_;refine bT 4 az ah ?_);((refine eu az (i:=5) (oi:=_) (v:=undef) (by simp only[gE];rfl) (by kernel_rfl) (by exact λ_ _ _ h=>h) ah (Or.inr ⟨by rfl,rfl⟩) ?r53);(try simp only[nP]);(refine eu az (i:=6) (oi:=_) (v:=undef) (by simp only[gE];rfl) (by kernel_rfl) (by exact λ_ _ _ h=>h) ah (Or.inr ⟨by rfl,rfl⟩) ?r54);(try simp only[nP]);(refine eu az (i:=7) (oi:=_) (v:=undef) (by simp only[gE];rfl) (by kernel_rfl) (by exact λ_ _ _ h=>h) ah (Or.inr ⟨by rfl,rfl⟩) ?r55);(try simp only[nP]);(refine eu az (i:=8) (oi:=_) (v:=undef) (by simp only[gE];rfl) (by kernel_rfl) (by exact λ_ _ _ h=>h) ah (Or.inr ⟨by rfl,rfl⟩) ?r56);(try simp only[nP]);(refine eu az (i:=9) (oi:=_) (v:=undef) (by simp only[gE];rfl) (by kernel_rfl) (by exact λ_ _ _ h=>h) ah (Or.inr ⟨by rfl,rfl⟩) ?r57);(try simp only[nP]);(refine eu az (i:=10) (oi:=_) (v:=undef) (by simp only[gE];rfl) (by kernel_rfl) (by exact λ_ _ _ h=>h) ah (Or.inr ⟨by rfl,rfl⟩) ?r58);(try simp only[nP]));refine nU az [11] [_] ?_;go_wp2_with fail
           go_meet
           case rel=>exact⟨from_.length,ay _,rfl,ax hx3 (by go_grown),λj hj _=>HNC.out j hj (by omega),λh=>absurd h (by omega)⟩
        case rest=>
         obtain⟨i,hi,rfl,hx3,HNC,hne⟩:=hcut;obtain⟨w3,rfl⟩:∃w3:World,w3=wc:=⟨_,rfl⟩;have MQ:=ax HXC.out hx3;have hP3:=HP.out.ext hx3;have hp0:w3.cell? ⟨p,0,none⟩=some (.slice aB nB cB):=cell_of_row w3 p 0 _ _ _ hP3;have hp1:w3.cell? ⟨p,1,none⟩=some (.slice aD nD cD):=cell_of_row w3 p 1 _ _ _ hP3;obtain⟨xs,hrow,hnr⟩:=IG.out.rows;have hrow3:=bY hrow MQ;have hxl:xs.length=from_.length*2:=hrow.1;obtain⟨hcap1,hcap2⟩:from_.length<=cl_/\cl_<=maxLen:=(by obtain⟨_,_,e,h1,h2⟩:=bH hrow3;simp only[Value.slice.injEq]at e;obtain⟨_,_,rfl⟩:=e;exact⟨h1,h2⟩);have hone:=hnr.one (by simpa using hxl);have HNR:=aQ hnr;have Ld:=aQ hrow3;have Z0:=aQ MQ;have al6:=aQ HNC;have HNE:=aQ hne;have XZ:=aQ hx3;have anE:i<=cl_:=(by omega);clear hP3 hrow hnr hrow3 MQ HNC hne hx3;go_wp2_with fail
         go_cut [9] (λlv w4=>∃g cap xs',lv=.slice (some ⟨g,0,none⟩) (from_.length+1) cap/\Ext w3 w4/\w3.heap.size<=g/\w4.ownsRow w.heap.size 89 2 lv (from_.length+1) xs'/\jd w4 xs' ((from_.take i++m :: from_.drop i).map (Xn D at_)) w.heap.size (KF w o jk vN))
         case first=>
          have pF:∀W,Ext w3 W->W.cell? ⟨p,0,none⟩=some (.slice aB nB cB)/\W.cell? ⟨p,1,none⟩=some (.slice aD nD cD):=λW h=>⟨(h.cell (lt_of_cell hp0)).trans hp0,(h.cell (lt_of_cell hp1)).trans hp1⟩
          have al0:=HNR.out.ext Z0.out;have HB3:=HIB.out.ext XZ.out;have HD3:=HID.out.ext XZ.out;have hz3:=XZ.out.size;have hkl:=HM.out.klt;have hzm:=HX.out.size;have XH:=hE.size;have alA:∀b,Value.ownBlock (.slice aB nB cB)=some b->w.heap.size<=b/\b<w3.heap.size/\¬KF w o jk vN b:=λb hb=>⟨by have:=(HfB.out b hb).1;omega,by have:=(HfB.out b hb).2;omega,λk=>by have:=hkl b k;have:=(HfB.out b hb).1;omega⟩
          have aly:∀b,Value.ownBlock (.slice aD nD cD)=some b->w.heap.size<=b/\b<w3.heap.size/\¬KF w o jk vN b:=λb hb=>⟨by have:=(HfD.out b hb).1;omega,by have:=(HfD.out b hb).2;omega,λk=>by have:=hkl b k;have:=(HfD.out b hb).1;omega⟩
          have hw3:w.heap.size<=w3.heap.size:=(by have:=Z0.out.size;omega);refine bV (λw'=>w'.cell? ⟨p,0,none⟩=some (.slice aB nB cB)/\w'.cell? ⟨p,1,none⟩=some (.slice aD nD cD)) [11,12] Md (by kernel_rfl) ⟨by kernel_rfl,by kernel_rfl,by kernel_rfl⟩ ⟨hp0,hp1⟩ (λaz ah=>?_);(refine bT 1 az ah ?_;refine bT 2 az ah ?_;refine bT 3 az ah ?_;refine bT 5 az ah ?_;refine bT 8 az ah ?_;refine bT 9 az ah ?_;refine bT 10 az ah ?_);have iA:Ext w3 w3.drew:=⟨rfl,rfl,rfl,ay _,λ_ _=>rfl⟩;obtain⟨W,hW⟩:∃W,W=w3.drew:=⟨_,rfl⟩;rw[<-hW]at iA ah ⊢;clear hW;have DW:=True.intro;refine lG az (i:=0) (j:=6) (by kernel_rfl) ?fa5 ?fb5
          case' fb5=>
           (refine IL (i:=6) λK hK=>?_;go_simp);have iX:Ext W (W.alloc (.cells #[.slice aB nB cB,.slice aD nD cD] 89)):=(by go_grown);have xX:Ex (W.alloc (.cells #[.slice aB nB cB,.slice aD nD cD] 89)) W.heap.size (.slice aB nB cB) (.slice aD nD cD):=heap_alloc_new _ _;(try have QN:=λb hb=>iJ (hro.lt b hb).2);(try replace hro:=bY hro iX);have hP:=xX;clear xX;replace iA:=ax iA iX;have ah:=pF _ iA;refine hK.out _ _ (λ_=>ah) ?_;clear hK K;(try simp only[nP]);generalize W.alloc (.cells #[.slice aB nB cB,.slice aD nD cD] 89)=W1 at *;generalize W.heap.size=q at *;clear iX;obtain⟨W,rfl⟩:∃W,W=W1:=⟨_,rfl⟩;clear DW
          case' fa5=>(refine IL (i:=0) λK hK=>?_;go_simp)
          all_goals
           first
            |(have hNP:=DW;clear hNP)
            |(refine nM az (i:=0) λK hK=>?_;go_simp)
           have iX:Ext W (W.alloc (.cells #[] 89)):=(by go_grown);have xG:(W.alloc (.cells #[] 89)).ownsRow w3.heap.size 89 2 (.slice (some ⟨W.heap.size,0,none⟩) 0 0) 0 []:=World.ownsRow_made W #[] 0 iA.size (by decide) (by simp);(try have QN:∀b,Value.ownBlock (.slice (some ⟨W.heap.size,0,none⟩) 0 0)=some b->b≠q:=λb hb e=>by have h1:=bu hP;simp[Value.ownBlock]at hb;omega);(try replace hP:=hP.ext iX);have hro:=xG;clear xG;replace iA:=ax iA iX;have ah:=pF _ iA;refine hK.out _ _ (λ_=>ah) ?_;clear hK K;(try simp only[nP]);generalize W.alloc (.cells #[] 89)=W1 at *;generalize W.heap.size=h0 at *;clear iX;obtain⟨W,rfl⟩:∃W,W=W1:=⟨_,rfl⟩
          refine lG az (i:=4) (j:=6) (by kernel_rfl) ?fa6 ?fb6
          case' fb6=>
           (refine IL (i:=6) λK hK=>?_;go_simp);have iX:Ext W (W.alloc (.cells #[.slice aB nB cB,.slice aD nD cD] 89)):=(by go_grown);have xX:Ex (W.alloc (.cells #[.slice aB nB cB,.slice aD nD cD] 89)) W.heap.size (.slice aB nB cB) (.slice aD nD cD):=heap_alloc_new _ _;(try have QN:=λb hb=>iJ (hro.lt b hb).2);(try replace hro:=bY hro iX);have hP:=xX;clear xX;replace iA:=ax iA iX;have ah:=pF _ iA;refine hK.out _ _ (λ_=>ah) ?_;clear hK K;(try simp only[nP]);generalize W.alloc (.cells #[.slice aB nB cB,.slice aD nD cD] 89)=W1 at *;generalize W.heap.size=q at *;clear iX;obtain⟨W,rfl⟩:∃W,W=W1:=⟨_,rfl⟩;clear DW
          case' fa6=>refine IL (i:=4) λK hK=>?_
          all_goals
           first
            |(have hNP:=DW;clear hNP)
            |refine nM az (i:=4) λK hK=>?_
           refine gY rfl (.tmp 94) (.tmp 97) 26 rfl w3.heap.size 89 i1 (.agg #[.slice none 0 0,.slice none 0 0]) 2 48 underlying26 hi1 hy0 hy1 hy2 rfl (by decide) (.slice (some ⟨h0,0,none⟩) 0 0) 0 [] rfl hro _ i _ ((xs.drop 0).take (i*2)) rfl (by simp;omega) (.inr ⟨⟨gl,0,none⟩,rfl,yT Ld.out iA 0 (i*2) (by omega)⟩) (λu hu=>hone u (jq (dY hu))) (by unfold maxLen;omega) (by omega) iA.size ?_;intro v1 W MR hg1 hl1;simp only[jf,gI,List.drop_zero]at MR;(try have ab4:=Yz hP hl1 QN);(try replace hP:=Ex.grown hP hg1 QN);(try replace QN:=ab4);replace iA:=dS iA hg1 (λk hk=>(hro.lt k hk).1);replace hro:=MR;clear MR;have ah:=pF _ iA;refine hK.out _ _ (λ_=>ah) ?_;clear hK K;(try simp only[nP])
          (refine nM az (i:=6) λK hK=>?_;go_simp);have iX:Ext W (W.alloc (.cells #[.slice aB nB cB,.slice aD nD cD] 89)):=(by go_grown);have xX:Ex (W.alloc (.cells #[.slice aB nB cB,.slice aD nD cD] 89)) W.heap.size (.slice aB nB cB) (.slice aD nD cD):=heap_alloc_new _ _;(try have QN:=λb hb=>iJ (hro.lt b hb).2);(try replace hro:=bY hro iX);have hP:=xX;clear xX;replace iA:=ax iA iX;have ah:=pF _ iA;refine hK.out _ _ (λ_=>ah) ?_;clear hK K;(try simp only[nP]);generalize W.alloc (.cells #[.slice aB nB cB,.slice aD nD cD] 89)=W1 at *;generalize W.heap.size=q at *;clear iX;obtain⟨W,rfl⟩:∃W,W=W1:=⟨_,rfl⟩
          all_goals
           refine nM az (i:=7) λK hK=>?_
           refine gY rfl (.tmp 98) (.tmp 100) 26 rfl w3.heap.size 89 i1 (.agg #[.slice none 0 0,.slice none 0 0]) 2 48 underlying26 hi1 hy0 hy1 hy2 rfl (by decide) v1 i (xs.take (i*2)) rfl hro _ 1 _ [.slice aB nB cB,.slice aD nD cD] rfl rfl (.inr ⟨⟨q,0,none⟩,rfl,JF hP⟩) uS (by unfold maxLen;omega) (by omega) iA.size ?_;intro v2 W Ke hg2 hl2;replace iA:=dS iA hg2 (λk hk=>(hro.lt k hk).1);have ah:=pF _ iA;refine hK.out _ _ (λ_=>ah) ?_;clear hK K;(try simp only[nP]);refine nM az (i:=11) λK hK=>?_
           refine gY rfl (.tmp 101) (.tmp 104) 26 rfl w3.heap.size 89 i1 (.agg #[.slice none 0 0,.slice none 0 0]) 2 48 underlying26 hi1 hy0 hy1 hy2 rfl (by decide) v2 (i+1) (xs.take (i*2)++[.slice aB nB cB,.slice aD nD cD]) rfl Ke _ (from_.length-i) _ ((xs.drop (i*2)).take ((from_.length-i)*2)) rfl (by simp;omega) (by
            rcases fI i from_.length with h|h
            .exact .inr ⟨⟨gl,i*2,none⟩,by first|rfl|(rw[if_neg (by omega)]),yT Ld.out iA (i*2) ((from_.length-i)*2) (by omega)⟩
            .exact .inl (by omega)) (λu hu=>hone u (jq (dY hu))) (by unfold maxLen;omega) (by omega) iA.size ?_
           intro v3 W Kc hg3 hl3;replace iA:=dS iA hg3 (λk hk=>(Ke.lt k hk).1);have ah:=pF _ iA;refine hK.out _ _ (λ_=>ah) ?_;clear hK K;(try simp only[nP]);refine nU az [12] [_] ?_;go_wp2_with fail
           all_goals (go_meet;exact J7 Kc al0 iA hxl hi HB3 HD3 alA aly hw3)
         case rest=>
          obtain⟨g5,c5,xs5,rfl,hx4,hg5,YP,YR⟩:=hcut;obtain⟨w4,rfl⟩:∃w4:World,w4=wc:=⟨_,rfl⟩;have abU:=ax Z0.out hx4;have ab1:=bY IG.out.Pm abU;obtain⟨anH,anG⟩:from_.length<=cf/\cf<=maxLen:=(by obtain⟨_,_,e,h1,h2⟩:=bH ab1;simp only[Value.slice.injEq]at e;obtain⟨_,_,rfl⟩:=e;exact⟨h1,h2⟩);have aha:=aQ ab1;have ag5:=aQ abU;have alN:=aQ YP;have alZ:=aQ YR;have XY:=aQ hx4;have anF:i<=cf:=(by omega);have EL:=hx4.size;clear hx4 YP YR ab1 abU hp0 hp1;go_wp2_with fail
          have hw4:w.heap.size<=w4.heap.size:=(by have:=ag5.out.size;have:=HX.out.size;have:=hE.size;omega);have pF:∀W,Ext w4 W->True:=λ_ _=>trivial
          refine bV (λw'=>True) [11,12] Mc (by kernel_rfl) ⟨by kernel_rfl,by kernel_rfl,by kernel_rfl⟩ trivial (λaz ah=>?_);(refine bT 1 az ah ?_;refine bT 2 az ah ?_;refine bT 3 az ah ?_;refine bT 5 az ah ?_;refine bT 8 az ah ?_;refine bT 9 az ah ?_;refine bT 10 az ah ?_);have iA:Ext w4 w4.drew:=⟨rfl,rfl,rfl,ay _,λ_ _=>rfl⟩;obtain⟨W,hW⟩:∃W,W=w4.drew:=⟨_,rfl⟩;rw[<-hW]at iA ⊢;clear hW;have DW:=True.intro;refine lG az (i:=0) (j:=6) (by kernel_rfl) ?fa7 ?fb7
          case' fb7=>
           (refine IL (i:=6) λK hK=>?_;go_simp);have iX:Ext W (W.alloc (.cells #[.int .i64 ((m:Nat):Int)] 3)):=(by go_grown);have xX:RL (W.alloc (.cells #[.int .i64 ((m:Nat):Int)] 3)) W.heap.size (.int .i64 ((m:Nat):Int)):=heap_alloc_new _ _;(try have QN:=λb hb=>iJ (hro.lt b hb).2);(try replace hro:=bY hro iX);have hP:=xX;clear xX;replace iA:=ax iA iX;have ah:=pF _ iA;refine hK.out _ _ (λ_=>ah) ?_;clear hK K;(try simp only[nP]);generalize W.alloc (.cells #[.int .i64 ((m:Nat):Int)] 3)=W1 at *;generalize W.heap.size=q at *;clear iX;obtain⟨W,rfl⟩:∃W,W=W1:=⟨_,rfl⟩;clear DW
          case' fa7=>(refine IL (i:=0) λK hK=>?_;go_simp)
          all_goals
           first
            |(have hNP:=DW;clear hNP)
            |(refine nM az (i:=0) λK hK=>?_;go_simp)
           have iX:Ext W (W.alloc (.cells #[] 3)):=(by go_grown);have xG:(W.alloc (.cells #[] 3)).ownsRow w4.heap.size 3 1 (.slice (some ⟨W.heap.size,0,none⟩) 0 0) 0 []:=World.ownsRow_made W #[] 0 iA.size (by decide) (by simp);(try have QN:∀b,Value.ownBlock (.slice (some ⟨W.heap.size,0,none⟩) 0 0)=some b->b≠q:=λb hb e=>by have h1:=bu hP;simp[Value.ownBlock]at hb;omega);(try replace hP:=hP.ext iX);have hro:=xG;clear xG;replace iA:=ax iA iX;have ah:=pF _ iA;refine hK.out _ _ (λ_=>ah) ?_;clear hK K;(try simp only[nP]);generalize W.alloc (.cells #[] 3)=W1 at *;generalize W.heap.size=h0 at *;clear iX;obtain⟨W,rfl⟩:∃W,W=W1:=⟨_,rfl⟩
          refine lG az (i:=4) (j:=6) (by kernel_rfl) ?fa8 ?fb8
          case' fb8=>
           (refine IL (i:=6) λK hK=>?_;go_simp);have iX:Ext W (W.alloc (.cells #[.int .i64 ((m:Nat):Int)] 3)):=(by go_grown);have xX:RL (W.alloc (.cells #[.int .i64 ((m:Nat):Int)] 3)) W.heap.size (.int .i64 ((m:Nat):Int)):=heap_alloc_new _ _;(try have QN:=λb hb=>iJ (hro.lt b hb).2);(try replace hro:=bY hro iX);have hP:=xX;clear xX;replace iA:=ax iA iX;have ah:=pF _ iA;refine hK.out _ _ (λ_=>ah) ?_;clear hK K;(try simp only[nP]);generalize W.alloc (.cells #[.int .i64 ((m:Nat):Int)] 3)=W1 at *;generalize W.heap.size=q at *;clear iX;obtain⟨W,rfl⟩:∃W,W=W1:=⟨_,rfl⟩;clear DW
          case' fa8=>refine IL (i:=4) λK hK=>?_
          all_goals
           first
            |(have hNP:=DW;clear hNP)
            |refine nM az (i:=4) λK hK=>?_
           refine gY rfl (.tmp 106) (.tmp 109) 80 rfl w4.heap.size 3 i0 (.int .i64 0) 1 8 underlying80 hi0 hz0 hz1 hz2 rfl (by decide) (.slice (some ⟨h0,0,none⟩) 0 0) 0 [] rfl hro _ i _ ((((dD from_).map (Value.int .i64)).drop 0).take i) rfl (by simp[bJ];omega) (.inr ⟨⟨gf,0,none⟩,rfl,yT aha.out iA 0 i (by omega)⟩) (λu hu=>kJ _ u (jq (dY hu))) (by unfold maxLen;omega) (by omega) iA.size ?_;intro v1 W MR hg1 hl1;simp only[jf,gI,List.drop_zero]at MR;(try have ab4:=Ul hP hl1 QN);(try replace hP:=RL.grown hP hg1 QN);(try replace QN:=ab4);replace iA:=dS iA hg1 (λk hk=>(hro.lt k hk).1);replace hro:=MR;clear MR;have ah:=pF _ iA;refine hK.out _ _ (λ_=>ah) ?_;clear hK K;(try simp only[nP])
          (refine nM az (i:=6) λK hK=>?_;go_simp);have iX:Ext W (W.alloc (.cells #[.int .i64 ((m:Nat):Int)] 3)):=(by go_grown);have xX:RL (W.alloc (.cells #[.int .i64 ((m:Nat):Int)] 3)) W.heap.size (.int .i64 ((m:Nat):Int)):=heap_alloc_new _ _;(try have QN:=λb hb=>iJ (hro.lt b hb).2);(try replace hro:=bY hro iX);have hP:=xX;clear xX;replace iA:=ax iA iX;have ah:=pF _ iA;refine hK.out _ _ (λ_=>ah) ?_;clear hK K;(try simp only[nP]);generalize W.alloc (.cells #[.int .i64 ((m:Nat):Int)] 3)=W1 at *;generalize W.heap.size=q at *;clear iX;obtain⟨W,rfl⟩:∃W,W=W1:=⟨_,rfl⟩
          all_goals
           refine nM az (i:=7) λK hK=>?_
           refine gY rfl (.tmp 110) (.tmp 112) 80 rfl w4.heap.size 3 i0 (.int .i64 0) 1 8 underlying80 hi0 hz0 hz1 hz2 rfl (by decide) v1 i (((dD from_).map (Value.int .i64)).take i) rfl hro _ 1 _ [.int .i64 ((m:Nat):Int)] rfl rfl (.inr ⟨⟨q,0,none⟩,rfl,dJ (cell_of_row W q 0 _ _ _ hP)⟩) one_cell (by unfold maxLen;omega) (by omega) iA.size ?_;intro v2 W Ke hg2 hl2;replace iA:=dS iA hg2 (λk hk=>(hro.lt k hk).1);have ah:=pF _ iA;refine hK.out _ _ (λ_=>ah) ?_;clear hK K;(try simp only[nP]);refine nM az (i:=11) λK hK=>?_
           refine gY rfl (.tmp 113) (.tmp 116) 80 rfl w4.heap.size 3 i0 (.int .i64 0) 1 8 underlying80 hi0 hz0 hz1 hz2 rfl (by decide) v2 (i+1) (((dD from_).map (Value.int .i64)).take i++[.int .i64 ((m:Nat):Int)]) rfl Ke _ (from_.length-i) _ ((((dD from_).map (Value.int .i64)).drop i).take (from_.length-i)) rfl (by simp[bJ]) (by
            rcases fI i from_.length with h|h
            .exact .inr ⟨⟨gf,i,none⟩,by first|rfl|(rw[if_neg (by omega)]),yT aha.out iA i (from_.length-i) (by omega)⟩
            .exact .inl (by omega)) (λu hu=>kJ _ u (jq (dY hu))) (by unfold maxLen;omega) (by omega) iA.size ?_
           intro v3 W Kc hg3 hl3;replace iA:=dS iA hg3 (λk hk=>(Ke.lt k hk).1);have ah:=pF _ iA;refine hK.out _ _ (λ_=>ah) ?_;clear hK K;(try simp only[nP]);refine nU az [12] [_] ?_;go_wp2_with fail
           all_goals go_roundw
           all_goals first
            |exact PZ HB.out.good HF.out hr HL.out MS.out hbm hmt hi al6.out (λh=>by have:=HNE.out h;omega) (ax HX.out ag5.out) iA alN.out alZ.out (by have:=HX.out.size;have:=Z0.out.size;omega) (J6 Kc iA hi hw4) HM.out.klt
            |(simp[intOf];omega)
      .have hbn:((born (vl D m):Int)== (b:Int))=false:=by rw[beq_eq_false_iff_ne];omega
       have arc:¬((born (vl D m):Int)=(b:Int)):=(by omega);go_wp2
       go_roundw
       case rel=>exact⟨m+1,from_,by omega,by go_num,HL.out.skip (λh=>hbm h.2),HX.out,IG.out⟩
       case measure=>simp[intOf];omega
    .have hme:m=root+1:=by omega
     subst hme;have hlt':¬(((root+1:Nat):Int)<=(root:Int)):=(by omega);obtain⟨gl,cl_,rfl⟩:=hLM.s1;obtain⟨gf,cf,rfl⟩:=hLM.s2;have HL:=aQ hL;have hM1:=HM.out.ext' hx;have hN1:=bY HN.out hx;have hfl:from_.length<=root+1:=jI hL.nd (λx hx=>by have:=((hL.mem x).1 hx).1;omega);have IU:F.length<=root+1:=by
      rw[<-HF.out.len];exact jI HF.out.nd (λx hx=>by have:=bO.mP HB.out.good.wf ((HF.out.mem x).1 hx).1;omega)
     clear hL hx;go_wp2
     go_loopw [14] (λii wr=>∃i vN2 at2,i<=from_.length/\ii=.int .i64 ((i:Nat):Int)/\xP w wr o jk vN2 root (F++(from_.map (Xn D at_)).take i) at2/\IC w wr (KF w o jk vN2) (.slice (some ⟨gl,0,none⟩) from_.length cl_) (.slice (some ⟨gf,0,none⟩) from_.length cf) from_ (Xn D at_)/\
      wr.ownsRow 0 4 1 (.slice (some ⟨xY,0,none⟩) (root+1) V9) (root+1) (bs.map Value.bool)/\¬KF w o jk vN2 xY/\at2.length=root+1/\Hid (∀j (h:j<from_.length),j<i->at2[from_[j]]?=some (F.length+j))/\Hid (∀y,(∀j (h:j<from_.length),j<i->from_[j]≠y)->at2[y]?=at_[y]?)) (λii _=>from_.length-(intOf ii).toNat)
     case atStart=>exact⟨0,vN,at_,aJ _,rfl,by simpa using hM1,hLM,hN1,HK.out,HF.out.atl,λj _ h=>absurd h (by omega),λy _=>rfl⟩
     case round=>
      clear hM1 hN1 hLM;obtain⟨i,vN2,at2,hi,rfl,hM2,Zh,Vy,hK2,hl2,HA,HA2⟩:=hrel;obtain⟨Fi,hFi⟩:∃Fi,Fi=F++(from_.map (Xn D at_)).take i:=⟨_,rfl⟩;rw[<-hFi]at hM2;have hlN:Fi.length=F.length+i:=(by rw[hFi];simp;omega);have HFi:=aQ hFi;have qJ:=aQ hlN;clear hFi;by_cases hlt:i<from_.length
      .have hlt':((i:Int)<(from_.length:Int)):=by omega
       obtain⟨xsN,xG,MV⟩:=hM2.nodes;obtain⟨aN,zX,rfl,aq0,aqZ⟩:=bH xG;obtain⟨xs,hrow,hnr⟩:=Zh.rows;obtain⟨L,R,e1,e2,e3,e4,e5,e6⟩:=hnr i (by simpa using hlt);rw[fT]at e3 e4;obtain⟨aX,cX,rfl,-⟩:=id e3;obtain⟨aY,cY,rfl,-⟩:=id e4;have cx:=(hrow.cellAt (i*2) (by omega)).trans e1;have cy:=(hrow.cellAt (i*2+1) (by omega)).trans e2;have cf1:wr.cell? ⟨gf,i,none⟩=some (.int .i64 ((from_[i]:Nat):Int)):=(by rw[Zh.Pm.cellAt i (by omega)];simp[dD,hlt]);have Ll:from_[i]<root+1:=((HL.out.mem _).1 (ai hlt)).1;obtain⟨av,hav⟩:∃a,at2[from_[i]]?=some a:=⟨_,aa (l:=at2) (i:=from_[i]) (by omega)⟩;have cat:wr.cell? ⟨jk,from_[i],none⟩=some (.int .i64 ((av:Nat):Int)):=(by rw[hM2.ZI.cellAt _ (by omega)];simp[dD,hav]);have fat:=hM2.ZI.frozenAt from_[i];have co:=cell_of_row wr o 0 _ _ _ hM2.out;have Ae:=aQ hM2;have ahn:=aQ Zh;have CO:=aQ Vy;have HK2:=aQ hK2;have HXR:=aQ Ll;clear hM2 Zh Vy hK2 xG MV hrow hnr e1 e2;generalize hxd:from_[i]=xd at *;have hxi:((xd:Nat):Int)<(root:Int)+1:=(by have:=HXR.out;omega);clear hlN;go_wp2_with fail
       refine bV (λw'=>w'.cell? ⟨gf,i,none⟩=some (.int .i64 ((xd:Nat):Int))/\w'.cell? ⟨o,0,none⟩=some (.slice aN Fi.length zX)) [9] Ma (by kernel_rfl) ⟨by kernel_rfl,by kernel_rfl,by kernel_rfl⟩ ⟨cf1,co⟩ (λaz ah=>?_);(refine bT 0 az ah ?_;refine bT 1 az ah ?_;refine bT 2 az ah ?_;refine bT 3 az ah ?_;refine bT 4 az ah ?_;refine bT 5 az ah ?_;refine bT 6 az ah ?_;refine bT 7 az ah ?_;refine bT 8 az ah ?_);refine nU az [9] [_] ?_;go_wp2_with fail
       obtain⟨yK,hk3⟩:=Ae.out.setAt xd Fi.length;generalize wr.setCell ⟨jk,xd,none⟩ (.int .i64 ((Fi.length:Nat):Int))=W at *;have VB:=ahn.out.keep hk3 (λ_ h=>h) (λ_ k=>.inl k);have R3:=bI CO.out hk3 (λb hb k=>by simp[Value.ownBlock]at hb;subst hb;exact HK2.out k);have hdr:Ext W W.drew:=⟨rfl,rfl,rfl,ay _,λ_ _=>rfl⟩;have ake:Ext W W.drew.drew:=⟨rfl,rfl,rfl,ay _,λ_ _=>rfl⟩;obtain⟨xsN,xG,MV⟩:=yK.nodes;have iX:xsN.length=Fi.length*2:=xG.1;obtain⟨xs,hrow,hnr⟩:=VB.rows;obtain⟨L,R,e1,e2,e3,e4,e5,e6⟩:=hnr i (by simpa using hlt);rw[fT,hxd]at e3 e4;obtain⟨aX,cX,rfl,-⟩:=id e3;obtain⟨aY,cY,rfl,-⟩:=id e4;have cx:=(hrow.cellAt (i*2) (by omega)).trans e1;have cy:=(hrow.cellAt (i*2+1) (by omega)).trans e2;have co:=cell_of_row W o 0 _ _ _ yK.out;have ao:=yK.a1;have agl:gl≠o/\∀b,Value.ownBlock (.slice aN Fi.length zX)=some b->gl≠b:=⟨λe=>VB.k1 gl rfl (.inl e),λb hb e=>VB.k1 gl rfl (.inr (.inr (.inr (by rw[hb,e]))))⟩;have X4:=aQ yK;have amf:=aQ VB;have HN3:=aQ R3;have HK3:=aQ hk3;have HRN:=aQ xG;have HNR:=aQ MV;have E3:=aQ e3;have E4:=aQ e4;have E5:=aQ e5;have E6:=aQ e6;clear yK hk3 VB R3 xG MV hrow hnr e1 e2 e3 e4 e5 e6 Ae ahn CO ah fat cat cf1;refine bV (λw'=>w'.cell? ⟨gl,i*2,none⟩=some (.slice aX (dD (Xn D at_ xd).1).length cX)/\w'.cell? ⟨gl,i*2+1,none⟩=some (.slice aY (dD (Xn D at_ xd).2).length cY)/\w'.cell? ⟨o,0,none⟩=some (.slice aN Fi.length zX)) [7,8,9] L9 (by kernel_rfl) ⟨by kernel_rfl,by kernel_rfl,by kernel_rfl⟩ ⟨cx,cy,co⟩ (λaz ah=>?_);(refine bT 0 az ah ?_;refine bT 1 az ah ?_;refine bT 2 az ah ?_;refine bT 3 az ah ?_;refine bT 4 az ah ?_;refine bT 5 az ah ?_);(refine nM az (i:=6) λK hK=>?_;go_simp);have hx6:Ext W (W.alloc (.cells #[.slice aX (dD (Xn D at_ xd).1).length cX,.slice aY (dD (Xn D at_ xd).2).length cY] 89)).drew.drew:=Below.drew (Below.drew (by go_grown));have hq6:(W.alloc (.cells #[.slice aX (dD (Xn D at_ xd).1).length cX,.slice aY (dD (Xn D at_ xd).2).length cY] 89)).heap[W.heap.size]?=some (.cells #[.slice aX (dD (Xn D at_ xd).1).length cX,.slice aY (dD (Xn D at_ xd).2).length cY] 89 (0,0)):=heap_alloc_new _ _;refine hK.out _ _ (λ_=>⟨(hx6.cell (lt_of_cell cx)).trans cx,(hx6.cell (lt_of_cell cy)).trans cy,(hx6.cell (lt_of_cell co)).trans co⟩) ?_;clear hK K;(try simp only[nP]);refine nU az [7,8,9] [_,_,_] ?_;have hzW:=hx6.size;have hlN:=qJ.out;refine dC rfl (.tmp 134) (.tmp 139) 26 rfl w.heap.size 89 i1 (.agg #[.slice none 0 0,.slice none 0 0]) 2 48 underlying26 hi1 hy0 hy1 hy2 rfl (by decide) (.slice aN Fi.length zX) Fi.length xsN rfl (bY HRN.out hx6) _ 1 _ [.slice aX (dD (Xn D at_ xd).1).length cX,.slice aY (dD (Xn D at_ xd).2).length cY] rfl rfl (.inr ⟨⟨W.heap.size,0,none⟩,rfl,JF (q:=W.heap.size) hq6⟩) uS (by unfold maxLen;omega) (by omega) (by have:=X4.out.ext.size;omega) ?_;intro v7 w7 BF DR YW;obtain⟨hM7,O5,hK7⟩:=X4.out.push (wd:=W.drew.drew) HNR.out iX ake rfl E3.out E4.out E5.out E6.out DR BF YW;have co7:w7.cell? ⟨o,0,none⟩=some (.slice aN Fi.length zX):=DR.cell ((hx6.cell (lt_of_cell co)).trans co) (λe=>ao e.symm);have hb7:w7.heap[o]?=some (.cells #[.slice aN Fi.length zX] 28 (0,0)):=by
        rw[DR.block o (bz (lt_of_cell co) hzW) (λe=>ao e.symm),hx6.block o (lt_of_cell co)];exact X4.out.out
       have fo7:=frozen_of_row w7 o 0 _ _ hb7;obtain⟨a7,asz,rfl,_,_⟩:=bH BF;have ahT:=(HN3.out.lt xY rfl).2;clear BF DR YW hb7 hlN;(try simp only[nP]);go_wp2_with fail
       go_roundw
       case rel=>
        have hX:(from_.map (Xn D at_)).take (i+1)=(from_.map (Xn D at_)).take i++[Xn D at_ xd]:=by
         rw[bg (by simpa using hlt),fT,hxd]
        refine⟨i+1,_,at2.set xd Fi.length,by omega,by go_num,?_,amf.out.keep O5 (λ_ h=>h) hK7,bI HN3.out O5 (λb hb k=>?_),λk=>?_,by simpa using hl2,?_,?_⟩
        .rw[hX,<-dA,<-HFi.out];exact hM7
        .simp[Value.ownBlock]at hb;subst hb;exact HK2.out k
        .rcases hK7 _ k with k|k
         .exact HK2.out k
         .omega
        .exact Ml HL.out.nd hlt hxd (by rw[hl2];exact HXR.out) qJ.out HA.out
        .exact Mm hlt hxd HA2.out
       case measure=>simp[intOf];omega
      .have hie:i=from_.length:=by omega
       have hlt':¬((i:Int)<(from_.length:Int)):=(by omega);have Gq:=aQ hie;have Ae:=aQ hM2;clear hie hM2;go_wp2
       go_roundw
       case rel=>
        refine⟨b+1,vN2,F++from_.map (Xn D at_),idx++from_,at2,by go_num,by omega,HF.out.next HB.out.good HL.out hl2 (λj hj=>HA.out j hj (by have:=Gq.out;omega)) (λy hy=>HA2.out y (λj hj _ e=>hy (e ▸ ai hj))),?_,Vy,hK2⟩;have h:=Ae.out;rw[HFi.out,bU (by have:=Gq.out;simp;omega)]at h;exact h
       case measure=>simp[intOf];omega
  .have hbe:b=born (vl D root)+1:=by omega
   have aq9:¬((b:Int)<=(born (vl D root):Int)):=(by omega);obtain⟨xsN,xG,MV⟩:=hM.nodes;obtain⟨aN,zX,rfl,_,_⟩:=bH xG;have co:=cell_of_row wo o 0 _ _ _ hM.out;have cr:=cell_of_row wo w.heap.size 0 _ _ _ hM.res;rw[hbe]at hF;have hfin:=hF.last HB.out.good hr;have hks:=dV (w:=wo) (p:=⟨w.heap.size,0,none⟩) (v:=.slice aN F.length zX);have Ke:=bI xG hks (λb hb e=>hM.a3 (by rw[hb,e]));have aff:=MV.keep hks (λb e=>.inr (.inr (.inl e))) (λb k=>.inl k);have hres:=fu.eD Ke aff;have VF:Ext w (wo.setCell ⟨w.heap.size,0,none⟩ (.slice aN F.length zX)):=hE.setCell (p:=⟨w.heap.size,0,none⟩) (ay _) _;have cr2:=World.cell?_setCell_same wo ⟨w.heap.size,0,none⟩ (.slice aN F.length zX) cr;have hh:=heap_setCell_same wo w.heap.size 0 _ _ (.slice aN F.length zX) hM.res;have HH:Hid ((wo.setCell ⟨w.heap.size,0,none⟩ (.slice aN F.length zX)).heap[w.heap.size]?=some (.cells #[.slice aN F.length zX] 28 (0,0))):=hh;have ahA:=aQ hfin;have Ry:=aQ hres;have HEW:=aQ VF;clear hF hM xG MV Ke aff hks BG hK Wp hfin hres VF hbe hh;go_wp2
   (try simp only[Exit.inBlock,Exit.then]);refine bodyPost_ret (results_cell_row rfl _ _ w.heap.size 28 #[.slice aN F.length zX] (0,0) _ rfl HH.out underlying28 rfl (by kernel_rfl)) rfl ?_;exact⟨_,rfl,F,Ry.out,ahA.out.1,ahA.out.2,HEW.out⟩
end Go.Proofs.YteknjeohbcgpdaaGreatDoor