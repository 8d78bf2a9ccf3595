/- 12 -/
import Derived.Test.YtplgooajigigkaaGreatDoorK11
set_option maxRecDepth 100000
set_option maxHeartbeats 4000000
namespace Go.Proofs.YtplgooajigigkaaGreatDoor
open Tryz
open Go.RowKit
open bE (dh Nd vl nc born)
variable {w w' W W' w4:World} {D:dh} {at_ from_ at2:List Nat} {m p q i root xd n N:Nat} {L R v v' v3 x:Value} {xs:List Value} {K:Nat->Prop}
theorem fB.air{pb:Nat}{vn vb:Value}(h:fB w pb vn vb D)(h0:0<D.length):
 ∃gb cb,vb=.slice (some ⟨gb,0,none⟩) D.length cb/\∀W,Ext w W->W.cell? ⟨pb,1,none⟩=some (.slice (some ⟨gb,0,none⟩) D.length cb)/\∀x,x<D.length->W.cell? ⟨gb,x,none⟩=some (.int .i64 (bE.born (vl D x):Int)):=by
 obtain⟨gb,cb,rfl,_,_,_⟩:=h.yE h0;refine⟨gb,cb,rfl,λW hW=>⟨(h.ext hW).cell1,λx hx=>?_⟩⟩;obtain⟨g,c,e,_,_,hc⟩:=(h.ext hW).yE hx;simp only[il,bU,Addr.mk.injEq,and_true,true_and]at e;obtain⟨rfl,rfl⟩:=e;exact hc
theorem Er(at_ l:List Nat):UL (dB at_) (dB l)=dB (l.map λx=>at_.getD x 0):=by
 unfold UL dB;rw[jg,jg];refine dC λx _=>?_
 simp only[Function.comp,jl,jB,ek,bD];cases at_[x]? <;> rfl
theorem ZB(hm:m<D.length):kL (UL (dB at_) (dB (D[m]).1))=dB (Xn D at_ m).1/\kL (UL (dB at_) (dB (D[m]).2))=dB (Xn D at_ m).2:=by
 rw[Er,Er,lV,lV,Xn,qU hm,pU hm];exact⟨rfl,rfl⟩
theorem vQ(g:bE.Good D)(hm:m<D.length):(D[m]).1.length<=m/\(D[m]).2.length<=m:=by
 have h:=g.xD _ (ai hm);have hw:=g.wf m _ (af hm);exact⟨jW (lW h.1) hw.1,jW (lW h.2) hw.2⟩
def Gn(w:World)(p:Nat)(L R:Value):Prop:=w.heap[p]?=some (.cells #[L,R] 91 (0,0))
theorem Gn.ext(h:Gn w p L R)(hx:Ext w w'):Gn w' p L R:=by unfold Gn at *;rw[hx.block p (bW h)];exact h
theorem Il{wr:World}{vB vD:Value}{l r:List Int}(jQ:Ext wr W)(hpz:wr.heap.size<=p)(hP:Gn W p L R)(hIB:Ints W vB l)(DC:Ints W vD r)
 (hfB:∀b,vB.ownBlock=some b->wr.heap.size<=b/\b<W.heap.size) (uR:∀b,vD.ownBlock=some b->wr.heap.size<=b/\b<W.heap.size) (hBp:∀b,vB.ownBlock=some b->b≠p) (hDp:∀b,vD.ownBlock=some b->b≠p):
 Ext wr ((W.setCell ⟨p,0,none⟩ vB).setCell ⟨p,1,none⟩ vD)/\Gn ((W.setCell ⟨p,0,none⟩ vB).setCell ⟨p,1,none⟩ vD) p vB vD/\Ints ((W.setCell ⟨p,0,none⟩ vB).setCell ⟨p,1,none⟩ vD) vB l/\Ints ((W.setCell ⟨p,0,none⟩ vB).setCell ⟨p,1,none⟩ vD) vD r/\
 (∀b,vB.ownBlock=some b->wr.heap.size<=b/\b<((W.setCell ⟨p,0,none⟩ vB).setCell ⟨p,1,none⟩ vD).heap.size)/\(∀b,vD.ownBlock=some b->wr.heap.size<=b/\b<((W.setCell ⟨p,0,none⟩ vB).setCell ⟨p,1,none⟩ vD).heap.size):=by
 have e:∀k,k≠p->((W.setCell ⟨p,0,none⟩ vB).setCell ⟨p,1,none⟩ vD).heap[k]?=W.heap[k]?:=λk hk=>by rw[tQ _ _ _ _ (by exact hk),tQ _ _ _ _ (by exact hk)]
 refine⟨(jQ.setCell (p:=⟨p,0,none⟩) hpz _).setCell (p:=⟨p,1,none⟩) hpz _,?_,hIB.keep (λb _ hb=>e b (hBp b hb)),DC.keep (λb _ hb=>e b (hDp b hb)),by simpa using hfB,by simpa using uR⟩;exact gK _ _ _ _ _ _ (gK _ _ _ _ _ _ hP)
theorem Gn.grown(h:Gn W q L R)(hg:W.grownBy W' v.ownBlock)(hq:∀b,v.ownBlock=some b->b≠q):Gn W' q L R:=by
 unfold Gn at *;rw[hg.block q (bW h) (λe=>hq q e.symm rfl)];exact h
theorem aab(h:Gn W q L R)(hl:pX W v v')(hq:∀b,v.ownBlock=some b->b≠q):∀b,v'.ownBlock=some b->b≠q:=by
 intro b hb e;have hlt:=bW h;rcases hl with h1|⟨g,h1,h2⟩
 .exact hq b (by rw[<-h1];exact hb) e
 .rw[h1]at hb;injection hb with hb;omega
theorem La(h:Gn W q L R):∀j u,([L,R]:List Value)[j]?=some u->W.cell? ((⟨q,0,none⟩:Addr).add j)=some u:=by
 intro j u hj;have e:(⟨q,0,none⟩:Addr).add j=⟨q,j,none⟩:=by simp[Addr.add];intro h;omega
 rw[e,bQ W q j _ _ _ h]
 simpa using hj
theorem LK{w3:World}{X:Nat->Nd}(LW:W.ownsRow w3.heap.size 91 2 v3 (i+1+(from_.length-i)) (xs.take (i*2)++[L,R]++(xs.drop (i*2)).take ((from_.length-i)*2)))
 (hnr:jE w3 xs (from_.map X) w.heap.size K) (jQ:Ext w3 W) (hxl:xs.length=from_.length*2) (hi:i<=from_.length) (hB:Ints w3 L (dB (X m).1)) (hD:Ints w3 R (dB (X m).2))
 (bL:∀b,L.ownBlock=some b->w.heap.size<=b/\b<w3.heap.size/\¬K b) (bR:∀b,R.ownBlock=some b->w.heap.size<=b/\b<w3.heap.size/\¬K b) (hw:w.heap.size<=w3.heap.size):
 ∃g cap xs',v3=.slice (some ⟨g,0,none⟩) (from_.length+1) cap/\Ext w3 W/\w3.heap.size<=g/\W.ownsRow w.heap.size 91 2 v3 (from_.length+1) xs'/\jE W xs' ((from_.take i++m :: from_.drop i).map X) w.heap.size K:=by
 have ht:(xs.drop (i*2)).take ((from_.length-i)*2)=xs.drop (i*2):=dJ (by rw[xH];omega);rw[show i+1+(from_.length-i)=from_.length+1 by omega,ht,dY]at LW;obtain⟨g,cap,rfl,h1,h2,_⟩:=iy LW (by omega);have hn:=hnr.insert (by simpa using hxl) (i:=i) (by simpa using hi) hB hD bL bR;rw[show(from_.map X).take i++X m :: (from_.map X).drop i=(from_.take i++m :: from_.drop i).map X by simp[List.map_take,List.map_drop]]at hn;exact⟨g,cap,_,rfl,jQ,(LW.lt g rfl).1,qd LW hw,hn.ext jQ⟩
def Uy(w:World)(q:Nat)(v:Value):Prop:=w.heap[q]?=some (.cells #[v] 3 (0,0))
theorem Uy.ext(h:Uy w q v)(hx:Ext w w'):Uy w' q v:=by unfold Uy at *;rw[hx.block q (bW h)];exact h
theorem Uy.grown(h:Uy W q x)(hg:W.grownBy W' v.ownBlock)(hq:∀b,v.ownBlock=some b->b≠q):Uy W' q x:=by
 unfold Uy at *;rw[hg.block q (bW h) (λe=>hq q e.symm rfl)];exact h
theorem Wm(h:Uy W q x)(hl:pX W v v')(hq:∀b,v.ownBlock=some b->b≠q):∀b,v'.ownBlock=some b->b≠q:=by
 intro b hb e;have hlt:=bW h;rcases hl with h1|⟨g,h1,h2⟩
 .exact hq b (by rw[<-h1];exact hb) e
 .rw[h1]at hb;injection hb with hb;omega
theorem LJ(h:W.ownsRow w4.heap.size 3 1 v3 (i+1+(from_.length-i)) (((dB from_).map (Value.int .i64)).take i++[.int .i64 ((m:Nat):Int)]++(((dB from_).map (Value.int .i64)).drop i).take (from_.length-i)))(jQ:Ext w4 W)(hi:i<=from_.length)(hw:w.heap.size<=w4.heap.size):
 ∃g cap,v3=.slice (some ⟨g,0,none⟩) (from_.length+1) cap/\Ext w4 W/\w4.heap.size<=g/\W.ownsRow w.heap.size 3 1 v3 (from_.length+1) ((dB (from_.take i++m :: from_.drop i)).map (Value.int .i64)):=by
 have ht:(((dB from_).map (Value.int .i64)).drop i).take (from_.length-i)=((dB from_).map (Value.int .i64)).drop i:=dJ (by simp[bG]);rw[show i+1+(from_.length-i)=from_.length+1 by omega,ht]at h;have e:(dB (from_.take i++m :: from_.drop i)).map (Value.int .i64)=((dB from_).map (Value.int .i64)).take i++[.int .i64 ((m:Nat):Int)]++((dB from_).map (Value.int .i64)).drop i:=by
  simp[dB,List.map_take,List.map_drop]
 obtain⟨g,cap,rfl,h1,h2,_⟩:=iy h (by omega);exact⟨g,cap,rfl,jQ,(h.lt g rfl).1,by rw[e];exact qd h hw⟩
theorem RS{wo:World}{F:dh}{idx:List Nat}{b g5 c5:Nat}{xs5:List Value}(g:bE.Good D)(hF:pY D root F idx at_ b)(hr:root<D.length)(hL:zD D root at_ b from_ m)(OG:bE.Reach D root m)(hbm:born (vl D m)=b)(hmt:m<=root)
 (hi:i<=from_.length) (h1:∀j (hj:j<from_.length),j<i->nc (Xn D at_ from_[j]) (Xn D at_ m)<0) (h2:∀hl:i<from_.length,¬nc (Xn D at_ from_[i]) (Xn D at_ m)<0) (hx:Ext wo w4) (jQ:Ext w4 W)
 (aap:w4.ownsRow w.heap.size 91 2 (.slice (some ⟨g5,0,none⟩) (from_.length+1) c5) (from_.length+1) xs5) (aau:jE w4 xs5 ((from_.take i++m :: from_.drop i).map (Xn D at_)) w.heap.size K) (hg5:wo.heap.size<=g5)
 (hT:∃g cap,v3=.slice (some ⟨g,0,none⟩) (from_.length+1) cap/\Ext w4 W/\w4.heap.size<=g/\W.ownsRow w.heap.size 3 1 v3 (from_.length+1) ((dB (from_.take i++m :: from_.drop i)).map (Value.int .i64))) (hK:∀b,K b->b<wo.heap.size):
 ∃m' from',m'<=root+1/\Value.int .i64 ((m:Int)+1)=.int .i64 ((m':Nat):Int)/\zD D root at_ b from' m'/\Ext wo W/\Uj w W K (.slice (some ⟨g5,0,none⟩) (from_.length+1) c5) v3 from' (Xn D at_):=by
 obtain⟨g6,c6,rfl,_,hg6,ak6⟩:=hT;have hl:(from_.take i++m :: from_.drop i).length=from_.length+1:=by simp;omega
 have hz:=hx.size;refine⟨m+1,from_.take i++m :: from_.drop i,by omega,by simp,hL.put g hF hr OG hbm hi h1 h2,ah hx jQ,⟨⟨xs5,?_,aau.ext jQ⟩,?_,λb hb k=>?_,λb hb k=>?_,?_,?_⟩⟩
 .rw[hl];exact dD aap jQ
 .rw[hl];exact ak6
 .simp[Value.ownBlock]at hb;subst hb;have:=hK _ k;omega
 .simp[Value.ownBlock]at hb;subst hb;have:=hK _ k;omega
 .rw[hl];exact⟨_,_,rfl⟩
 .rw[hl];exact⟨_,_,rfl⟩
theorem NP(hn:from_.Nodup)(hlt:i<from_.length)(hx:from_[i]=xd)(hl:xd<at2.length)(hN:N=n+i)(h:∀j (h:j<from_.length),j<i->at2[from_[j]]?=some (n+j)):
 Hid (∀j (h:j<from_.length),j<i+1->(at2.set xd N)[from_[j]]?=some (n+j)):=by
 intro j hj hji;by_cases e:j=i
 .subst e
  rw[hx,l5,if_pos rfl,if_pos hl,hN]
 .rw[l5,if_neg (λe2=>e (Cq hn hj hlt (by rw[hx,e2])))]
  exact h j hj (by omega)
theorem NQ(hlt:i<from_.length)(hx:from_[i]=xd)(h:∀y,(∀j (h:j<from_.length),j<i->from_[j]≠y)->at2[y]?=at_[y]?):
 Hid (∀y,(∀j (h:j<from_.length),j<i+1->from_[j]≠y)->(at2.set xd N)[y]?=at_[y]?):=by
 intro y hy;rw[l5,if_neg (λe=>hy i hlt (by omega) (by rw[hx,e]))];exact h y (λj hj hji=>hy j hj (by omega))
theorem VK{B e size:Nat}(h:w.ownsRow B e size v n xs):w.ownsRow 0 e size v n xs:=by
 obtain⟨hl,h⟩:=h;refine⟨hl,?_⟩;rcases h with h|⟨g,cap,cur,h1,hb,h2⟩
 .exact .inl h
 .exact .inr ⟨g,cap,cur,h1,aU _,h2⟩
theorem zF.start{w1 w2:World}(hx1:Ext (w.alloc (.cells #[.slice none 0 0] 30)) w1)(ho2:w2.ownsRow w.heap.size 3 1 (.slice (some ⟨w1.heap.size,0,none⟩) (root+1) (root+1)) (root+1) ((dB (List.replicate (root+1) 0)).map (Value.int .i64)))(hg2:w1.grownBy w2 none):
 zF w ((w2.alloc (.cells #[] 91)).alloc (.cells #[.slice (some ⟨w2.heap.size,0,none⟩) 0 0] 30)) (w2.heap.size+1) w1.heap.size (.slice (some ⟨w2.heap.size,0,none⟩) 0 0) root [] (List.replicate (root+1) 0):=by
 have z1:=hx1.size;rw[fU]at z1;have z2:=(ho2.lt w1.heap.size rfl).2;have hx2:Ext w1 w2:=eU (gz _ _) hg2 (by simp);have hx0:Ext w w2:=ah (ah (by go_grown) hx1) hx2;have hx3:Ext w2 ((w2.alloc (.cells #[] 91)).alloc (.cells #[.slice (some ⟨w2.heap.size,0,none⟩) 0 0] 30)):=by go_grown
 have r0:(w.alloc (.cells #[.slice none 0 0] 30)).heap[w.heap.size]?=some (.cells #[.slice none 0 0] 30 (0,0)):=eu _ _;refine⟨ah hx0 hx3,?_,dD ho2 hx3,?_,⟨[],?_,jE.nil _ _ _⟩,?_,?_,?_,?_,?_,?_,?_⟩
 .rw[hx3.block _ (by omega),hx2.block _ (by omega),hx1.block _ (by rw[fU];omega)];exact r0
 .have:=eu (w2.alloc (.cells #[] 91)) (.cells #[.slice (some ⟨w2.heap.size,0,none⟩) 0 0] 30);rw[fU]at this;exact this
 .exact(World.ownsRow_made w2 #[] 0 (by omega) (by decide) (by simp)).alloc _
 .simp[Value.ownBlock]
 .simp[Value.ownBlock];omega
 .simp[Value.ownBlock];omega
 .omega
 .omega
 .omega
 .omega
def NK:List Row:=[⟨0,[],58,[6]⟩,⟨1,[],59,[0]⟩,⟨2,[1],60,[58]⟩,⟨3,[2],61,[59]⟩,⟨4,[3],62,[60]⟩,⟨5,[],63,[11]⟩,⟨6,[4,5],64,[61,62]⟩,⟨7,[6],65,[63]⟩,⟨8,[7],66,[64]⟩,⟨9,[0,8],67,[57,65]⟩,⟨10,[9,9],68,[66]⟩,⟨11,[],69,[6]⟩,⟨12,[],70,[0]⟩,⟨13,[12],71,[69]⟩,⟨14,[13],72,[70]⟩,⟨15,[14],73,[71]⟩,⟨16,[],74,[11]⟩,⟨17,[15,16],75,[72,73]⟩,⟨18,[17],76,[74]⟩,⟨19,[18],77,[75]⟩,⟨20,[11,19,10],78,[68,76]⟩,⟨21,[20,20],79,[77]⟩,⟨22,[10,21],80,[67,78]⟩,⟨23,[],13,[]⟩,⟨24,[23,22,21,0,1,2,3,4,5,6,7,8,9,10,11,12,13,14,15,16,17,18,19,20,21,22,23],0,[12,79]⟩]
def zW:List Row:=[⟨0,[],81,[13]⟩,⟨1,[],82,[9]⟩,⟨2,[1],83,[81]⟩,⟨3,[0,2],84,[80,82]⟩,⟨4,[3],85,[83]⟩,⟨5,[4],86,[9,84]⟩,⟨6,[4],87,[13,84]⟩,⟨7,[5,6,4],88,[85,86,84]⟩,⟨8,[7,4],89,[87,84]⟩,⟨9,[4],90,[12,84]⟩,⟨10,[8,9,4,4],91,[88,89,84]⟩,⟨11,[4,10],92,[84,90]⟩]
def NJ:List Row:=[⟨0,[],95,[]⟩,⟨1,[],96,[9]⟩,⟨2,[],97,[13]⟩,⟨3,[1,2],98,[95,96]⟩,⟨4,[0,3],99,[94,97]⟩,⟨5,[],100,[12]⟩,⟨6,[5],101,[99]⟩,⟨7,[4,6,4],102,[98,100]⟩,⟨8,[],103,[9]⟩,⟨9,[],104,[13]⟩,⟨10,[8,9],105,[102,103]⟩,⟨11,[7,10,7],106,[101,104]⟩,⟨12,[11,11,0,1,2,3,4,5,6,7,8,9,10,11],10,[105]⟩]
def NI:List Row:=[⟨0,[],107,[]⟩,⟨1,[],108,[10]⟩,⟨2,[],109,[13]⟩,⟨3,[1,2],110,[107,108]⟩,⟨4,[0,3],111,[106,109]⟩,⟨5,[],112,[11]⟩,⟨6,[5],113,[111]⟩,⟨7,[4,6,4],114,[110,112]⟩,⟨8,[],115,[10]⟩,⟨9,[],116,[13]⟩,⟨10,[8,9],117,[114,115]⟩,⟨11,[7,10,7],118,[113,116]⟩,⟨12,[11,11,0,1,2,3,4,5,6,7,8,9,10,11],11,[117]⟩]
def NH:List Row:=[⟨0,[],125,[6]⟩,⟨1,[],126,[10]⟩,⟨2,[],127,[14]⟩,⟨3,[1,2],128,[125,126]⟩,⟨4,[3],129,[127]⟩,⟨5,[],130,[7]⟩,⟨6,[5],131,[129]⟩,⟨7,[6],132,[130]⟩,⟨8,[0,4,0,1,2,3,4,5,6,7],133,[124,128]⟩,⟨9,[8,7,0,1,2,3,4,5,6,7],0,[132,131]⟩]
def NG:List Row:=[⟨0,[],134,[7]⟩,⟨1,[0],135,[133]⟩,⟨2,[],136,[9]⟩,⟨3,[],137,[14]⟩,⟨4,[2,3],138,[135,136]⟩,⟨5,[4],139,[137]⟩,⟨6,[5],140,[138]⟩,⟨7,[1,6],141,[134,139]⟩,⟨8,[0,1,2,3,4,5,6,7],142,[7]⟩,⟨9,[8,7,7,0,1,2,3,4,5,6,7],0,[141,140]⟩]
theorem vU(pb:Nat)(vn vb:Value)(D:dh)(root:Nat)(w:World)(hB:fB w pb vn vb D)(hr:root<D.length):
 Calls prog 70 #[.pointer (some ⟨pb,0,none⟩),.int .i64 root] w λe w'=>∃vN F,e=.returned (.agg #[vN])/\dI w' w.heap.size vN F/\bE.bI F/\bE.Same (bE.bz F) (vl D root)/\Ext w w':=by
 have hds:=hB.small;obtain⟨i0,hi0,hz0,hz1,hz2⟩:=info_parts iU;obtain⟨i1,hi1,hy0,hy1,hy2⟩:=info_parts vG;have hw:IntKind.i64.wrap ((root:Int)+1)=(root:Int)+1:=by rw[IntKind.wrap_i64];omega
 go_enter Tryz.func70,Tryz.ntmps70
 go_wp2_with (go_at_call 119;refine(K5 pb vn vb D root _ (hB.ext (by go_grown)) hr).mono ?_;rintro e w1 ⟨aoB,bs,rfl,ack,Di,hx1⟩;obtain⟨w2,hmk,ho2,hg2⟩:=run_make_full (P:=prog) w1 w.heap.size 41 3 i0 (.int .i64 0) 1 underlying41 hi0 hz0 hz1 .i64 .i64 (root+1) (by rw[hz2];omega) (by unfold maxLen;omega) (by have:=hx1.size;rw[fU]at this;omega);rw[show(((root+1:Nat)):Int)=(root:Int)+1 by omega]at hmk)
 have ho2:w2.ownsRow w.heap.size 3 1 (.slice (some ⟨w1.heap.size,0,none⟩) (root+1) (root+1)) (root+1) ((dB (List.replicate (root+1) 0)).map (Value.int .i64)):=by
  rw[kT]at ho2;rw[dB,List.map_replicate,List.map_replicate,<-toList_madeCells_one];exact ho2
 have hM0:=zF.start hx1 ho2 hg2;obtain⟨zM,Ye,rfl,_,_,_⟩:=iy Di (by omega);have zn:=Di.lt zM rfl;have z1:=hx1.size;have z2:=hg2.size;have z1':w.heap.size+1<=w1.heap.size:=by rw[fU]at z1;exact z1
 have zn':w.heap.size+1<=zM/\zM<w1.heap.size:=by rw[fU]at zn;exact zn
 have hx2:Ext w1 ((w2.alloc (.cells #[] 91)).alloc (.cells #[.slice (some ⟨w2.heap.size,0,none⟩) 0 0] 30)):=ah (eU (gz _ _) hg2 (by simp)) (by go_grown);have JA:=dD Di hx2;have hK0:¬KF w (w2.heap.size+1) w1.heap.size (.slice (some ⟨w2.heap.size,0,none⟩) 0 0) zM:=by
  rintro(e|e|e|e)
  .omega
  .omega
  .omega
  .simp[Value.ownBlock]at e;omega
 obtain⟨gb,cb,rfl,XA⟩:=hB.air (by omega);have HBX:=aW XA;have HB:=aW hB;have Y2:=aW ack;obtain⟨gn,cn,_,_,_,_,rfl,_⟩:=hB.VX hr;have hst:=pY.start D root;obtain⟨Wb,hWb⟩:=fu (w.alloc (.cells #[.slice none 0 0] 30));have JA:((w2.alloc (.cells #[] 91)).alloc (.cells #[.slice (some ⟨w2.heap.size,0,none⟩) 0 0] 30)).ownsRow 0 4 1 (.slice (some ⟨zM,0,none⟩) (root+1) Ye) (root+1) (bs.map Value.bool):=VK JA;clear hWb Wb hx2 z1 z2 zn z1' zn' Di ho2 hg2 hmk hx1 ack XA hB;generalize ((w2.alloc (.cells #[] 91)).alloc (.cells #[.slice (some ⟨w2.heap.size,0,none⟩) 0 0] 30))=W0 at *;generalize Value.slice (some ⟨w2.heap.size,0,none⟩) 0 0=vN0 at *;generalize w2.heap.size+1=o at *;generalize w1.heap.size=sP at *;obtain⟨at0,ahk⟩:=fu (List.replicate (root+1) 0);rw[<-ahk]at hst hM0;clear ahk;have hBl:=bE.oC HB.out.good.wf root;have hnX:=λ(i:Nat) (hi:i<D.length)=>HB.out.VX hi
 have Dm:=aW hnX;clear hnX;go_loopw [8] (λbb wr=>∃b vN F idx at_,bb=.int .i64 ((b:Nat):Int)/\b<=born (vl D root)+1/\pY D root F idx at_ b/\zF w wr o sP vN root F at_/\wr.ownsRow 0 4 1 (.slice (some ⟨zM,0,none⟩) (root+1) Ye) (root+1) (bs.map Value.bool)/\¬KF w o sP vN zM) (λbb _=>born (vl D root)+1-(intOf bb).toNat)
 case atStart=>exact⟨0,vN0,[],[],at0,rfl,aU _,hst,hM0,JA,hK0⟩
 case round=>
  clear hst hM0 JA hK0;obtain⟨b,vN,F,idx,at_,rfl,hb,hF,hM,Di,hK⟩:=hrel;obtain⟨wo,rfl⟩:∃wo:World,wo=wr:=⟨_,rfl⟩;have hE:=hM.ext;obtain⟨cb1,cb2⟩:=HBX.out _ hE;have cbr:=cb2 root hr;have hfz:=gQ wo w.heap.size 0 _ _ hM.res;by_cases hbt:b<=born (vl D root)
  .have HM:=aW hM
   have HF:=aW hF;have HN:=aW Di;have HK:=aW hK;clear hM hF Di hK cb2;go_wp2
   go_loopw [9,10,11,12,13] (λlv fv kk _ _ w2=>∃m from_,m<=root+1/\kk=.int .i64 ((m:Nat):Int)/\zD D root at_ b from_ m/\Ext wo w2/\Uj w w2 (KF w o sP vN) lv fv from_ (Xn D at_)) (λ_ _ kk _ _ _=>root+1-(intOf kk).toNat)
   case atStart=>
    have hkl:=HM.out.klt;refine⟨0,[],aU _,rfl,zD.start _ _ _ _,by go_grown,⟨⟨[],?_,jE.nil _ _ _⟩,?_,λb hb k=>?_,λb hb k=>?_,⟨_,_,rfl⟩,⟨_,_,rfl⟩⟩⟩
    .exact(World.ownsRow_made wo #[] 0 hE.size (by decide) (by simp)).alloc _
    .exact og wo _ _ hE.size _
    .simp[Value.ownBlock]at hb;subst hb;have:=hkl _ k;omega
    .simp[Value.ownBlock]at hb;subst hb;have:=hkl _ k;omega
   case round=>
    obtain⟨m,from_,hm,rfl,hL,hx,hLM⟩:=hrel;obtain⟨wm,rfl⟩:∃wm:World,wm=wr:=⟨_,rfl⟩;by_cases hmt:m<=root
    .have hmr:m<root+1:=by omega
     have hmD:m<D.length:=(by omega);have hEm:=ah hE hx;obtain⟨bv,hbv⟩:∃b,bs[m]?=some b:=⟨_,af (by rw[Y2.out.len];omega)⟩;have ahb:=BP (dD HN.out hx) hmr hbv;have Xx:=(HBX.out _ hEm).2 m hmD;have ahc:=(HBX.out _ hEm).1;have HL:=aW hL;have HX:=aW hx;have J7:=aW hLM;clear hL hx hLM;cases bv with
     |false=>
      go_wp2
      go_roundw
      case rel=>exact⟨m+1,from_,by omega,by go_num,HL.out.skip (λh=>by have:=(Y2.out.all m).2 h.1;rw[hbv]at this;cases this),HX.out,J7.out⟩
      case measure=>simp[intOf];omega
     |true=>
      by_cases hbm:born (vl D m)=b
      ·
       have OG:Hid (bE.Reach D root m):=(Y2.out.all m).1 hbv;rw[hbm]at Xx;clear hbv;obtain⟨g',c',aL,cL,aR,cR,he,hN⟩:=Dm.out m hmD;simp only[il,bU,Addr.mk.injEq,and_true,true_and]at he;obtain⟨rfl,rfl⟩:=he;have HS:=aW hN;obtain⟨p0,p1,p2,p3,p4⟩:=hN _ hEm;have JJ:wm.cell? ⟨pb,0,none⟩=some (.slice (some ⟨gn,0,none⟩) D.length cn)/\wm.cell? ⟨gn,m*2,none⟩=some (.slice aL (D[m]).1.length cL)/\wm.cell? ⟨gn,m*2+1,none⟩=some (.slice aR (D[m]).2.length cR):=⟨p0,p1,p2⟩;clear hN;go_wp2_with fail
       go_cut [12] (λx wc=>∃p aB n cB aD k cD,x=.pointer (some ⟨p,0,none⟩)/\Ext wm wc/\wm.heap.size<=p/\Gn wc p (.slice aB n cB) (.slice aD k cD)/\Ints wc (.slice aB n cB) (dB (Xn D at_ m).1)/\Ints wc (.slice aD k cD) (dB (Xn D at_ m).2)/\(∀b,Value.ownBlock (.slice aB n cB)=some b->wm.heap.size<=b/\b<wc.heap.size)/\(∀b,Value.ownBlock (.slice aD k cD)=some b->wm.heap.size<=b/\b<wc.heap.size))
       case first=>
        refine oJ (λw'=>w'.cell? ⟨pb,0,none⟩=some (.slice (some ⟨gn,0,none⟩) D.length cn)/\w'.cell? ⟨gn,m*2,none⟩=some (.slice aL (D[m]).1.length cL)/\w'.cell? ⟨gn,m*2+1,none⟩=some (.slice aR (D[m]).2.length cR)) [24] NK JJ (λaj ae=>?_);(refine bP 0 aj ae ?_;refine bP 1 aj ae ?_;refine bP 2 aj ae ?_;refine bP 3 aj ae ?_;refine bP 4 aj ae ?_;refine bP 5 aj ae ?_;refine bP 6 aj ae ?_;refine bP 7 aj ae ?_;refine bP 8 aj ae ?_;refine bP 11 aj ae ?_;refine bP 12 aj ae ?_;refine bP 13 aj ae ?_;refine bP 14 aj ae ?_;refine bP 15 aj ae ?_;refine bP 16 aj ae ?_;refine bP 17 aj ae ?_;refine bP 18 aj ae ?_;refine bP 19 aj ae ?_);have mI:∀W,Ext wm W->W.cell? ⟨pb,0,none⟩=some (.slice (some ⟨gn,0,none⟩) D.length cn)/\W.cell? ⟨gn,m*2,none⟩=some (.slice aL (D[m]).1.length cL)/\W.cell? ⟨gn,m*2+1,none⟩=some (.slice aR (D[m]).2.length cR):=λW h=>by obtain⟨q0,q1,q2,-,-⟩:=HS.out W (ah hEm h);exact⟨q0,q1,q2⟩
        have hLs:∀W,Ext wm W->Ints W (.slice aL (D[m]).1.length cL) (dB (D[m]).1):=λW h=>(HS.out W (ah hEm h)).2.2.2.1
        have hRs:∀W,Ext wm W->Ints W (.slice aR (D[m]).2.length cR) (dB (D[m]).2):=λW h=>(HS.out W (ah hEm h)).2.2.2.2
        have ahj:=HF.out.atl;have hAt:∀W,Ext wm W->Ints W (.slice (some ⟨sP,0,none⟩) (root+1) (root+1)) (dB at_):=λW h=>(Ints.gm (l:=dB at_) HM.out.atr (by rw[bG];omega)).ext (ah HX.out h)
        have hgl:=vQ HB.out.good hmD;have af6:(dB (D[m]).1).length<=1000000000:=(by rw[bG];omega);have af5:(dB (D[m]).2).length<=1000000000:=(by rw[bG];omega);have hwm:=HB.out.good.wf m _ (af hmD);have Yu:∀x,x∈dB (D[m]).1->0<=x/\x<(dB at_).length:=λx hx=>by obtain⟨n,hn,rfl⟩:=o9 hx;have:=hwm.1 n hn;rw[bG,ahj];omega
        have PO:∀x,x∈dB (D[m]).2->0<=x/\x<(dB at_).length:=λx hx=>by obtain⟨n,hn,rfl⟩:=o9 hx;have:=hwm.2 n hn;rw[bG,ahj];omega
        obtain⟨xl1,xl2⟩:=ZB (at_:=at_) hmD;have jQ:Ext wm wm.drew:=⟨rfl,rfl,rfl,aJ _,λ_ _=>rfl⟩;obtain⟨W,hW⟩:=fu wm.drew;rw[<-hW]at jQ ae ⊢;clear hW;have tV:=True.intro;refine gX aj (i:=9) (j:=23) (by kernel_rfl) ?fa1 ?fb1
        case' fb1=>
         (refine ui (i:=23) λK hK=>?_;go_simp);have jS:Ext W (W.alloc (.cells #[.slice none 0 0,.slice none 0 0] 91)):=(by go_grown);have zJ:Gn (W.alloc (.cells #[.slice none 0 0,.slice none 0 0] 91)) W.heap.size (.slice none 0 0) (.slice none 0 0):=eu _ _;have hpz:wm.heap.size<=W.heap.size:=jQ.size;(try have hBp:=λb hb=>jY (hfB b hb).2);(try have hDp:=λb hb=>jY (uR b hb).2);(try replace JI:=JI.ext jS);(try replace hIB:=hIB.ext jS);(try replace GK:=GK.ext jS);(try replace DC:=DC.ext jS);(try replace hP:=hP.ext jS);(try replace hfB:=λb hb=>And.intro (hfB b hb).1 (bg (hfB b hb).2 jS.size));(try replace uR:=λb hb=>And.intro (uR b hb).1 (bg (uR b hb).2 jS.size));replace jQ:=ah jQ jS;have ae:=mI _ jQ;have hP:=zJ;clear zJ;refine hK.out _ _ (λ_=>ae) ?_;clear hK K;(try simp only[nP]);generalize W.alloc (.cells #[.slice none 0 0,.slice none 0 0] 91)=W1 at *;generalize W.heap.size=p at *;clear jS;obtain⟨W,rfl⟩:=fu W1;clear tV
        case' fa1=>(refine ui (i:=9) λK hK=>?_;go_simp)
        all_goals
         first
          |(have hNP:=tV;clear hNP)
          |(refine jv aj (i:=9) λK hK=>?_;go_simp)
         refine(vw _ _ (dB at_) (dB (D[m]).1) _ (hAt _ jQ) (hLs _ jQ) Yu af6).mono ?_;rintro e W ⟨vA,rfl,amD,jS⟩;(try replace JI:=JI.ext jS);(try replace hIB:=hIB.ext jS);(try replace GK:=GK.ext jS);(try replace DC:=DC.ext jS);(try replace hP:=hP.ext jS);(try replace hfB:=λb hb=>And.intro (hfB b hb).1 (bg (hfB b hb).2 jS.size));(try replace uR:=λb hb=>And.intro (uR b hb).1 (bg (uR b hb).2 jS.size));replace jQ:=ah jQ jS;have ae:=mI _ jQ;have JI:=amD;refine hK.out _ _ (λ_=>ae) ?_;clear hK K;(try simp only[nP])
        refine gX aj (i:=10) (j:=23) (by kernel_rfl) ?fa2 ?fb2
        case' fb2=>
         (refine ui (i:=23) λK hK=>?_;go_simp);have jS:Ext W (W.alloc (.cells #[.slice none 0 0,.slice none 0 0] 91)):=(by go_grown);have zJ:Gn (W.alloc (.cells #[.slice none 0 0,.slice none 0 0] 91)) W.heap.size (.slice none 0 0) (.slice none 0 0):=eu _ _;have hpz:wm.heap.size<=W.heap.size:=jQ.size;(try have hBp:=λb hb=>jY (hfB b hb).2);(try have hDp:=λb hb=>jY (uR b hb).2);(try replace JI:=JI.ext jS);(try replace hIB:=hIB.ext jS);(try replace GK:=GK.ext jS);(try replace DC:=DC.ext jS);(try replace hP:=hP.ext jS);(try replace hfB:=λb hb=>And.intro (hfB b hb).1 (bg (hfB b hb).2 jS.size));(try replace uR:=λb hb=>And.intro (uR b hb).1 (bg (uR b hb).2 jS.size));replace jQ:=ah jQ jS;have ae:=mI _ jQ;have hP:=zJ;clear zJ;refine hK.out _ _ (λ_=>ae) ?_;clear hK K;(try simp only[nP]);generalize W.alloc (.cells #[.slice none 0 0,.slice none 0 0] 91)=W1 at *;generalize W.heap.size=p at *;clear jS;obtain⟨W,rfl⟩:=fu W1;clear tV
        case' fa2=>(refine ui (i:=10) λK hK=>?_;go_simp)
        all_goals
         first
          |(have hNP:=tV;clear hNP)
          |(refine jv aj (i:=10) λK hK=>?_;go_simp)
         refine(Bw _ _ _ JI (by rw[JW];exact af6)).mono ?_;rintro e W ⟨vB,rfl,ad4,jS,aaE⟩;(try have hBp:∀b,vB.ownBlock=some b->b≠p:=λb hb e=>by have h1:=bW hP;have h2:=(aaE b hb).1;omega);have hfB:∀b,vB.ownBlock=some b->wm.heap.size<=b/\b<W.heap.size:=λb hb=>⟨bZ jQ.size (aaE b hb).1,(aaE b hb).2⟩
         clear aaE;rw[xl1]at ad4;obtain⟨aB,cB,rfl,-⟩:=id ad4;(try replace JI:=JI.ext jS);(try replace hIB:=hIB.ext jS);(try replace GK:=GK.ext jS);(try replace DC:=DC.ext jS);(try replace hP:=hP.ext jS);(try replace hfB:=λb hb=>And.intro (hfB b hb).1 (bg (hfB b hb).2 jS.size));(try replace uR:=λb hb=>And.intro (uR b hb).1 (bg (uR b hb).2 jS.size));replace jQ:=ah jQ jS;have ae:=mI _ jQ;have hIB:=ad4;refine hK.out _ _ (λ_=>ae) ?_;clear hK K;(try simp only[nP])
        refine gX aj (i:=20) (j:=23) (by kernel_rfl) ?fa3 ?fb3
        case' fb3=>
         (refine ui (i:=23) λK hK=>?_;go_simp);have jS:Ext W (W.alloc (.cells #[.slice none 0 0,.slice none 0 0] 91)):=(by go_grown);have zJ:Gn (W.alloc (.cells #[.slice none 0 0,.slice none 0 0] 91)) W.heap.size (.slice none 0 0) (.slice none 0 0):=eu _ _;have hpz:wm.heap.size<=W.heap.size:=jQ.size;(try have hBp:=λb hb=>jY (hfB b hb).2);(try have hDp:=λb hb=>jY (uR b hb).2);(try replace JI:=JI.ext jS);(try replace hIB:=hIB.ext jS);(try replace GK:=GK.ext jS);(try replace DC:=DC.ext jS);(try replace hP:=hP.ext jS);(try replace hfB:=λb hb=>And.intro (hfB b hb).1 (bg (hfB b hb).2 jS.size));(try replace uR:=λb hb=>And.intro (uR b hb).1 (bg (uR b hb).2 jS.size));replace jQ:=ah jQ jS;have ae:=mI _ jQ;have hP:=zJ;clear zJ;refine hK.out _ _ (λ_=>ae) ?_;clear hK K;(try simp only[nP]);generalize W.alloc (.cells #[.slice none 0 0,.slice none 0 0] 91)=W1 at *;generalize W.heap.size=p at *;clear jS;obtain⟨W,rfl⟩:=fu W1;clear tV
        case' fa3=>(refine ui (i:=20) λK hK=>?_;go_simp)
        all_goals
         first
          |(have hNP:=tV;clear hNP)
          |(refine jv aj (i:=20) λK hK=>?_;go_simp)
         refine(vw _ _ (dB at_) (dB (D[m]).2) _ (hAt _ jQ) (hRs _ jQ) PO af5).mono ?_;rintro e W ⟨vC,rfl,amC,jS⟩;(try replace JI:=JI.ext jS);(try replace hIB:=hIB.ext jS);(try replace GK:=GK.ext jS);(try replace DC:=DC.ext jS);(try replace hP:=hP.ext jS);(try replace hfB:=λb hb=>And.intro (hfB b hb).1 (bg (hfB b hb).2 jS.size));(try replace uR:=λb hb=>And.intro (uR b hb).1 (bg (uR b hb).2 jS.size));replace jQ:=ah jQ jS;have ae:=mI _ jQ;have GK:=amC;refine hK.out _ _ (λ_=>ae) ?_;clear hK K;(try simp only[nP])
        refine gX aj (i:=21) (j:=23) (by kernel_rfl) ?fa4 ?fb4
        case' fb4=>
         (refine ui (i:=23) λK hK=>?_;go_simp);have jS:Ext W (W.alloc (.cells #[.slice none 0 0,.slice none 0 0] 91)):=(by go_grown);have zJ:Gn (W.alloc (.cells #[.slice none 0 0,.slice none 0 0] 91)) W.heap.size (.slice none 0 0) (.slice none 0 0):=eu _ _;have hpz:wm.heap.size<=W.heap.size:=jQ.size;(try have hBp:=λb hb=>jY (hfB b hb).2);(try have hDp:=λb hb=>jY (uR b hb).2);(try replace JI:=JI.ext jS);(try replace hIB:=hIB.ext jS);(try replace GK:=GK.ext jS);(try replace DC:=DC.ext jS);(try replace hP:=hP.ext jS);(try replace hfB:=λb hb=>And.intro (hfB b hb).1 (bg (hfB b hb).2 jS.size));(try replace uR:=λb hb=>And.intro (uR b hb).1 (bg (uR b hb).2 jS.size));replace jQ:=ah jQ jS;have ae:=mI _ jQ;have hP:=zJ;clear zJ;refine hK.out _ _ (λ_=>ae) ?_;clear hK K;(try simp only[nP]);generalize W.alloc (.cells #[.slice none 0 0,.slice none 0 0] 91)=W1 at *;generalize W.heap.size=p at *;clear jS;obtain⟨W,rfl⟩:=fu W1;clear tV
        case' fa4=>(refine ui (i:=21) λK hK=>?_;go_simp)
        all_goals
         first
          |(have hNP:=tV;clear hNP)
          |(refine jv aj (i:=21) λK hK=>?_;go_simp)
         refine(Bw _ _ _ GK (by rw[JW];exact af5)).mono ?_;rintro e W ⟨vD,rfl,ad3,jS,aaD⟩;(try have hDp:∀b,vD.ownBlock=some b->b≠p:=λb hb e=>by have h1:=bW hP;have h2:=(aaD b hb).1;omega);have uR:∀b,vD.ownBlock=some b->wm.heap.size<=b/\b<W.heap.size:=λb hb=>⟨bZ jQ.size (aaD b hb).1,(aaD b hb).2⟩
         clear aaD;rw[xl2]at ad3;obtain⟨aD,cD,rfl,-⟩:=id ad3;(try replace JI:=JI.ext jS);(try replace hIB:=hIB.ext jS);(try replace GK:=GK.ext jS);(try replace DC:=DC.ext jS);(try replace hP:=hP.ext jS);(try replace hfB:=λb hb=>And.intro (hfB b hb).1 (bg (hfB b hb).2 jS.size));(try replace uR:=λb hb=>And.intro (uR b hb).1 (bg (uR b hb).2 jS.size));replace jQ:=ah jQ jS;have ae:=mI _ jQ;have DC:=ad3;refine hK.out _ _ (λ_=>ae) ?_;clear hK K;(try simp only[nP])
        all_goals
         (refine bP 22 aj ae ?_)
        (refine jv aj (i:=23) λK hK=>?_;go_simp);have jS:Ext W (W.alloc (.cells #[.slice none 0 0,.slice none 0 0] 91)):=(by go_grown);have zJ:Gn (W.alloc (.cells #[.slice none 0 0,.slice none 0 0] 91)) W.heap.size (.slice none 0 0) (.slice none 0 0):=eu _ _;have hpz:wm.heap.size<=W.heap.size:=jQ.size;(try have hBp:=λb hb=>jY (hfB b hb).2);(try have hDp:=λb hb=>jY (uR b hb).2);(try replace JI:=JI.ext jS);(try replace hIB:=hIB.ext jS);(try replace GK:=GK.ext jS);(try replace DC:=DC.ext jS);(try replace hP:=hP.ext jS);(try replace hfB:=λb hb=>And.intro (hfB b hb).1 (bg (hfB b hb).2 jS.size));(try replace uR:=λb hb=>And.intro (uR b hb).1 (bg (uR b hb).2 jS.size));replace jQ:=ah jQ jS;have ae:=mI _ jQ;have hP:=zJ;clear zJ;refine hK.out _ _ (λ_=>ae) ?_;clear hK K;(try simp only[nP]);generalize W.alloc (.cells #[.slice none 0 0,.slice none 0 0] 91)=W1 at *;generalize W.heap.size=p at *;clear jS;obtain⟨W,rfl⟩:=fu W1
        all_goals
         have q0:W.cell? ⟨p,0,none⟩=some (.slice none 0 0):=bQ W p 0 _ _ _ hP;have q1:W.cell? ⟨p,1,none⟩=some (.slice none 0 0):=bQ W p 1 _ _ _ hP;have q2:=gQ W p 0 _ _ hP;have q3:=gQ W p 1 _ _ hP;refine nQ aj [24] [_] ?_;go_wp2_with fail
         go_meet
         case rel=>exact⟨p,aB,_,cB,aD,_,cD,rfl,(Il jQ hpz hP hIB DC hfB uR hBp hDp).1,hpz,(Il jQ hpz hP hIB DC hfB uR hBp hDp).2⟩
       case rest=>
        obtain⟨p,aB,nB,cB,aD,nD,cD,rfl,Cx,hpz,hP,hIB,DC,hfB,uR⟩:=hcut;obtain⟨gl,cl_,rfl⟩:=J7.out.s1;obtain⟨gf,cf,rfl⟩:=J7.out.s2;have HP:=aW hP;have HIB:=aW hIB;have HID:=aW DC;have HfB:=aW hfB;have HfD:=aW uR;have HXC:=aW Cx;have hp0:wc.cell? ⟨p,0,none⟩=some (.slice aB nB cB):=bQ wc p 0 _ _ _ hP;have hp1:wc.cell? ⟨p,1,none⟩=some (.slice aD nD cD):=bQ wc p 1 _ _ _ hP;have hll:from_.length<=root+1:=jW HL.out.nd (λx hx=>by have:=((HL.out.mem x).1 hx).1;omega);clear hP hIB DC hfB uR Cx p0 p1 p2 p3 p4 JJ ahb Xx ahc;go_upto_block 4 with fail
        go_cut [13] (λii w3=>∃i,i<=from_.length/\ii=.int .i64 ((i:Nat):Int)/\Ext wc w3/\(∀j (h:j<from_.length),j<i->nc (Xn D at_ from_[j]) (Xn D at_ m)<0)/\(∀h:i<from_.length,¬nc (Xn D at_ from_[i]) (Xn D at_ m)<0))
        case first=>
         go_wp2_with fail
         go_loopw [13] (λii w3=>∃i,i<=from_.length/\ii=.int .i64 ((i:Nat):Int)/\Ext wc w3/\Hid (∀j (h:j<from_.length),j<i->nc (Xn D at_ from_[j]) (Xn D at_ m)<0)) (λii _=>from_.length-(intOf ii).toNat)
         case atStart=>exact⟨0,aU _,rfl,gz _ _,λj _ h=>absurd h (by omega)⟩
         case round=>
          obtain⟨i,hi,rfl,hx3,HNC⟩:=hrel;have OB:=ah HXC.out hx3;have hP3:=HP.out.ext hx3;have hp0:wr.cell? ⟨p,0,none⟩=some (.slice aB nB cB):=bQ wr p 0 _ _ _ hP3;have hp1:wr.cell? ⟨p,1,none⟩=some (.slice aD nD cD):=bQ wr p 1 _ _ _ hP3;clear hP3;by_cases hlt:i<from_.length
          .obtain⟨xs,hrow,hnr⟩:=J7.out.rows
           have hrow3:=dD hrow OB;have agD:=hnr.ext OB;obtain⟨L,R,e1,e2,e3,e4,-,-⟩:=agD i (by simpa using hlt);rw[kJ]at e3 e4;obtain⟨aX,cX,rfl,-⟩:=id e3;obtain⟨aY,cY,rfl,-⟩:=id e4;have cx:=(hrow3.cellAt (i*2) (by omega)).trans e1;have cy:=(hrow3.cellAt (i*2+1) (by omega)).trans e2;have RI:=aW e3;have HE4:=aW e4;have P7:=aW hx3;clear hrow hnr hrow3 agD e1 e2 e3 e4 OB hx3;by_cases hnc:nc (Xn D at_ from_[i]) (Xn D at_ m)<0
           .have hd:decide (nc (Xn D at_ from_[i]) (Xn D at_ m)<0)=true:=decide_eq_true hnc
            have HNL:=aW hnc;clear hnc;go_wp2_with fail
            refine oJ (λw'=>w'.cell? ⟨gl,i*2,none⟩=some (.slice aX (dB (Xn D at_ from_[i]).1).length cX)/\w'.cell? ⟨gl,i*2+1,none⟩=some (.slice aY (dB (Xn D at_ from_[i]).2).length cY)/\w'.cell? ⟨p,0,none⟩=some (.slice aB nB cB)/\w'.cell? ⟨p,1,none⟩=some (.slice aD nD cD)) [10,11] zW ⟨cx,cy,hp0,hp1⟩ (λaj ae=>?_);(refine bP 0 aj ae ?_;refine bP 1 aj ae ?_;refine bP 2 aj ae ?_;refine bP 3 aj ae ?_;refine bP 4 aj ae ?_;refine bP 5 aj ae ?_;refine bP 6 aj ae ?_;refine bP 7 aj ae ?_;refine bP 8 aj ae ?_;refine bP 9 aj ae ?_);refine nQ aj [10,11] [_,_] ?_;go_wp2_with (go_at_call 121;refine(zG _ _ _ _ (Xn D at_ from_[i]) (Xn D at_ m) _ (RI.out.ext (by go_grown)) (HE4.out.ext (by go_grown)) (HIB.out.ext (ah P7.out (by go_grown))) (HID.out.ext (ah P7.out (by go_grown)))).mono ?_;rintro e w4 ⟨rfl,hx4⟩;rw[hd])
            go_roundw
            case rel=>exact⟨i+1,by omega,by go_num,ah P7.out (ah (by go_grown) hx4),λj hj hji=>by
             by_cases e:j=i
             .subst e;exact HNL.out
             .exact HNC.out j hj (by omega)⟩
            case measure=>simp[intOf];omega
           .have hd:decide (nc (Xn D at_ from_[i]) (Xn D at_ m)<0)=false:=decide_eq_false hnc
            have HNL:=aW hnc;clear hnc;go_wp2_with fail
            refine oJ (λw'=>w'.cell? ⟨gl,i*2,none⟩=some (.slice aX (dB (Xn D at_ from_[i]).1).length cX)/\w'.cell? ⟨gl,i*2+1,none⟩=some (.slice aY (dB (Xn D at_ from_[i]).2).length cY)/\w'.cell? ⟨p,0,none⟩=some (.slice aB nB cB)/\w'.cell? ⟨p,1,none⟩=some (.slice aD nD cD)) [10,11] zW ⟨cx,cy,hp0,hp1⟩ (λaj ae=>?_);(refine bP 0 aj ae ?_;refine bP 1 aj ae ?_;refine bP 2 aj ae ?_;refine bP 3 aj ae ?_;refine bP 4 aj ae ?_;refine bP 5 aj ae ?_;refine bP 6 aj ae ?_;refine bP 7 aj ae ?_;refine bP 8 aj ae ?_;refine bP 9 aj ae ?_);refine nQ aj [10,11] [_,_] ?_;go_wp2_with (go_at_call 121;refine(zG _ _ _ _ (Xn D at_ from_[i]) (Xn D at_ m) _ (RI.out.ext (by go_grown)) (HE4.out.ext (by go_grown)) (HIB.out.ext (ah P7.out (by go_grown))) (HID.out.ext (ah P7.out (by go_grown)))).mono ?_;rintro e w4 ⟨rfl,hx4⟩;rw[hd])
            go_meet
            case rel=>exact⟨i,by omega,rfl,ah P7.out (ah (by go_grown) hx4),HNC.out,λ_=>by have:=HNL.out;omega⟩
          .have hie:i=from_.length:=by omega
           have hlt':¬((i:Int)<(from_.length:Int)):=(by omega);go_wp2_with fail
           refine oJ (λw'=>w'.cell? ⟨p,0,none⟩=some (.slice aB nB cB)) [11] zW hp0 (λaj ae=>?_);(refine bP 0 aj ae ?_;refine bP 1 aj ae ?_;refine bP 2 aj ae ?_;refine bP 3 aj ae ?_;refine bP 4 aj ae ?_);((refine dK aj (i:=5) (oi:=_) (v:=undef) (by simp only[gE];rfl) (by kernel_rfl) (by exact λ_ _ _ h=>h) ae (Or.inr ⟨by rfl,rfl⟩) ?r53);(try simp only[nP]);(refine dK aj (i:=6) (oi:=_) (v:=undef) (by simp only[gE];rfl) (by kernel_rfl) (by exact λ_ _ _ h=>h) ae (Or.inr ⟨by rfl,rfl⟩) ?r54);(try simp only[nP]);(refine dK aj (i:=7) (oi:=_) (v:=undef) (by simp only[gE];rfl) (by kernel_rfl) (by exact λ_ _ _ h=>h) ae (Or.inr ⟨by rfl,rfl⟩) ?r55);(try simp only[nP]);(refine dK aj (i:=8) (oi:=_) (v:=undef) (by simp only[gE];rfl) (by kernel_rfl) (by exact λ_ _ _ h=>h) ae (Or.inr ⟨by rfl,rfl⟩) ?r56);(try simp only[nP]);(refine dK aj (i:=9) (oi:=_) (v:=undef) (by simp only[gE];rfl) (by kernel_rfl) (by exact λ_ _ _ h=>h) ae (Or.inr ⟨by rfl,rfl⟩) ?r57);(try simp only[nP]);(refine dK aj (i:=10) (oi:=_) (v:=undef) (by simp only[gE];rfl) (by kernel_rfl) (by exact λ_ _ _ h=>h) ae (Or.inr ⟨by rfl,rfl⟩) ?r58);(try simp only[nP]));refine nQ aj [11] [_] ?_;go_wp2_with fail
           go_meet
           case rel=>exact⟨from_.length,aJ _,rfl,ah hx3 (by go_grown),λj hj _=>HNC.out j hj (by omega),λh=>absurd h (by omega)⟩
        case rest=>
         obtain⟨i,hi,rfl,hx3,HNC,hne⟩:=hcut;obtain⟨w3,rfl⟩:∃w3:World,w3=wc:=⟨_,rfl⟩;have OB:=ah HXC.out hx3;have hP3:=HP.out.ext hx3;have hp0:w3.cell? ⟨p,0,none⟩=some (.slice aB nB cB):=bQ w3 p 0 _ _ _ hP3;have hp1:w3.cell? ⟨p,1,none⟩=some (.slice aD nD cD):=bQ w3 p 1 _ _ _ hP3;obtain⟨xs,hrow,hnr⟩:=J7.out.rows;have hrow3:=dD hrow OB;have hxl:xs.length=from_.length*2:=hrow.1;obtain⟨hcap1,hcap2⟩:from_.length<=cl_/\cl_<=maxLen:=(by obtain⟨_,_,e,h1,h2⟩:=bT hrow3;simp only[il]at e;obtain⟨_,_,rfl⟩:=e;exact⟨h1,h2⟩);have hone:=hnr.one (by simpa using hxl);have Zx:=aW hnr;have aiJ:=aW hrow3;have abE:=aW OB;have anU:=aW HNC;have HNE:=aW hne;have P7:=aW hx3;have apL:i<=cl_:=(by omega);clear hP3 hrow hnr hrow3 OB HNC hne hx3;go_wp2_with fail
         go_cut [9] (λlv w4=>∃g cap xs',lv=.slice (some ⟨g,0,none⟩) (from_.length+1) cap/\Ext w3 w4/\w3.heap.size<=g/\w4.ownsRow w.heap.size 91 2 lv (from_.length+1) xs'/\jE w4 xs' ((from_.take i++m :: from_.drop i).map (Xn D at_)) w.heap.size (KF w o sP vN))
         case first=>
          have mI:∀W,Ext w3 W->W.cell? ⟨p,0,none⟩=some (.slice aB nB cB)/\W.cell? ⟨p,1,none⟩=some (.slice aD nD cD):=λW h=>⟨fw h hp0,fw h hp1⟩
          have anT:=Zx.out.ext abE.out;have HB3:=HIB.out.ext P7.out;have HD3:=HID.out.ext P7.out;have hz3:=P7.out.size;have hkl:=HM.out.klt;have hzm:=HX.out.size;have Uz:=hE.size;have anu:∀b,Value.ownBlock (.slice aB nB cB)=some b->w.heap.size<=b/\b<w3.heap.size/\¬KF w o sP vN b:=λb hb=>⟨by have:=(HfB.out b hb).1;omega,by have:=(HfB.out b hb).2;omega,λk=>by have:=hkl b k;have:=(HfB.out b hb).1;omega⟩
          have anr:∀b,Value.ownBlock (.slice aD nD cD)=some b->w.heap.size<=b/\b<w3.heap.size/\¬KF w o sP vN b:=λb hb=>⟨by have:=(HfD.out b hb).1;omega,by have:=(HfD.out b hb).2;omega,λk=>by have:=hkl b k;have:=(HfD.out b hb).1;omega⟩
          have hw3:w.heap.size<=w3.heap.size:=(by have:=abE.out.size;omega);refine oJ (λw'=>w'.cell? ⟨p,0,none⟩=some (.slice aB nB cB)/\w'.cell? ⟨p,1,none⟩=some (.slice aD nD cD)) [11,12] NJ ⟨hp0,hp1⟩ (λaj ae=>?_);(refine bP 1 aj ae ?_;refine bP 2 aj ae ?_;refine bP 3 aj ae ?_;refine bP 5 aj ae ?_;refine bP 8 aj ae ?_;refine bP 9 aj ae ?_;refine bP 10 aj ae ?_);have jQ:Ext w3 w3.drew:=⟨rfl,rfl,rfl,aJ _,λ_ _=>rfl⟩;obtain⟨W,hW⟩:=fu w3.drew;rw[<-hW]at jQ ae ⊢;clear hW;have tV:=True.intro;refine gX aj (i:=0) (j:=6) (by kernel_rfl) ?fa5 ?fb5
          case' fb5=>
           (refine ui (i:=6) λK hK=>?_;go_simp);have jS:Ext W (W.alloc (.cells #[.slice aB nB cB,.slice aD nD cD] 91)):=(by go_grown);have zJ:Gn (W.alloc (.cells #[.slice aB nB cB,.slice aD nD cD] 91)) W.heap.size (.slice aB nB cB) (.slice aD nD cD):=eu _ _;(try have Tk:=λb hb=>jY (hro.lt b hb).2);(try replace hro:=dD hro jS);have hP:=zJ;clear zJ;replace jQ:=ah jQ jS;have ae:=mI _ jQ;refine hK.out _ _ (λ_=>ae) ?_;clear hK K;(try simp only[nP]);generalize W.alloc (.cells #[.slice aB nB cB,.slice aD nD cD] 91)=W1 at *;generalize W.heap.size=q at *;clear jS;obtain⟨W,rfl⟩:=fu W1;clear tV
          case' fa5=>(refine ui (i:=0) λK hK=>?_;go_simp)
          all_goals
           first
            |(have hNP:=tV;clear hNP)
            |(refine jv aj (i:=0) λK hK=>?_;go_simp)
           have jS:Ext W (W.alloc (.cells #[] 91)):=(by go_grown);have zy:(W.alloc (.cells #[] 91)).ownsRow w3.heap.size 91 2 (.slice (some ⟨W.heap.size,0,none⟩) 0 0) 0 []:=World.ownsRow_made W #[] 0 jQ.size (by decide) (by simp);(try have Tk:∀b,Value.ownBlock (.slice (some ⟨W.heap.size,0,none⟩) 0 0)=some b->b≠q:=λb hb e=>by have h1:=bW hP;simp[Value.ownBlock]at hb;omega);(try replace hP:=hP.ext jS);have hro:=zy;clear zy;replace jQ:=ah jQ jS;have ae:=mI _ jQ;refine hK.out _ _ (λ_=>ae) ?_;clear hK K;(try simp only[nP]);generalize W.alloc (.cells #[] 91)=W1 at *;generalize W.heap.size=h0 at *;clear jS;obtain⟨W,rfl⟩:=fu W1
          refine gX aj (i:=4) (j:=6) (by kernel_rfl) ?fa6 ?fb6
          case' fb6=>
           (refine ui (i:=6) λK hK=>?_;go_simp);have jS:Ext W (W.alloc (.cells #[.slice aB nB cB,.slice aD nD cD] 91)):=(by go_grown);have zJ:Gn (W.alloc (.cells #[.slice aB nB cB,.slice aD nD cD] 91)) W.heap.size (.slice aB nB cB) (.slice aD nD cD):=eu _ _;(try have Tk:=λb hb=>jY (hro.lt b hb).2);(try replace hro:=dD hro jS);have hP:=zJ;clear zJ;replace jQ:=ah jQ jS;have ae:=mI _ jQ;refine hK.out _ _ (λ_=>ae) ?_;clear hK K;(try simp only[nP]);generalize W.alloc (.cells #[.slice aB nB cB,.slice aD nD cD] 91)=W1 at *;generalize W.heap.size=q at *;clear jS;obtain⟨W,rfl⟩:=fu W1;clear tV
          case' fa6=>refine ui (i:=4) λK hK=>?_
          all_goals
           first
            |(have hNP:=tV;clear hNP)
            |refine jv aj (i:=4) λK hK=>?_
           refine jf rfl (.tmp 94) (.tmp 97) 28 rfl w3.heap.size 91 i1 (.agg #[.slice none 0 0,.slice none 0 0]) 2 48 underlying28 hi1 hy0 hy1 hy2 rfl (by decide) (.slice (some ⟨h0,0,none⟩) 0 0) 0 [] rfl hro _ i _ ((xs.drop 0).take (i*2)) rfl (by simp;omega) (.inr ⟨⟨gl,0,none⟩,rfl,AU aiJ.out jQ 0 (i*2) (by omega)⟩) (λu hu=>hone u (wh (jD hu))) (by unfold maxLen;omega) (by omega) jQ.size ?_;intro v1 W OE hg1 hl1;simp only[fI,iQ,List.drop_zero]at OE;(try have adq:=aab hP hl1 Tk);(try replace hP:=Gn.grown hP hg1 Tk);(try replace Tk:=adq);replace jQ:=eU jQ hg1 (λk hk=>(hro.lt k hk).1);replace hro:=OE;clear OE;have ae:=mI _ jQ;refine hK.out _ _ (λ_=>ae) ?_;clear hK K;(try simp only[nP])
          (refine jv aj (i:=6) λK hK=>?_;go_simp);have jS:Ext W (W.alloc (.cells #[.slice aB nB cB,.slice aD nD cD] 91)):=(by go_grown);have zJ:Gn (W.alloc (.cells #[.slice aB nB cB,.slice aD nD cD] 91)) W.heap.size (.slice aB nB cB) (.slice aD nD cD):=eu _ _;(try have Tk:=λb hb=>jY (hro.lt b hb).2);(try replace hro:=dD hro jS);have hP:=zJ;clear zJ;replace jQ:=ah jQ jS;have ae:=mI _ jQ;refine hK.out _ _ (λ_=>ae) ?_;clear hK K;(try simp only[nP]);generalize W.alloc (.cells #[.slice aB nB cB,.slice aD nD cD] 91)=W1 at *;generalize W.heap.size=q at *;clear jS;obtain⟨W,rfl⟩:=fu W1
          all_goals
           refine jv aj (i:=7) λK hK=>?_
           refine jf rfl (.tmp 98) (.tmp 100) 28 rfl w3.heap.size 91 i1 (.agg #[.slice none 0 0,.slice none 0 0]) 2 48 underlying28 hi1 hy0 hy1 hy2 rfl (by decide) v1 i (xs.take (i*2)) rfl hro _ 1 _ [.slice aB nB cB,.slice aD nD cD] rfl rfl (.inr ⟨⟨q,0,none⟩,rfl,La hP⟩) xO (by unfold maxLen;omega) (by omega) jQ.size ?_;intro v2 W LX hg2 hl2;replace jQ:=eU jQ hg2 (λk hk=>(hro.lt k hk).1);have ae:=mI _ jQ;refine hK.out _ _ (λ_=>ae) ?_;clear hK K;(try simp only[nP]);refine jv aj (i:=11) λK hK=>?_
           refine jf rfl (.tmp 101) (.tmp 104) 28 rfl w3.heap.size 91 i1 (.agg #[.slice none 0 0,.slice none 0 0]) 2 48 underlying28 hi1 hy0 hy1 hy2 rfl (by decide) v2 (i+1) (xs.take (i*2)++[.slice aB nB cB,.slice aD nD cD]) rfl LX _ (from_.length-i) _ ((xs.drop (i*2)).take ((from_.length-i)*2)) rfl (by simp;omega) (by
            rcases ib i from_.length with h|h
            .exact .inr ⟨⟨gl,i*2,none⟩,by first|rfl|(rw[if_neg (by omega)]),AU aiJ.out jQ (i*2) ((from_.length-i)*2) (by omega)⟩
            .exact .inl (by omega)) (λu hu=>hone u (wh (jD hu))) (by unfold maxLen;omega) (by omega) jQ.size ?_
           intro v3 W LW hg3 hl3;replace jQ:=eU jQ hg3 (λk hk=>(LX.lt k hk).1);have ae:=mI _ jQ;refine hK.out _ _ (λ_=>ae) ?_;clear hK K;(try simp only[nP]);refine nQ aj [12] [_] ?_;go_wp2_with fail
           all_goals (go_meet;exact LK LW anT jQ hxl hi HB3 HD3 anu anr hw3)
         case rest=>
          obtain⟨g5,c5,xs5,rfl,hx4,hg5,aap,aau⟩:=hcut;obtain⟨w4,rfl⟩:∃w4:World,w4=wc:=⟨_,rfl⟩;have adj:=ah abE.out hx4;have adn:=dD J7.out.Rn adj;obtain⟨apO,apN⟩:from_.length<=cf/\cf<=maxLen:=(by obtain⟨_,_,e,h1,h2⟩:=bT adn;simp only[il]at e;obtain⟨_,_,rfl⟩:=e;exact⟨h1,h2⟩);have aiK:=aW adn;have aiB:=aW adj;have anD:=aW aap;have anS:=aW aau;have HX4:=aW hx4;have apM:i<=cf:=(by omega);have Tg:=hx4.size;clear hx4 aap aau adn adj hp0 hp1;go_wp2_with fail
          have hw4:w.heap.size<=w4.heap.size:=(by have:=aiB.out.size;have:=HX.out.size;have:=hE.size;omega);have mI:∀W,Ext w4 W->True:=λ_ _=>trivial
          refine oJ (λw'=>True) [11,12] NI trivial (λaj ae=>?_);(refine bP 1 aj ae ?_;refine bP 2 aj ae ?_;refine bP 3 aj ae ?_;refine bP 5 aj ae ?_;refine bP 8 aj ae ?_;refine bP 9 aj ae ?_;refine bP 10 aj ae ?_);have jQ:Ext w4 w4.drew:=⟨rfl,rfl,rfl,aJ _,λ_ _=>rfl⟩;obtain⟨W,hW⟩:=fu w4.drew;rw[<-hW]at jQ ⊢;clear hW;have tV:=True.intro;refine gX aj (i:=0) (j:=6) (by kernel_rfl) ?fa7 ?fb7
          case' fb7=>
           (refine ui (i:=6) λK hK=>?_;go_simp);have jS:Ext W (W.alloc (.cells #[.int .i64 ((m:Nat):Int)] 3)):=(by go_grown);have zJ:Uy (W.alloc (.cells #[.int .i64 ((m:Nat):Int)] 3)) W.heap.size (.int .i64 ((m:Nat):Int)):=eu _ _;(try have Tk:=λb hb=>jY (hro.lt b hb).2);(try replace hro:=dD hro jS);have hP:=zJ;clear zJ;replace jQ:=ah jQ jS;have ae:=mI _ jQ;refine hK.out _ _ (λ_=>ae) ?_;clear hK K;(try simp only[nP]);generalize W.alloc (.cells #[.int .i64 ((m:Nat):Int)] 3)=W1 at *;generalize W.heap.size=q at *;clear jS;obtain⟨W,rfl⟩:=fu W1;clear tV
          case' fa7=>(refine ui (i:=0) λK hK=>?_;go_simp)
          all_goals
           first
            |(have hNP:=tV;clear hNP)
            |(refine jv aj (i:=0) λK hK=>?_;go_simp)
           have jS:Ext W (W.alloc (.cells #[] 3)):=(by go_grown);have zy:(W.alloc (.cells #[] 3)).ownsRow w4.heap.size 3 1 (.slice (some ⟨W.heap.size,0,none⟩) 0 0) 0 []:=World.ownsRow_made W #[] 0 jQ.size (by decide) (by simp);(try have Tk:∀b,Value.ownBlock (.slice (some ⟨W.heap.size,0,none⟩) 0 0)=some b->b≠q:=λb hb e=>by have h1:=bW hP;simp[Value.ownBlock]at hb;omega);(try replace hP:=hP.ext jS);have hro:=zy;clear zy;replace jQ:=ah jQ jS;have ae:=mI _ jQ;refine hK.out _ _ (λ_=>ae) ?_;clear hK K;(try simp only[nP]);generalize W.alloc (.cells #[] 3)=W1 at *;generalize W.heap.size=h0 at *;clear jS;obtain⟨W,rfl⟩:=fu W1
          refine gX aj (i:=4) (j:=6) (by kernel_rfl) ?fa8 ?fb8
          case' fb8=>
           (refine ui (i:=6) λK hK=>?_;go_simp);have jS:Ext W (W.alloc (.cells #[.int .i64 ((m:Nat):Int)] 3)):=(by go_grown);have zJ:Uy (W.alloc (.cells #[.int .i64 ((m:Nat):Int)] 3)) W.heap.size (.int .i64 ((m:Nat):Int)):=eu _ _;(try have Tk:=λb hb=>jY (hro.lt b hb).2);(try replace hro:=dD hro jS);have hP:=zJ;clear zJ;replace jQ:=ah jQ jS;have ae:=mI _ jQ;refine hK.out _ _ (λ_=>ae) ?_;clear hK K;(try simp only[nP]);generalize W.alloc (.cells #[.int .i64 ((m:Nat):Int)] 3)=W1 at *;generalize W.heap.size=q at *;clear jS;obtain⟨W,rfl⟩:=fu W1;clear tV
          case' fa8=>refine ui (i:=4) λK hK=>?_
          all_goals
           first
            |(have hNP:=tV;clear hNP)
            |refine jv aj (i:=4) λK hK=>?_
           refine jf rfl (.tmp 106) (.tmp 109) 41 rfl w4.heap.size 3 i0 (.int .i64 0) 1 8 underlying41 hi0 hz0 hz1 hz2 rfl (by decide) (.slice (some ⟨h0,0,none⟩) 0 0) 0 [] rfl hro _ i _ ((((dB from_).map (Value.int .i64)).drop 0).take i) rfl (by simp[bG];omega) (.inr ⟨⟨gf,0,none⟩,rfl,AU aiK.out jQ 0 i (by omega)⟩) (λu hu=>lZ _ u (wh (jD hu))) (by unfold maxLen;omega) (by omega) jQ.size ?_;intro v1 W OE hg1 hl1;simp only[fI,iQ,List.drop_zero]at OE;(try have adq:=Wm hP hl1 Tk);(try replace hP:=Uy.grown hP hg1 Tk);(try replace Tk:=adq);replace jQ:=eU jQ hg1 (λk hk=>(hro.lt k hk).1);replace hro:=OE;clear OE;have ae:=mI _ jQ;refine hK.out _ _ (λ_=>ae) ?_;clear hK K;(try simp only[nP])
          (refine jv aj (i:=6) λK hK=>?_;go_simp);have jS:Ext W (W.alloc (.cells #[.int .i64 ((m:Nat):Int)] 3)):=(by go_grown);have zJ:Uy (W.alloc (.cells #[.int .i64 ((m:Nat):Int)] 3)) W.heap.size (.int .i64 ((m:Nat):Int)):=eu _ _;(try have Tk:=λb hb=>jY (hro.lt b hb).2);(try replace hro:=dD hro jS);have hP:=zJ;clear zJ;replace jQ:=ah jQ jS;have ae:=mI _ jQ;refine hK.out _ _ (λ_=>ae) ?_;clear hK K;(try simp only[nP]);generalize W.alloc (.cells #[.int .i64 ((m:Nat):Int)] 3)=W1 at *;generalize W.heap.size=q at *;clear jS;obtain⟨W,rfl⟩:=fu W1
          all_goals
           refine jv aj (i:=7) λK hK=>?_
           refine jf rfl (.tmp 110) (.tmp 112) 41 rfl w4.heap.size 3 i0 (.int .i64 0) 1 8 underlying41 hi0 hz0 hz1 hz2 rfl (by decide) v1 i (((dB from_).map (Value.int .i64)).take i) rfl hro _ 1 _ [.int .i64 ((m:Nat):Int)] rfl rfl (.inr ⟨⟨q,0,none⟩,rfl,fD (bQ W q 0 _ _ _ hP)⟩) one_cell (by unfold maxLen;omega) (by omega) jQ.size ?_;intro v2 W LX hg2 hl2;replace jQ:=eU jQ hg2 (λk hk=>(hro.lt k hk).1);have ae:=mI _ jQ;refine hK.out _ _ (λ_=>ae) ?_;clear hK K;(try simp only[nP]);refine jv aj (i:=11) λK hK=>?_
           refine jf rfl (.tmp 113) (.tmp 116) 41 rfl w4.heap.size 3 i0 (.int .i64 0) 1 8 underlying41 hi0 hz0 hz1 hz2 rfl (by decide) v2 (i+1) (((dB from_).map (Value.int .i64)).take i++[.int .i64 ((m:Nat):Int)]) rfl LX _ (from_.length-i) _ ((((dB from_).map (Value.int .i64)).drop i).take (from_.length-i)) rfl (by simp[bG]) (by
            rcases ib i from_.length with h|h
            .exact .inr ⟨⟨gf,i,none⟩,by first|rfl|(rw[if_neg (by omega)]),AU aiK.out jQ i (from_.length-i) (by omega)⟩
            .exact .inl (by omega)) (λu hu=>lZ _ u (wh (jD hu))) (by unfold maxLen;omega) (by omega) jQ.size ?_
           intro v3 W LW hg3 hl3;replace jQ:=eU jQ hg3 (λk hk=>(LX.lt k hk).1);have ae:=mI _ jQ;refine hK.out _ _ (λ_=>ae) ?_;clear hK K;(try simp only[nP]);refine nQ aj [12] [_] ?_;go_wp2_with fail
           all_goals go_roundw
           all_goals first
            |exact RS HB.out.good HF.out hr HL.out OG.out hbm hmt hi anU.out (λh=>by have:=HNE.out h;omega) (ah HX.out aiB.out) jQ anD.out anS.out (by have:=HX.out.size;have:=abE.out.size;omega) (LJ LW jQ hi hw4) HM.out.klt
            |(simp[intOf];omega)
      .have hbn:((born (vl D m):Int)== (b:Int))=false:=by rw[beq_eq_false_iff_ne];omega
       have atH:¬((born (vl D m):Int)=(b:Int)):=(by omega);go_wp2
       go_roundw
       case rel=>exact⟨m+1,from_,by omega,by go_num,HL.out.skip (λh=>hbm h.2),HX.out,J7.out⟩
       case measure=>simp[intOf];omega
    .have hme:m=root+1:=by omega
     subst hme;have hlt':¬(((root+1:Nat):Int)<=(root:Int)):=(by omega);obtain⟨gl,cl_,rfl⟩:=hLM.s1;obtain⟨gf,cf,rfl⟩:=hLM.s2;have HL:=aW hL;have hM1:=HM.out.ext' hx;have hN1:=dD HN.out hx;have hfl:from_.length<=root+1:=jW hL.nd (λx hx=>by have:=((hL.mem x).1 hx).1;omega);have Pm:F.length<=root+1:=by
      rw[<-HF.out.len];exact jW HF.out.nd (λx hx=>by have:=bE.mi HB.out.good.wf ((HF.out.mem x).1 hx).1;omega)
     clear hL hx;go_wp2
     go_loopw [14] (λii wr=>∃i vN2 at2,i<=from_.length/\ii=.int .i64 ((i:Nat):Int)/\zF w wr o sP vN2 root (F++(from_.map (Xn D at_)).take i) at2/\Uj w wr (KF w o sP vN2) (.slice (some ⟨gl,0,none⟩) from_.length cl_) (.slice (some ⟨gf,0,none⟩) from_.length cf) from_ (Xn D at_)/\
      wr.ownsRow 0 4 1 (.slice (some ⟨zM,0,none⟩) (root+1) Ye) (root+1) (bs.map Value.bool)/\¬KF w o sP vN2 zM/\at2.length=root+1/\Hid (∀j (h:j<from_.length),j<i->at2[from_[j]]?=some (F.length+j))/\Hid (∀y,(∀j (h:j<from_.length),j<i->from_[j]≠y)->at2[y]?=at_[y]?)) (λii _=>from_.length-(intOf ii).toNat)
     case atStart=>exact⟨0,vN,at_,aU _,rfl,by simpa using hM1,hLM,hN1,HK.out,HF.out.atl,λj _ h=>absurd h (by omega),λy _=>rfl⟩
     case round=>
      clear hM1 hN1 hLM;obtain⟨i,vN2,at2,hi,rfl,hM2,aaV,Ph,hK2,hl2,HA,HA2⟩:=hrel;obtain⟨Fi,hFi⟩:=fu (F++(from_.map (Xn D at_)).take i);rw[<-hFi]at hM2;have hlN:Fi.length=F.length+i:=(by rw[hFi];simp;omega);have HFi:=aW hFi;have sU:=aW hlN;clear hFi;by_cases hlt:i<from_.length
      .have hlt':((i:Int)<(from_.length:Int)):=by omega
       obtain⟨xsN,zy,OI⟩:=hM2.nodes;obtain⟨aN,BN,rfl,atz,aty⟩:=bT zy;obtain⟨xs,hrow,hnr⟩:=aaV.rows;obtain⟨L,R,e1,e2,e3,e4,e5,e6⟩:=hnr i (by simpa using hlt);rw[kJ]at e3 e4;obtain⟨aX,cX,rfl,-⟩:=id e3;obtain⟨aY,cY,rfl,-⟩:=id e4;have cx:=(hrow.cellAt (i*2) (by omega)).trans e1;have cy:=(hrow.cellAt (i*2+1) (by omega)).trans e2;have cf1:wr.cell? ⟨gf,i,none⟩=some (.int .i64 ((from_[i]:Nat):Int)):=(by rw[aaV.Rn.cellAt i (by omega)];simp[dB,hlt]);have Gh:from_[i]<root+1:=((HL.out.mem _).1 (ai hlt)).1;obtain⟨av,hav⟩:∃a,at2[from_[i]]?=some a:=⟨_,af (l:=at2) (i:=from_[i]) (by omega)⟩;have cat:wr.cell? ⟨sP,from_[i],none⟩=some (.int .i64 ((av:Nat):Int)):=(by rw[hM2.atr.cellAt _ (by omega)];simp[dB,hav]);have fat:=hM2.atr.frozenAt from_[i];have co:=bQ wr o 0 _ _ _ hM2.out;have Qa:=aW hM2;have aiY:=aW aaV;have Eu:=aW Ph;have Us:=aW hK2;have HXR:=aW Gh;clear hM2 aaV Ph hK2 zy OI hrow hnr e1 e2;generalize hxd:from_[i]=xd at *;have hxi:((xd:Nat):Int)<(root:Int)+1:=(by have:=HXR.out;omega);clear hlN;go_wp2_with fail
       refine oJ (λw'=>w'.cell? ⟨gf,i,none⟩=some (.int .i64 ((xd:Nat):Int))/\w'.cell? ⟨o,0,none⟩=some (.slice aN Fi.length BN)) [9] NH ⟨cf1,co⟩ (λaj ae=>?_);(refine bP 0 aj ae ?_;refine bP 1 aj ae ?_;refine bP 2 aj ae ?_;refine bP 3 aj ae ?_;refine bP 4 aj ae ?_;refine bP 5 aj ae ?_;refine bP 6 aj ae ?_;refine bP 7 aj ae ?_;refine bP 8 aj ae ?_);refine nQ aj [9] [_] ?_;go_wp2_with fail
       obtain⟨JG,hk3⟩:=Qa.out.setAt xd Fi.length;generalize wr.setCell ⟨sP,xd,none⟩ (.int .i64 ((Fi.length:Nat):Int))=W at *;have XR:=aiY.out.keep hk3 (λ_ h=>h) (λ_ k=>.inl k);have hN3:=bS Eu.out hk3 (λb hb k=>by simp[Value.ownBlock]at hb;subst hb;exact Us.out k);have hdr:Ext W W.drew:=⟨rfl,rfl,rfl,aJ _,λ_ _=>rfl⟩;have amb:Ext W W.drew.drew:=⟨rfl,rfl,rfl,aJ _,λ_ _=>rfl⟩;obtain⟨xsN,zy,OI⟩:=JG.nodes;have jS:xsN.length=Fi.length*2:=zy.1;obtain⟨xs,hrow,hnr⟩:=XR.rows;obtain⟨L,R,e1,e2,e3,e4,e5,e6⟩:=hnr i (by simpa using hlt);rw[kJ,hxd]at e3 e4;obtain⟨aX,cX,rfl,-⟩:=id e3;obtain⟨aY,cY,rfl,-⟩:=id e4;have cx:=(hrow.cellAt (i*2) (by omega)).trans e1;have cy:=(hrow.cellAt (i*2+1) (by omega)).trans e2;have co:=bQ W o 0 _ _ _ JG.out;have ao:=JG.a1;have agl:gl≠o/\∀b,Value.ownBlock (.slice aN Fi.length BN)=some b->gl≠b:=⟨λe=>XR.k1 gl rfl (.inl e),λb hb e=>XR.k1 gl rfl (.inr (.inr (.inr (by rw[hb,e]))))⟩;have YU:=aW JG;have an3:=aW XR;have HN3:=aW hN3;have HK3:=aW hk3;have HRN:=aW zy;have Zx:=aW OI;have E3:=aW e3;have E4:=aW e4;have E5:=aW e5;have E6:=aW e6;clear JG hk3 XR hN3 zy OI hrow hnr e1 e2 e3 e4 e5 e6 Qa aiY Eu ae fat cat cf1;refine oJ (λw'=>w'.cell? ⟨gl,i*2,none⟩=some (.slice aX (dB (Xn D at_ xd).1).length cX)/\w'.cell? ⟨gl,i*2+1,none⟩=some (.slice aY (dB (Xn D at_ xd).2).length cY)/\w'.cell? ⟨o,0,none⟩=some (.slice aN Fi.length BN)) [7,8,9] NG ⟨cx,cy,co⟩ (λaj ae=>?_);(refine bP 0 aj ae ?_;refine bP 1 aj ae ?_;refine bP 2 aj ae ?_;refine bP 3 aj ae ?_;refine bP 4 aj ae ?_;refine bP 5 aj ae ?_);(refine jv aj (i:=6) λK hK=>?_;go_simp);have hx6:Ext W (W.alloc (.cells #[.slice aX (dB (Xn D at_ xd).1).length cX,.slice aY (dB (Xn D at_ xd).2).length cY] 91)).drew.drew:=Below.drew (Below.drew (by go_grown));have hq6:(W.alloc (.cells #[.slice aX (dB (Xn D at_ xd).1).length cX,.slice aY (dB (Xn D at_ xd).2).length cY] 91)).heap[W.heap.size]?=some (.cells #[.slice aX (dB (Xn D at_ xd).1).length cX,.slice aY (dB (Xn D at_ xd).2).length cY] 91 (0,0)):=eu _ _;refine hK.out _ _ (λ_=>⟨fw hx6 cx,fw hx6 cy,fw hx6 co⟩) ?_;clear hK K;(try simp only[nP]);refine nQ aj [7,8,9] [_,_,_] ?_;have Ng:=hx6.size;have hlN:=sU.out;refine eO rfl (.tmp 134) (.tmp 139) 28 rfl w.heap.size 91 i1 (.agg #[.slice none 0 0,.slice none 0 0]) 2 48 underlying28 hi1 hy0 hy1 hy2 rfl (by decide) (.slice aN Fi.length BN) Fi.length xsN rfl (dD HRN.out hx6) _ 1 _ [.slice aX (dB (Xn D at_ xd).1).length cX,.slice aY (dB (Xn D at_ xd).2).length cY] rfl rfl (.inr ⟨⟨W.heap.size,0,none⟩,rfl,La (q:=W.heap.size) hq6⟩) xO (by unfold maxLen;omega) (by omega) (by have:=YU.out.ext.size;omega) ?_;intro v7 w7 Tm Rb hl7;obtain⟨hM7,hk7,hK7⟩:=YU.out.push (wd:=W.drew.drew) Zx.out jS amb rfl E3.out E4.out E5.out E6.out Rb Tm hl7;have co7:w7.cell? ⟨o,0,none⟩=some (.slice aN Fi.length BN):=Rb.cell (fw hx6 co) (λe=>ao e.symm);have UF:w7.heap[o]?=some (.cells #[.slice aN Fi.length BN] 30 (0,0)):=by
        rw[Rb.block o (bg (lt_of_cell co) Ng) (λe=>ao e.symm),hx6.block o (lt_of_cell co)];exact YU.out.out
       have fo7:=gQ w7 o 0 _ _ UF;obtain⟨a7,auA,rfl,_,_⟩:=bT Tm;have ajB:=(HN3.out.lt zM rfl).2;clear Tm Rb hl7 UF hlN;(try simp only[nP]);go_wp2_with fail
       go_roundw
       case rel=>
        have hX:(from_.map (Xn D at_)).take (i+1)=(from_.map (Xn D at_)).take i++[Xn D at_ xd]:=by
         rw[bJ (by simpa using hlt),kJ,hxd]
        refine⟨i+1,_,at2.set xd Fi.length,by omega,by go_num,?_,an3.out.keep hk7 (λ_ h=>h) hK7,bS HN3.out hk7 (λb hb k=>?_),λk=>?_,by simpa using hl2,?_,?_⟩
        .rw[hX,<-dY,<-HFi.out];exact hM7
        .simp[Value.ownBlock]at hb;subst hb;exact Us.out k
        .rcases hK7 _ k with k|k
         .exact Us.out k
         .omega
        .exact NP HL.out.nd hlt hxd (by rw[hl2];exact HXR.out) sU.out HA.out
        .exact NQ hlt hxd HA2.out
       case measure=>simp[intOf];omega
      .have hie:i=from_.length:=by omega
       have hlt':¬((i:Int)<(from_.length:Int)):=(by omega);have HIE:=aW hie;have Qa:=aW hM2;clear hie hM2;go_wp2
       go_roundw
       case rel=>
        refine⟨b+1,vN2,F++from_.map (Xn D at_),idx++from_,at2,by go_num,by omega,HF.out.next HB.out.good HL.out hl2 (λj hj=>HA.out j hj (by have:=HIE.out;omega)) (λy hy=>HA2.out y (λj hj _ e=>hy (e ▸ ai hj))),?_,Ph,hK2⟩;have h:=Qa.out;rw[HFi.out,dJ (by have:=HIE.out;simp;omega)]at h;exact h
       case measure=>simp[intOf];omega
  .have hbe:b=born (vl D root)+1:=by omega
   have atE:¬((b:Int)<=(born (vl D root):Int)):=(by omega);obtain⟨xsN,zy,OI⟩:=hM.nodes;obtain⟨aN,BN,rfl,_,_⟩:=bT zy;have co:=bQ wo o 0 _ _ _ hM.out;have cr:=bQ wo w.heap.size 0 _ _ _ hM.res;rw[hbe]at hF;have hfin:=hF.last HB.out.good hr;have hks:=dH (w:=wo) (p:=⟨w.heap.size,0,none⟩) (v:=.slice aN F.length BN);have LX:=bS zy hks (λb hb e=>hM.a3 (by rw[hb,e]));have agE:=OI.keep hks (λb e=>.inr (.inr (.inl e))) (λb k=>.inl k);have hres:=dI.gm LX agE;have FC:Ext w (wo.setCell ⟨w.heap.size,0,none⟩ (.slice aN F.length BN)):=hE.setCell (p:=⟨w.heap.size,0,none⟩) (aJ _) _;have Zo:=World.cell?_setCell_same wo ⟨w.heap.size,0,none⟩ (.slice aN F.length BN) cr;have hh:=gK wo w.heap.size 0 _ _ (.slice aN F.length BN) hM.res;have HH:Hid ((wo.setCell ⟨w.heap.size,0,none⟩ (.slice aN F.length BN)).heap[w.heap.size]?=some (.cells #[.slice aN F.length BN] 30 (0,0))):=hh;have abM:=aW hfin;have Uq:=aW hres;have HEW:=aW FC;clear hF hM zy OI LX agE hks Di hK cb2 hfin hres FC hbe hh;go_wp2
   (try simp only[Exit.inBlock,Exit.then]);refine bodyPost_ret (results_cell_row rfl _ _ w.heap.size 30 #[.slice aN F.length BN] (0,0) _ rfl HH.out underlying30 rfl (by kernel_rfl)) rfl ?_;exact⟨_,rfl,F,Uq.out,abM.out.1,abM.out.2,HEW.out⟩
