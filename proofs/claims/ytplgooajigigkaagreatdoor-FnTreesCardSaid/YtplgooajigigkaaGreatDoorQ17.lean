/- 17 -/
import Derived.Test.YtplgooajigigkaaGreatDoorQ13
set_option maxRecDepth 100000
set_option maxHeartbeats 4000000
namespace Go.Proofs.YtplgooajigigkaaGreatDoor
open Tryz
open Go.RowKit
open aZ (cZ Nd vl nc born)
variable {w w' W W' w4:World} {D:cZ} {at_ from_ at2:List Nat} {m p q i root xd n N:Nat} {L R v v' v3 x:Value} {xs:List Value} {K:Nat->Prop}
theorem dK.adZ{pb:Nat}{vn vb:Value}(h:dK w pb vn vb D)(h0:0<D.length):
 ∃gb cb,vb=.slice (some ⟨gb,0,none⟩) D.length cb/\∀W,Ext w W->W.cell? ⟨pb,1,none⟩=some (.slice (some ⟨gb,0,none⟩) D.length cb)/\∀x,x<D.length->W.cell? ⟨gb,x,none⟩=some (.int .i64 (aZ.born (vl D x):Int)):=by
 obtain⟨gb,cb,rfl,_,_,_⟩:=h.uV h0;refine⟨gb,cb,rfl,λW hW=>⟨(h.ext hW).cell1,λx hx=>?_⟩⟩;obtain⟨g,c,e,_,_,hc⟩:=(h.ext hW).uV hx;simp only[gz,bN,Addr.mk.injEq,and_true,true_and]at e;obtain⟨rfl,rfl⟩:=e;exact hc
theorem AU(at_ l:List Nat):Ql (bV at_) (bV l)=bV (l.map λx=>at_.getD x 0):=by
 unfold Ql bV;rw[eP,eP];refine bE λx _=>?_
 simp only[Function.comp,dD,eB,bO,aO];cases at_[x]? <;> rfl
theorem VQ(hm:m<D.length):jf (Ql (bV at_) (bV (D[m]).1))=bV (Xn D at_ m).1/\jf (Ql (bV at_) (bV (D[m]).2))=bV (Xn D at_ m).2:=by
 rw[AU,AU,jL,jL,Xn,pY hm,nU hm];exact⟨rfl,rfl⟩
theorem Eh(g:aZ.Good D)(hm:m<D.length):(D[m]).1.length<=m/\(D[m]).2.length<=m:=by
 have h:=g.yL _ (aj hm);have hw:=g.wf m _ (ae hm);exact⟨iU (jN h.1) hw.1,iU (jN h.2) hw.2⟩
def CP(w:World)(p:Nat)(L R:Value):Prop:=w.heap[p]?=some (.cells #[L,R] 91 (0,0))
theorem CP.ext(h:CP w p L R)(hx:Ext w w'):CP w' p L R:=by unfold CP at *;rw[hx.block p (bq h)];exact h
theorem DZ{wr:World}{vB vD:Value}{l r:List Int}(fH:Ext wr W)(hpz:wr.heap.size<=p)(hP:CP W p L R)(hIB:Ints W vB l)(Aj:Ints W vD r)
 (hfB:∀b,vB.ownBlock=some b->wr.heap.size<=b/\b<W.heap.size) (sP:∀b,vD.ownBlock=some b->wr.heap.size<=b/\b<W.heap.size) (XH:∀b,vB.ownBlock=some b->b≠p) (XG:∀b,vD.ownBlock=some b->b≠p):
 Ext wr ((W.setCell ⟨p,0,none⟩ vB).setCell ⟨p,1,none⟩ vD)/\CP ((W.setCell ⟨p,0,none⟩ vB).setCell ⟨p,1,none⟩ vD) p vB vD/\Ints ((W.setCell ⟨p,0,none⟩ vB).setCell ⟨p,1,none⟩ vD) vB l/\Ints ((W.setCell ⟨p,0,none⟩ vB).setCell ⟨p,1,none⟩ vD) vD r/\
 (∀b,vB.ownBlock=some b->wr.heap.size<=b/\b<((W.setCell ⟨p,0,none⟩ vB).setCell ⟨p,1,none⟩ vD).heap.size)/\(∀b,vD.ownBlock=some b->wr.heap.size<=b/\b<((W.setCell ⟨p,0,none⟩ vB).setCell ⟨p,1,none⟩ vD).heap.size):=by
 have e:∀k,k≠p->((W.setCell ⟨p,0,none⟩ vB).setCell ⟨p,1,none⟩ vD).heap[k]?=W.heap[k]?:=λk hk=>by rw[jH _ _ _ _ (by exact hk),jH _ _ _ _ (by exact hk)]
 refine⟨(fH.setCell (p:=⟨p,0,none⟩) hpz _).setCell (p:=⟨p,1,none⟩) hpz _,?_,hIB.keep (λb _ hb=>e b (XH b hb)),Aj.keep (λb _ hb=>e b (XG b hb)),by simpa using hfB,by simpa using sP⟩;exact iV _ _ _ _ _ _ (iV _ _ _ _ _ _ hP)
theorem CP.grown(h:CP W q L R)(hg:W.grownBy W' v.ownBlock)(hq:∀b,v.ownBlock=some b->b≠q):CP W' q L R:=by
 unfold CP at *;rw[hg.block q (bq h) (λe=>hq q e.symm rfl)];exact h
theorem WC(h:CP W q L R)(hl:lY W v v')(hq:∀b,v.ownBlock=some b->b≠q):∀b,v'.ownBlock=some b->b≠q:=by
 intro b hb e;have hlt:=bq h;rcases hl with h1|⟨g,h1,h2⟩
 .exact hq b (by rw[<-h1];exact hb) e
 .rw[h1]at hb;injection hb with hb;omega
theorem Hq(h:CP W q L R):∀j u,([L,R]:List Value)[j]?=some u->W.cell? ((⟨q,0,none⟩:Addr).add j)=some u:=by
 intro j u hj;have e:(⟨q,0,none⟩:Addr).add j=⟨q,j,none⟩:=by simp[Addr.add];intro h;omega
 rw[e,bI W q j _ _ _ h]
 simpa using hj
theorem IG{w3:World}{X:Nat->Nd}(IU:W.ownsRow w3.heap.size 91 2 v3 (i+1+(from_.length-i)) (xs.take (i*2)++[L,R]++(xs.drop (i*2)).take ((from_.length-i)*2)))
 (hnr:iD w3 xs (from_.map X) w.heap.size K) (fH:Ext w3 W) (hxl:xs.length=from_.length*2) (hi:i<=from_.length) (hB:Ints w3 L (bV (X m).1)) (hD:Ints w3 R (bV (X m).2))
 (bL:∀b,L.ownBlock=some b->w.heap.size<=b/\b<w3.heap.size/\¬K b) (bR:∀b,R.ownBlock=some b->w.heap.size<=b/\b<w3.heap.size/\¬K b) (hw:w.heap.size<=w3.heap.size):
 ∃g cap xs',v3=.slice (some ⟨g,0,none⟩) (from_.length+1) cap/\Ext w3 W/\w3.heap.size<=g/\W.ownsRow w.heap.size 91 2 v3 (from_.length+1) xs'/\iD W xs' ((from_.take i++m :: from_.drop i).map X) w.heap.size K:=by
 have ht:(xs.drop (i*2)).take ((from_.length-i)*2)=xs.drop (i*2):=dH (by rw[ug];omega);rw[show i+1+(from_.length-i)=from_.length+1 by omega,ht,dh]at IU;obtain⟨g,cap,rfl,h1,h2,_⟩:=gY IU (by omega);have hn:=hnr.insert (by simpa using hxl) (i:=i) (by simpa using hi) hB hD bL bR;rw[show(from_.map X).take i++X m :: (from_.map X).drop i=(from_.take i++m :: from_.drop i).map X by simp[List.map_take,List.map_drop]]at hn;exact⟨g,cap,_,rfl,fH,(IU.lt g rfl).1,Bp IU hw,hn.ext fH⟩
def Qb(w:World)(q:Nat)(v:Value):Prop:=w.heap[q]?=some (.cells #[v] 3 (0,0))
theorem Qb.ext(h:Qb w q v)(hx:Ext w w'):Qb w' q v:=by unfold Qb at *;rw[hx.block q (bq h)];exact h
theorem Qb.grown(h:Qb W q x)(hg:W.grownBy W' v.ownBlock)(hq:∀b,v.ownBlock=some b->b≠q):Qb W' q x:=by
 unfold Qb at *;rw[hg.block q (bq h) (λe=>hq q e.symm rfl)];exact h
theorem RS(h:Qb W q x)(hl:lY W v v')(hq:∀b,v.ownBlock=some b->b≠q):∀b,v'.ownBlock=some b->b≠q:=by
 intro b hb e;have hlt:=bq h;rcases hl with h1|⟨g,h1,h2⟩
 .exact hq b (by rw[<-h1];exact hb) e
 .rw[h1]at hb;injection hb with hb;omega
theorem IE(h:W.ownsRow w4.heap.size 3 1 v3 (i+1+(from_.length-i)) (((bV from_).map (Value.int .i64)).take i++[.int .i64 ((m:Nat):Int)]++(((bV from_).map (Value.int .i64)).drop i).take (from_.length-i)))(fH:Ext w4 W)(hi:i<=from_.length)(hw:w.heap.size<=w4.heap.size):
 ∃g cap,v3=.slice (some ⟨g,0,none⟩) (from_.length+1) cap/\Ext w4 W/\w4.heap.size<=g/\W.ownsRow w.heap.size 3 1 v3 (from_.length+1) ((bV (from_.take i++m :: from_.drop i)).map (Value.int .i64)):=by
 have ht:(((bV from_).map (Value.int .i64)).drop i).take (from_.length-i)=((bV from_).map (Value.int .i64)).drop i:=dH (by simp[aP]);rw[show i+1+(from_.length-i)=from_.length+1 by omega,ht]at h;have e:(bV (from_.take i++m :: from_.drop i)).map (Value.int .i64)=((bV from_).map (Value.int .i64)).take i++[.int .i64 ((m:Nat):Int)]++((bV from_).map (Value.int .i64)).drop i:=by
  simp[bV,List.map_take,List.map_drop]
 obtain⟨g,cap,rfl,h1,h2,_⟩:=gY h (by omega);exact⟨g,cap,rfl,fH,(h.lt g rfl).1,by rw[e];exact Bp h hw⟩
theorem Oe{wo:World}{F:cZ}{idx:List Nat}{b g5 c5:Nat}{xs5:List Value}(g:aZ.Good D)(hF:mU D root F idx at_ b)(hr:root<D.length)(hL:vX D root at_ b from_ m)(La:aZ.Reach D root m)(hbm:born (vl D m)=b)(hmt:m<=root)
 (hi:i<=from_.length) (h1:∀j (hj:j<from_.length),j<i->nc (Xn D at_ from_[j]) (Xn D at_ m)<0) (h2:∀hl:i<from_.length,¬nc (Xn D at_ from_[i]) (Xn D at_ m)<0) (hx:Ext wo w4) (fH:Ext w4 W)
 (WX:w4.ownsRow w.heap.size 91 2 (.slice (some ⟨g5,0,none⟩) (from_.length+1) c5) (from_.length+1) xs5) (Xa:iD w4 xs5 ((from_.take i++m :: from_.drop i).map (Xn D at_)) w.heap.size K) (hg5:wo.heap.size<=g5)
 (hT:∃g cap,v3=.slice (some ⟨g,0,none⟩) (from_.length+1) cap/\Ext w4 W/\w4.heap.size<=g/\W.ownsRow w.heap.size 3 1 v3 (from_.length+1) ((bV (from_.take i++m :: from_.drop i)).map (Value.int .i64))) (hK:∀b,K b->b<wo.heap.size):
 ∃m' from',m'<=root+1/\Value.int .i64 ((m:Int)+1)=.int .i64 ((m':Nat):Int)/\vX D root at_ b from' m'/\Ext wo W/\PX w W K (.slice (some ⟨g5,0,none⟩) (from_.length+1) c5) v3 from' (Xn D at_):=by
 obtain⟨g6,c6,rfl,_,Xk,af4⟩:=hT;have hl:(from_.take i++m :: from_.drop i).length=from_.length+1:=by simp;omega
 have hz:=hx.size;refine⟨m+1,from_.take i++m :: from_.drop i,by omega,by simp,hL.put g hF hr La hbm hi h1 h2,ah hx fH,⟨⟨xs5,?_,Xa.ext fH⟩,?_,λb hb k=>?_,λb hb k=>?_,?_,?_⟩⟩
 .rw[hl];exact bW WX fH
 .rw[hl];exact af4
 .simp[Value.ownBlock]at hb;subst hb;have:=hK _ k;omega
 .simp[Value.ownBlock]at hb;subst hb;have:=hK _ k;omega
 .rw[hl];exact⟨_,_,rfl⟩
 .rw[hl];exact⟨_,_,rfl⟩
theorem Kn(hn:from_.Nodup)(hlt:i<from_.length)(hx:from_[i]=xd)(hl:xd<at2.length)(hN:N=n+i)(h:∀j (h:j<from_.length),j<i->at2[from_[j]]?=some (n+j)):
 Hid (∀j (h:j<from_.length),j<i+1->(at2.set xd N)[from_[j]]?=some (n+j)):=by
 intro j hj hji;by_cases e:j=i
 .subst e
  rw[hx,jR,if_pos rfl,if_pos hl,hN]
 .rw[jR,if_neg (λe2=>e (yX hn hj hlt (by rw[hx,e2])))]
  exact h j hj (by omega)
theorem Ko(hlt:i<from_.length)(hx:from_[i]=xd)(h:∀y,(∀j (h:j<from_.length),j<i->from_[j]≠y)->at2[y]?=at_[y]?):
 Hid (∀y,(∀j (h:j<from_.length),j<i+1->from_[j]≠y)->(at2.set xd N)[y]?=at_[y]?):=by
 intro y hy;rw[jR,if_neg (λe=>hy i hlt (by omega) (by rw[hx,e]))];exact h y (λj hj hji=>hy j hj (by omega))
theorem Rl{B e size:Nat}(h:w.ownsRow B e size v n xs):w.ownsRow 0 e size v n xs:=by
 obtain⟨hl,h⟩:=h;refine⟨hl,?_⟩;rcases h with h|⟨g,cap,cur,h1,hb,h2⟩
 .exact .inl h
 .exact .inr ⟨g,cap,cur,h1,az _,h2⟩
theorem vZ.start{w1 w2:World}(hx1:Ext (w.alloc (.cells #[.slice none 0 0] 30)) w1)(ho2:w2.ownsRow w.heap.size 3 1 (.slice (some ⟨w1.heap.size,0,none⟩) (root+1) (root+1)) (root+1) ((bV (List.replicate (root+1) 0)).map (Value.int .i64)))(hg2:w1.grownBy w2 none):
 vZ w ((w2.alloc (.cells #[] 91)).alloc (.cells #[.slice (some ⟨w2.heap.size,0,none⟩) 0 0] 30)) (w2.heap.size+1) w1.heap.size (.slice (some ⟨w2.heap.size,0,none⟩) 0 0) root [] (List.replicate (root+1) 0):=by
 have z1:=hx1.size;rw[eX]at z1;have z2:=(ho2.lt w1.heap.size rfl).2;have hx2:Ext w1 w2:=dw (fJ _ _) hg2 (by simp);have hx0:Ext w w2:=ah (ah (by go_grown) hx1) hx2;have hx3:Ext w2 ((w2.alloc (.cells #[] 91)).alloc (.cells #[.slice (some ⟨w2.heap.size,0,none⟩) 0 0] 30)):=by go_grown
 have r0:(w.alloc (.cells #[.slice none 0 0] 30)).heap[w.heap.size]?=some (.cells #[.slice none 0 0] 30 (0,0)):=dV _ _;refine⟨ah hx0 hx3,?_,bW ho2 hx3,?_,⟨[],?_,iD.nil _ _ _⟩,?_,?_,?_,?_,?_,?_,?_⟩
 .rw[hx3.block _ (by omega),hx2.block _ (by omega),hx1.block _ (by rw[eX];omega)];exact r0
 .have:=dV (w2.alloc (.cells #[] 91)) (.cells #[.slice (some ⟨w2.heap.size,0,none⟩) 0 0] 30);rw[eX]at this;exact this
 .exact(World.ownsRow_made w2 #[] 0 (by omega) (by decide) (by simp)).alloc _
 .simp[Value.ownBlock]
 .simp[Value.ownBlock];omega
 .simp[Value.ownBlock];omega
 .omega
 .omega
 .omega
 .omega
def Ki:List Row:=[⟨0,[],58,[6]⟩,⟨1,[],59,[0]⟩,⟨2,[1],60,[58]⟩,⟨3,[2],61,[59]⟩,⟨4,[3],62,[60]⟩,⟨5,[],63,[11]⟩,⟨6,[4,5],64,[61,62]⟩,⟨7,[6],65,[63]⟩,⟨8,[7],66,[64]⟩,⟨9,[0,8],67,[57,65]⟩,⟨10,[9,9],68,[66]⟩,⟨11,[],69,[6]⟩,⟨12,[],70,[0]⟩,⟨13,[12],71,[69]⟩,⟨14,[13],72,[70]⟩,⟨15,[14],73,[71]⟩,⟨16,[],74,[11]⟩,⟨17,[15,16],75,[72,73]⟩,⟨18,[17],76,[74]⟩,⟨19,[18],77,[75]⟩,⟨20,[11,19,10],78,[68,76]⟩,⟨21,[20,20],79,[77]⟩,⟨22,[10,21],80,[67,78]⟩,⟨23,[],13,[]⟩,⟨24,[23,22,21,0,1,2,3,4,5,6,7,8,9,10,11,12,13,14,15,16,17,18,19,20,21,22,23],0,[12,79]⟩]
def wQ:List Row:=[⟨0,[],81,[13]⟩,⟨1,[],82,[9]⟩,⟨2,[1],83,[81]⟩,⟨3,[0,2],84,[80,82]⟩,⟨4,[3],85,[83]⟩,⟨5,[4],86,[9,84]⟩,⟨6,[4],87,[13,84]⟩,⟨7,[5,6,4],88,[85,86,84]⟩,⟨8,[7,4],89,[87,84]⟩,⟨9,[4],90,[12,84]⟩,⟨10,[8,9,4,4],91,[88,89,84]⟩,⟨11,[4,10],92,[84,90]⟩]
def Kh:List Row:=[⟨0,[],95,[]⟩,⟨1,[],96,[9]⟩,⟨2,[],97,[13]⟩,⟨3,[1,2],98,[95,96]⟩,⟨4,[0,3],99,[94,97]⟩,⟨5,[],100,[12]⟩,⟨6,[5],101,[99]⟩,⟨7,[4,6,4],102,[98,100]⟩,⟨8,[],103,[9]⟩,⟨9,[],104,[13]⟩,⟨10,[8,9],105,[102,103]⟩,⟨11,[7,10,7],106,[101,104]⟩,⟨12,[11,11,0,1,2,3,4,5,6,7,8,9,10,11],10,[105]⟩]
def Kg:List Row:=[⟨0,[],107,[]⟩,⟨1,[],108,[10]⟩,⟨2,[],109,[13]⟩,⟨3,[1,2],110,[107,108]⟩,⟨4,[0,3],111,[106,109]⟩,⟨5,[],112,[11]⟩,⟨6,[5],113,[111]⟩,⟨7,[4,6,4],114,[110,112]⟩,⟨8,[],115,[10]⟩,⟨9,[],116,[13]⟩,⟨10,[8,9],117,[114,115]⟩,⟨11,[7,10,7],118,[113,116]⟩,⟨12,[11,11,0,1,2,3,4,5,6,7,8,9,10,11],11,[117]⟩]
def Ke:List Row:=[⟨0,[],125,[6]⟩,⟨1,[],126,[10]⟩,⟨2,[],127,[14]⟩,⟨3,[1,2],128,[125,126]⟩,⟨4,[3],129,[127]⟩,⟨5,[],130,[7]⟩,⟨6,[5],131,[129]⟩,⟨7,[6],132,[130]⟩,⟨8,[0,4,0,1,2,3,4,5,6,7],133,[124,128]⟩,⟨9,[8,7,0,1,2,3,4,5,6,7],0,[132,131]⟩]
def Kc:List Row:=[⟨0,[],134,[7]⟩,⟨1,[0],135,[133]⟩,⟨2,[],136,[9]⟩,⟨3,[],137,[14]⟩,⟨4,[2,3],138,[135,136]⟩,⟨5,[4],139,[137]⟩,⟨6,[5],140,[138]⟩,⟨7,[1,6],141,[134,139]⟩,⟨8,[0,1,2,3,4,5,6,7],142,[7]⟩,⟨9,[8,7,7,0,1,2,3,4,5,6,7],0,[141,140]⟩]
theorem Cg(pb:Nat)(vn vb:Value)(D:cZ)(root:Nat)(w:World)(hB:dK w pb vn vb D)(hr:root<D.length):
 Calls prog 70 #[.pointer (some ⟨pb,0,none⟩),.int .i64 root] w λe w'=>∃vN F,e=.returned (.agg #[vN])/\eZ w' w.heap.size vN F/\aZ.eD F/\aZ.Same (aZ.eQ F) (vl D root)/\Ext w w':=by
 have hds:=hB.small;obtain⟨i0,hi0,hz0,hz1,hz2⟩:=info_parts fB;obtain⟨i1,hi1,hy0,hy1,hy2⟩:=info_parts zb;have hw:IntKind.i64.wrap ((root:Int)+1)=(root:Int)+1:=by rw[IntKind.wrap_i64];omega
 go_enter Tryz.func70,Tryz.ntmps70
 go_wp2_with (go_at_call 119;refine(He pb vn vb D root _ (hB.ext (by go_grown)) hr).mono ?_;rintro e w1 ⟨ai1,bs,rfl,YV,zQ,hx1⟩;obtain⟨w2,hmk,ho2,hg2⟩:=run_make_full (P:=prog) w1 w.heap.size 41 3 i0 (.int .i64 0) 1 underlying41 hi0 hz0 hz1 .i64 .i64 (root+1) (by rw[hz2];omega) (by unfold maxLen;omega) (by have:=hx1.size;rw[eX]at this;omega);rw[show(((root+1:Nat)):Int)=(root:Int)+1 by omega]at hmk)
 have ho2:w2.ownsRow w.heap.size 3 1 (.slice (some ⟨w1.heap.size,0,none⟩) (root+1) (root+1)) (root+1) ((bV (List.replicate (root+1) 0)).map (Value.int .i64)):=by
  rw[jo]at ho2;rw[bV,List.map_replicate,List.map_replicate,<-toList_madeCells_one];exact ho2
 have hM0:=vZ.start hx1 ho2 hg2;obtain⟨wH,TV,rfl,_,_,_⟩:=gY zQ (by omega);have zn:=zQ.lt wH rfl;have z1:=hx1.size;have z2:=hg2.size;have z1':w.heap.size+1<=w1.heap.size:=by rw[eX]at z1;exact z1
 have zn':w.heap.size+1<=wH/\wH<w1.heap.size:=by rw[eX]at zn;exact zn
 have hx2:Ext w1 ((w2.alloc (.cells #[] 91)).alloc (.cells #[.slice (some ⟨w2.heap.size,0,none⟩) 0 0] 30)):=ah (dw (fJ _ _) hg2 (by simp)) (by go_grown);have Fx:=bW zQ hx2;have hK0:¬KF w (w2.heap.size+1) w1.heap.size (.slice (some ⟨w2.heap.size,0,none⟩) 0 0) wH:=by
  rintro(e|e|e|e)
  .omega
  .omega
  .omega
  .simp[Value.ownBlock]at e;omega
 obtain⟨gb,cb,rfl,Ti⟩:=hB.adZ (by omega);have HBX:=aI Ti;have HB:=aI hB;have U9:=aI YV;obtain⟨gn,cn,_,_,_,_,rfl,_⟩:=hB.RF hr;have hst:=mU.start D root;obtain⟨Wb,hWb⟩:=eu (w.alloc (.cells #[.slice none 0 0] 30));have Fx:((w2.alloc (.cells #[] 91)).alloc (.cells #[.slice (some ⟨w2.heap.size,0,none⟩) 0 0] 30)).ownsRow 0 4 1 (.slice (some ⟨wH,0,none⟩) (root+1) TV) (root+1) (bs.map Value.bool):=Rl Fx;clear hWb Wb hx2 z1 z2 zn z1' zn' zQ ho2 hg2 hmk hx1 YV Ti hB;generalize ((w2.alloc (.cells #[] 91)).alloc (.cells #[.slice (some ⟨w2.heap.size,0,none⟩) 0 0] 30))=W0 at *;generalize Value.slice (some ⟨w2.heap.size,0,none⟩) 0 0=vN0 at *;generalize w2.heap.size+1=o at *;generalize w1.heap.size=pJ at *;obtain⟨at0,adi⟩:=eu (List.replicate (root+1) 0);rw[<-adi]at hst hM0;clear adi;have hBl:=aZ.mH HB.out.good.wf root;have hnX:=λ(i:Nat) (hi:i<D.length)=>HB.out.RF hi
 have P6:=aI hnX;clear hnX;go_loopw [8] (λbb wr=>∃b vN F idx at_,bb=.int .i64 ((b:Nat):Int)/\b<=born (vl D root)+1/\mU D root F idx at_ b/\vZ w wr o pJ vN root F at_/\wr.ownsRow 0 4 1 (.slice (some ⟨wH,0,none⟩) (root+1) TV) (root+1) (bs.map Value.bool)/\¬KF w o pJ vN wH) (λbb _=>born (vl D root)+1-(intOf bb).toNat)
 case atStart=>exact⟨0,vN0,[],[],at0,rfl,az _,hst,hM0,Fx,hK0⟩
 case round=>
  clear hst hM0 Fx hK0;obtain⟨b,vN,F,idx,at_,rfl,hb,hF,hM,zQ,hK⟩:=hrel;obtain⟨wo,rfl⟩:∃wo:World,wo=wr:=⟨_,rfl⟩;have hE:=hM.ext;obtain⟨cb1,cb2⟩:=HBX.out _ hE;have cbr:=cb2 root hr;have hfz:=iW wo w.heap.size 0 _ _ hM.res;by_cases hbt:b<=born (vl D root)
  .have HM:=aI hM
   have HF:=aI hF;have HN:=aI zQ;have HK:=aI hK;clear hM hF zQ hK cb2;go_wp2
   go_loopw [9,10,11,12,13] (λlv fv kk _ _ w2=>∃m from_,m<=root+1/\kk=.int .i64 ((m:Nat):Int)/\vX D root at_ b from_ m/\Ext wo w2/\PX w w2 (KF w o pJ vN) lv fv from_ (Xn D at_)) (λ_ _ kk _ _ _=>root+1-(intOf kk).toNat)
   case atStart=>
    have hkl:=HM.out.klt;refine⟨0,[],az _,rfl,vX.start _ _ _ _,by go_grown,⟨⟨[],?_,iD.nil _ _ _⟩,?_,λb hb k=>?_,λb hb k=>?_,⟨_,_,rfl⟩,⟨_,_,rfl⟩⟩⟩
    .exact(World.ownsRow_made wo #[] 0 hE.size (by decide) (by simp)).alloc _
    .exact lF wo _ _ hE.size _
    .simp[Value.ownBlock]at hb;subst hb;have:=hkl _ k;omega
    .simp[Value.ownBlock]at hb;subst hb;have:=hkl _ k;omega
   case round=>
    obtain⟨m,from_,hm,rfl,hL,hx,hLM⟩:=hrel;obtain⟨wm,rfl⟩:∃wm:World,wm=wr:=⟨_,rfl⟩;by_cases hmt:m<=root
    .have hmr:m<root+1:=by omega
     have hmD:m<D.length:=(by omega);have hEm:=ah hE hx;obtain⟨bv,hbv⟩:∃b,bs[m]?=some b:=⟨_,ae (by rw[U9.out.len];omega)⟩;have ac6:=yA (bW HN.out hx) hmr hbv;have Tf:=(HBX.out _ hEm).2 m hmD;have ac7:=(HBX.out _ hEm).1;have HL:=aI hL;have HX:=aI hx;have HLM:=aI hLM;clear hL hx hLM;cases bv with
     |false=>
      go_wp2
      go_roundw
      case rel=>exact⟨m+1,from_,by omega,by go_num,HL.out.skip (λh=>by have:=(U9.out.all m).2 h.1;rw[hbv]at this;cases this),HX.out,HLM.out⟩
      case measure=>simp[intOf];omega
     |true=>
      by_cases hbm:born (vl D m)=b
      ·
       have La:Hid (aZ.Reach D root m):=(U9.out.all m).1 hbv;rw[hbm]at Tf;clear hbv;obtain⟨g',c',aL,cL,aR,cR,he,hN⟩:=P6.out m hmD;simp only[gz,bN,Addr.mk.injEq,and_true,true_and]at he;obtain⟨rfl,rfl⟩:=he;have HS:=aI hN;obtain⟨p0,p1,p2,p3,p4⟩:=hN _ hEm;have FD:wm.cell? ⟨pb,0,none⟩=some (.slice (some ⟨gn,0,none⟩) D.length cn)/\wm.cell? ⟨gn,m*2,none⟩=some (.slice aL (D[m]).1.length cL)/\wm.cell? ⟨gn,m*2+1,none⟩=some (.slice aR (D[m]).2.length cR):=⟨p0,p1,p2⟩;clear hN;go_wp2_with fail
       go_cut [12] (λx wc=>∃p aB n cB aD k cD,x=.pointer (some ⟨p,0,none⟩)/\Ext wm wc/\wm.heap.size<=p/\CP wc p (.slice aB n cB) (.slice aD k cD)/\Ints wc (.slice aB n cB) (bV (Xn D at_ m).1)/\Ints wc (.slice aD k cD) (bV (Xn D at_ m).2)/\(∀b,Value.ownBlock (.slice aB n cB)=some b->wm.heap.size<=b/\b<wc.heap.size)/\(∀b,Value.ownBlock (.slice aD k cD)=some b->wm.heap.size<=b/\b<wc.heap.size))
       case first=>
        refine mQ (λw'=>w'.cell? ⟨pb,0,none⟩=some (.slice (some ⟨gn,0,none⟩) D.length cn)/\w'.cell? ⟨gn,m*2,none⟩=some (.slice aL (D[m]).1.length cL)/\w'.cell? ⟨gn,m*2+1,none⟩=some (.slice aR (D[m]).2.length cR)) [24] Ki FD (λai aa=>?_);(refine bg 0 ai aa ?_;refine bg 1 ai aa ?_;refine bg 2 ai aa ?_;refine bg 3 ai aa ?_;refine bg 4 ai aa ?_;refine bg 5 ai aa ?_;refine bg 6 ai aa ?_;refine bg 7 ai aa ?_;refine bg 8 ai aa ?_;refine bg 11 ai aa ?_;refine bg 12 ai aa ?_;refine bg 13 ai aa ?_;refine bg 14 ai aa ?_;refine bg 15 ai aa ?_;refine bg 16 ai aa ?_;refine bg 17 ai aa ?_;refine bg 18 ai aa ?_;refine bg 19 ai aa ?_);have nZ:∀W,Ext wm W->W.cell? ⟨pb,0,none⟩=some (.slice (some ⟨gn,0,none⟩) D.length cn)/\W.cell? ⟨gn,m*2,none⟩=some (.slice aL (D[m]).1.length cL)/\W.cell? ⟨gn,m*2+1,none⟩=some (.slice aR (D[m]).2.length cR):=λW h=>by obtain⟨q0,q1,q2,-,-⟩:=HS.out W (ah hEm h);exact⟨q0,q1,q2⟩
        have hLs:∀W,Ext wm W->Ints W (.slice aL (D[m]).1.length cL) (bV (D[m]).1):=λW h=>(HS.out W (ah hEm h)).2.2.2.1
        have hRs:∀W,Ext wm W->Ints W (.slice aR (D[m]).2.length cR) (bV (D[m]).2):=λW h=>(HS.out W (ah hEm h)).2.2.2.2
        have adh:=HF.out.atl;have hAt:∀W,Ext wm W->Ints W (.slice (some ⟨pJ,0,none⟩) (root+1) (root+1)) (bV at_):=λW h=>(Ints.dX (l:=bV at_) HM.out.X5 (by rw[aP];omega)).ext (ah HX.out h)
        have hgl:=Eh HB.out.good hmD;have acd:(bV (D[m]).1).length<=1000000000:=(by rw[aP];omega);have acb:(bV (D[m]).2).length<=1000000000:=(by rw[aP];omega);have hwm:=HB.out.good.wf m _ (ae hmD);have Uo:∀x,x∈bV (D[m]).1->0<=x/\x<(bV at_).length:=λx hx=>by obtain⟨n,hn,rfl⟩:=mo hx;have:=hwm.1 n hn;rw[aP,adh];omega
        have Un:∀x,x∈bV (D[m]).2->0<=x/\x<(bV at_).length:=λx hx=>by obtain⟨n,hn,rfl⟩:=mo hx;have:=hwm.2 n hn;rw[aP,adh];omega
        obtain⟨xl1,xl2⟩:=VQ (at_:=at_) hmD;have fH:Ext wm wm.drew:=⟨rfl,rfl,rfl,ax _,λ_ _=>rfl⟩;obtain⟨W,hW⟩:=eu wm.drew;rw[<-hW]at fH aa ⊢;clear hW;have Gb:=True.intro;refine kL ai (i:=9) (j:=23) (by kernel_rfl) ?fa1 ?fb1
        case' fb1=>
         (refine F9 (i:=23) λK hK=>?_;go_simp);have iw:Ext W (W.alloc (.cells #[.slice none 0 0,.slice none 0 0] 91)):=(by go_grown);have wG:CP (W.alloc (.cells #[.slice none 0 0,.slice none 0 0] 91)) W.heap.size (.slice none 0 0) (.slice none 0 0):=dV _ _;have hpz:wm.heap.size<=W.heap.size:=fH.size;(try have XH:=λb hb=>iH (hfB b hb).2);(try have XG:=λb hb=>iH (sP b hb).2);(try replace FC:=FC.ext iw);(try replace hIB:=hIB.ext iw);(try replace FB:=FB.ext iw);(try replace Aj:=Aj.ext iw);(try replace hP:=hP.ext iw);(try replace hfB:=λb hb=>And.intro (hfB b hb).1 (aJ (hfB b hb).2 iw.size));(try replace sP:=λb hb=>And.intro (sP b hb).1 (aJ (sP b hb).2 iw.size));replace fH:=ah fH iw;have aa:=nZ _ fH;have hP:=wG;clear wG;refine hK.out _ _ (λ_=>aa) ?_;clear hK K;(try simp only[nP]);generalize W.alloc (.cells #[.slice none 0 0,.slice none 0 0] 91)=W1 at *;generalize W.heap.size=p at *;clear iw;obtain⟨W,rfl⟩:=eu W1;clear Gb
        case' fa1=>(refine F9 (i:=9) λK hK=>?_;go_simp)
        all_goals
         first
          |(have hNP:=Gb;clear hNP)
          |(refine kS ai (i:=9) λK hK=>?_;go_simp)
         refine(qZ _ _ (bV at_) (bV (D[m]).1) _ (hAt _ fH) (hLs _ fH) Uo acd).mono ?_;rintro e W ⟨vA,rfl,ahs,iw⟩;(try replace FC:=FC.ext iw);(try replace hIB:=hIB.ext iw);(try replace FB:=FB.ext iw);(try replace Aj:=Aj.ext iw);(try replace hP:=hP.ext iw);(try replace hfB:=λb hb=>And.intro (hfB b hb).1 (aJ (hfB b hb).2 iw.size));(try replace sP:=λb hb=>And.intro (sP b hb).1 (aJ (sP b hb).2 iw.size));replace fH:=ah fH iw;have aa:=nZ _ fH;have FC:=ahs;refine hK.out _ _ (λ_=>aa) ?_;clear hK K;(try simp only[nP])
        refine kL ai (i:=10) (j:=23) (by kernel_rfl) ?fa2 ?fb2
        case' fb2=>
         (refine F9 (i:=23) λK hK=>?_;go_simp);have iw:Ext W (W.alloc (.cells #[.slice none 0 0,.slice none 0 0] 91)):=(by go_grown);have wG:CP (W.alloc (.cells #[.slice none 0 0,.slice none 0 0] 91)) W.heap.size (.slice none 0 0) (.slice none 0 0):=dV _ _;have hpz:wm.heap.size<=W.heap.size:=fH.size;(try have XH:=λb hb=>iH (hfB b hb).2);(try have XG:=λb hb=>iH (sP b hb).2);(try replace FC:=FC.ext iw);(try replace hIB:=hIB.ext iw);(try replace FB:=FB.ext iw);(try replace Aj:=Aj.ext iw);(try replace hP:=hP.ext iw);(try replace hfB:=λb hb=>And.intro (hfB b hb).1 (aJ (hfB b hb).2 iw.size));(try replace sP:=λb hb=>And.intro (sP b hb).1 (aJ (sP b hb).2 iw.size));replace fH:=ah fH iw;have aa:=nZ _ fH;have hP:=wG;clear wG;refine hK.out _ _ (λ_=>aa) ?_;clear hK K;(try simp only[nP]);generalize W.alloc (.cells #[.slice none 0 0,.slice none 0 0] 91)=W1 at *;generalize W.heap.size=p at *;clear iw;obtain⟨W,rfl⟩:=eu W1;clear Gb
        case' fa2=>(refine F9 (i:=10) λK hK=>?_;go_simp)
        all_goals
         first
          |(have hNP:=Gb;clear hNP)
          |(refine kS ai (i:=10) λK hK=>?_;go_simp)
         refine(xY _ _ _ FC (by rw[FX];exact acd)).mono ?_;rintro e W ⟨vB,rfl,aaD,iw,Xo⟩;(try have XH:∀b,vB.ownBlock=some b->b≠p:=λb hb e=>by have h1:=bq hP;have h2:=(Xo b hb).1;omega);have hfB:∀b,vB.ownBlock=some b->wm.heap.size<=b/\b<W.heap.size:=λb hb=>⟨df fH.size (Xo b hb).1,(Xo b hb).2⟩
         clear Xo;rw[xl1]at aaD;obtain⟨aB,cB,rfl,-⟩:=id aaD;(try replace FC:=FC.ext iw);(try replace hIB:=hIB.ext iw);(try replace FB:=FB.ext iw);(try replace Aj:=Aj.ext iw);(try replace hP:=hP.ext iw);(try replace hfB:=λb hb=>And.intro (hfB b hb).1 (aJ (hfB b hb).2 iw.size));(try replace sP:=λb hb=>And.intro (sP b hb).1 (aJ (sP b hb).2 iw.size));replace fH:=ah fH iw;have aa:=nZ _ fH;have hIB:=aaD;refine hK.out _ _ (λ_=>aa) ?_;clear hK K;(try simp only[nP])
        refine kL ai (i:=20) (j:=23) (by kernel_rfl) ?fa3 ?fb3
        case' fb3=>
         (refine F9 (i:=23) λK hK=>?_;go_simp);have iw:Ext W (W.alloc (.cells #[.slice none 0 0,.slice none 0 0] 91)):=(by go_grown);have wG:CP (W.alloc (.cells #[.slice none 0 0,.slice none 0 0] 91)) W.heap.size (.slice none 0 0) (.slice none 0 0):=dV _ _;have hpz:wm.heap.size<=W.heap.size:=fH.size;(try have XH:=λb hb=>iH (hfB b hb).2);(try have XG:=λb hb=>iH (sP b hb).2);(try replace FC:=FC.ext iw);(try replace hIB:=hIB.ext iw);(try replace FB:=FB.ext iw);(try replace Aj:=Aj.ext iw);(try replace hP:=hP.ext iw);(try replace hfB:=λb hb=>And.intro (hfB b hb).1 (aJ (hfB b hb).2 iw.size));(try replace sP:=λb hb=>And.intro (sP b hb).1 (aJ (sP b hb).2 iw.size));replace fH:=ah fH iw;have aa:=nZ _ fH;have hP:=wG;clear wG;refine hK.out _ _ (λ_=>aa) ?_;clear hK K;(try simp only[nP]);generalize W.alloc (.cells #[.slice none 0 0,.slice none 0 0] 91)=W1 at *;generalize W.heap.size=p at *;clear iw;obtain⟨W,rfl⟩:=eu W1;clear Gb
        case' fa3=>(refine F9 (i:=20) λK hK=>?_;go_simp)
        all_goals
         first
          |(have hNP:=Gb;clear hNP)
          |(refine kS ai (i:=20) λK hK=>?_;go_simp)
         refine(qZ _ _ (bV at_) (bV (D[m]).2) _ (hAt _ fH) (hRs _ fH) Un acb).mono ?_;rintro e W ⟨vC,rfl,ahr,iw⟩;(try replace FC:=FC.ext iw);(try replace hIB:=hIB.ext iw);(try replace FB:=FB.ext iw);(try replace Aj:=Aj.ext iw);(try replace hP:=hP.ext iw);(try replace hfB:=λb hb=>And.intro (hfB b hb).1 (aJ (hfB b hb).2 iw.size));(try replace sP:=λb hb=>And.intro (sP b hb).1 (aJ (sP b hb).2 iw.size));replace fH:=ah fH iw;have aa:=nZ _ fH;have FB:=ahr;refine hK.out _ _ (λ_=>aa) ?_;clear hK K;(try simp only[nP])
        refine kL ai (i:=21) (j:=23) (by kernel_rfl) ?fa4 ?fb4
        case' fb4=>
         (refine F9 (i:=23) λK hK=>?_;go_simp);have iw:Ext W (W.alloc (.cells #[.slice none 0 0,.slice none 0 0] 91)):=(by go_grown);have wG:CP (W.alloc (.cells #[.slice none 0 0,.slice none 0 0] 91)) W.heap.size (.slice none 0 0) (.slice none 0 0):=dV _ _;have hpz:wm.heap.size<=W.heap.size:=fH.size;(try have XH:=λb hb=>iH (hfB b hb).2);(try have XG:=λb hb=>iH (sP b hb).2);(try replace FC:=FC.ext iw);(try replace hIB:=hIB.ext iw);(try replace FB:=FB.ext iw);(try replace Aj:=Aj.ext iw);(try replace hP:=hP.ext iw);(try replace hfB:=λb hb=>And.intro (hfB b hb).1 (aJ (hfB b hb).2 iw.size));(try replace sP:=λb hb=>And.intro (sP b hb).1 (aJ (sP b hb).2 iw.size));replace fH:=ah fH iw;have aa:=nZ _ fH;have hP:=wG;clear wG;refine hK.out _ _ (λ_=>aa) ?_;clear hK K;(try simp only[nP]);generalize W.alloc (.cells #[.slice none 0 0,.slice none 0 0] 91)=W1 at *;generalize W.heap.size=p at *;clear iw;obtain⟨W,rfl⟩:=eu W1;clear Gb
        case' fa4=>(refine F9 (i:=21) λK hK=>?_;go_simp)
        all_goals
         first
          |(have hNP:=Gb;clear hNP)
          |(refine kS ai (i:=21) λK hK=>?_;go_simp)
         refine(xY _ _ _ FB (by rw[FX];exact acb)).mono ?_;rintro e W ⟨vD,rfl,aaC,iw,Xm⟩;(try have XG:∀b,vD.ownBlock=some b->b≠p:=λb hb e=>by have h1:=bq hP;have h2:=(Xm b hb).1;omega);have sP:∀b,vD.ownBlock=some b->wm.heap.size<=b/\b<W.heap.size:=λb hb=>⟨df fH.size (Xm b hb).1,(Xm b hb).2⟩
         clear Xm;rw[xl2]at aaC;obtain⟨aD,cD,rfl,-⟩:=id aaC;(try replace FC:=FC.ext iw);(try replace hIB:=hIB.ext iw);(try replace FB:=FB.ext iw);(try replace Aj:=Aj.ext iw);(try replace hP:=hP.ext iw);(try replace hfB:=λb hb=>And.intro (hfB b hb).1 (aJ (hfB b hb).2 iw.size));(try replace sP:=λb hb=>And.intro (sP b hb).1 (aJ (sP b hb).2 iw.size));replace fH:=ah fH iw;have aa:=nZ _ fH;have Aj:=aaC;refine hK.out _ _ (λ_=>aa) ?_;clear hK K;(try simp only[nP])
        all_goals
         (refine bg 22 ai aa ?_)
        (refine kS ai (i:=23) λK hK=>?_;go_simp);have iw:Ext W (W.alloc (.cells #[.slice none 0 0,.slice none 0 0] 91)):=(by go_grown);have wG:CP (W.alloc (.cells #[.slice none 0 0,.slice none 0 0] 91)) W.heap.size (.slice none 0 0) (.slice none 0 0):=dV _ _;have hpz:wm.heap.size<=W.heap.size:=fH.size;(try have XH:=λb hb=>iH (hfB b hb).2);(try have XG:=λb hb=>iH (sP b hb).2);(try replace FC:=FC.ext iw);(try replace hIB:=hIB.ext iw);(try replace FB:=FB.ext iw);(try replace Aj:=Aj.ext iw);(try replace hP:=hP.ext iw);(try replace hfB:=λb hb=>And.intro (hfB b hb).1 (aJ (hfB b hb).2 iw.size));(try replace sP:=λb hb=>And.intro (sP b hb).1 (aJ (sP b hb).2 iw.size));replace fH:=ah fH iw;have aa:=nZ _ fH;have hP:=wG;clear wG;refine hK.out _ _ (λ_=>aa) ?_;clear hK K;(try simp only[nP]);generalize W.alloc (.cells #[.slice none 0 0,.slice none 0 0] 91)=W1 at *;generalize W.heap.size=p at *;clear iw;obtain⟨W,rfl⟩:=eu W1
        all_goals
         have q0:W.cell? ⟨p,0,none⟩=some (.slice none 0 0):=bI W p 0 _ _ _ hP;have q1:W.cell? ⟨p,1,none⟩=some (.slice none 0 0):=bI W p 1 _ _ _ hP;have q2:=iW W p 0 _ _ hP;have q3:=iW W p 1 _ _ hP;refine mM ai [24] [_] ?_;go_wp2_with fail
         go_meet
         case rel=>exact⟨p,aB,_,cB,aD,_,cD,rfl,(DZ fH hpz hP hIB Aj hfB sP XH XG).1,hpz,(DZ fH hpz hP hIB Aj hfB sP XH XG).2⟩
       case rest=>
        obtain⟨p,aB,nB,cB,aD,nD,cD,rfl,tV,hpz,hP,hIB,Aj,hfB,sP⟩:=hcut;obtain⟨gl,cl_,rfl⟩:=HLM.out.s1;obtain⟨gf,cf,rfl⟩:=HLM.out.s2;have HP:=aI hP;have HIB:=aI hIB;have HID:=aI Aj;have HfB:=aI hfB;have HfD:=aI sP;have HXC:=aI tV;have hp0:wc.cell? ⟨p,0,none⟩=some (.slice aB nB cB):=bI wc p 0 _ _ _ hP;have hp1:wc.cell? ⟨p,1,none⟩=some (.slice aD nD cD):=bI wc p 1 _ _ _ hP;have hll:from_.length<=root+1:=iU HL.out.nd (λx hx=>by have:=((HL.out.mem x).1 hx).1;omega);clear hP hIB Aj hfB sP tV p0 p1 p2 p3 p4 FD ac6 Tf ac7;go_upto_block 4 with fail
        go_cut [13] (λii w3=>∃i,i<=from_.length/\ii=.int .i64 ((i:Nat):Int)/\Ext wc w3/\(∀j (h:j<from_.length),j<i->nc (Xn D at_ from_[j]) (Xn D at_ m)<0)/\(∀h:i<from_.length,¬nc (Xn D at_ from_[i]) (Xn D at_ m)<0))
        case first=>
         go_wp2_with fail
         go_loopw [13] (λii w3=>∃i,i<=from_.length/\ii=.int .i64 ((i:Nat):Int)/\Ext wc w3/\Hid (∀j (h:j<from_.length),j<i->nc (Xn D at_ from_[j]) (Xn D at_ m)<0)) (λii _=>from_.length-(intOf ii).toNat)
         case atStart=>exact⟨0,az _,rfl,fJ _ _,λj _ h=>absurd h (by omega)⟩
         case round=>
          obtain⟨i,hi,rfl,hx3,HNC⟩:=hrel;have KZ:=ah HXC.out hx3;have hP3:=HP.out.ext hx3;have hp0:wr.cell? ⟨p,0,none⟩=some (.slice aB nB cB):=bI wr p 0 _ _ _ hP3;have hp1:wr.cell? ⟨p,1,none⟩=some (.slice aD nD cD):=bI wr p 1 _ _ _ hP3;clear hP3;by_cases hlt:i<from_.length
          .obtain⟨xs,hrow,hnr⟩:=HLM.out.rows
           have hrow3:=bW hrow KZ;have acH:=hnr.ext KZ;obtain⟨L,R,e1,e2,e3,e4,-,-⟩:=acH i (by simpa using hlt);rw[fT]at e3 e4;obtain⟨aX,cX,rfl,-⟩:=id e3;obtain⟨aY,cY,rfl,-⟩:=id e4;have cx:=(hrow3.cellAt (i*2) (by omega)).trans e1;have cy:=(hrow3.cellAt (i*2+1) (by omega)).trans e2;have HE3:=aI e3;have HE4:=aI e4;have VG:=aI hx3;clear hrow hnr hrow3 acH e1 e2 e3 e4 KZ hx3;by_cases hnc:nc (Xn D at_ from_[i]) (Xn D at_ m)<0
           .have hd:decide (nc (Xn D at_ from_[i]) (Xn D at_ m)<0)=true:=decide_eq_true hnc
            have HNL:=aI hnc;clear hnc;go_wp2_with fail
            refine mQ (λw'=>w'.cell? ⟨gl,i*2,none⟩=some (.slice aX (bV (Xn D at_ from_[i]).1).length cX)/\w'.cell? ⟨gl,i*2+1,none⟩=some (.slice aY (bV (Xn D at_ from_[i]).2).length cY)/\w'.cell? ⟨p,0,none⟩=some (.slice aB nB cB)/\w'.cell? ⟨p,1,none⟩=some (.slice aD nD cD)) [10,11] wQ ⟨cx,cy,hp0,hp1⟩ (λai aa=>?_);(refine bg 0 ai aa ?_;refine bg 1 ai aa ?_;refine bg 2 ai aa ?_;refine bg 3 ai aa ?_;refine bg 4 ai aa ?_;refine bg 5 ai aa ?_;refine bg 6 ai aa ?_;refine bg 7 ai aa ?_;refine bg 8 ai aa ?_;refine bg 9 ai aa ?_);refine mM ai [10,11] [_,_] ?_;go_wp2_with (go_at_call 121;refine(wu _ _ _ _ (Xn D at_ from_[i]) (Xn D at_ m) _ (HE3.out.ext (by go_grown)) (HE4.out.ext (by go_grown)) (HIB.out.ext (ah VG.out (by go_grown))) (HID.out.ext (ah VG.out (by go_grown)))).mono ?_;rintro e w4 ⟨rfl,hx4⟩;rw[hd])
            go_roundw
            case rel=>exact⟨i+1,by omega,by go_num,ah VG.out (ah (by go_grown) hx4),λj hj hji=>by
             by_cases e:j=i
             .subst e;exact HNL.out
             .exact HNC.out j hj (by omega)⟩
            case measure=>simp[intOf];omega
           .have hd:decide (nc (Xn D at_ from_[i]) (Xn D at_ m)<0)=false:=decide_eq_false hnc
            have HNL:=aI hnc;clear hnc;go_wp2_with fail
            refine mQ (λw'=>w'.cell? ⟨gl,i*2,none⟩=some (.slice aX (bV (Xn D at_ from_[i]).1).length cX)/\w'.cell? ⟨gl,i*2+1,none⟩=some (.slice aY (bV (Xn D at_ from_[i]).2).length cY)/\w'.cell? ⟨p,0,none⟩=some (.slice aB nB cB)/\w'.cell? ⟨p,1,none⟩=some (.slice aD nD cD)) [10,11] wQ ⟨cx,cy,hp0,hp1⟩ (λai aa=>?_);(refine bg 0 ai aa ?_;refine bg 1 ai aa ?_;refine bg 2 ai aa ?_;refine bg 3 ai aa ?_;refine bg 4 ai aa ?_;refine bg 5 ai aa ?_;refine bg 6 ai aa ?_;refine bg 7 ai aa ?_;refine bg 8 ai aa ?_;refine bg 9 ai aa ?_);refine mM ai [10,11] [_,_] ?_;go_wp2_with (go_at_call 121;refine(wu _ _ _ _ (Xn D at_ from_[i]) (Xn D at_ m) _ (HE3.out.ext (by go_grown)) (HE4.out.ext (by go_grown)) (HIB.out.ext (ah VG.out (by go_grown))) (HID.out.ext (ah VG.out (by go_grown)))).mono ?_;rintro e w4 ⟨rfl,hx4⟩;rw[hd])
            go_meet
            case rel=>exact⟨i,by omega,rfl,ah VG.out (ah (by go_grown) hx4),HNC.out,λ_=>by have:=HNL.out;omega⟩
          .have hie:i=from_.length:=by omega
           have hlt':¬((i:Int)<(from_.length:Int)):=(by omega);go_wp2_with fail
           refine mQ (λw'=>w'.cell? ⟨p,0,none⟩=some (.slice aB nB cB)) [11] wQ hp0 (λai aa=>?_);(refine bg 0 ai aa ?_;refine bg 1 ai aa ?_;refine bg 2 ai aa ?_;refine bg 3 ai aa ?_;refine bg 4 ai aa ?_);((refine bK ai (i:=5) (oi:=_) (v:=undef) (by simp only[gE];rfl) (by kernel_rfl) (by exact λ_ _ _ h=>h) aa (Or.inr ⟨by rfl,rfl⟩) ?r53);(try simp only[nP]);(refine bK ai (i:=6) (oi:=_) (v:=undef) (by simp only[gE];rfl) (by kernel_rfl) (by exact λ_ _ _ h=>h) aa (Or.inr ⟨by rfl,rfl⟩) ?r54);(try simp only[nP]);(refine bK ai (i:=7) (oi:=_) (v:=undef) (by simp only[gE];rfl) (by kernel_rfl) (by exact λ_ _ _ h=>h) aa (Or.inr ⟨by rfl,rfl⟩) ?r55);(try simp only[nP]);(refine bK ai (i:=8) (oi:=_) (v:=undef) (by simp only[gE];rfl) (by kernel_rfl) (by exact λ_ _ _ h=>h) aa (Or.inr ⟨by rfl,rfl⟩) ?r56);(try simp only[nP]);(refine bK ai (i:=9) (oi:=_) (v:=undef) (by simp only[gE];rfl) (by kernel_rfl) (by exact λ_ _ _ h=>h) aa (Or.inr ⟨by rfl,rfl⟩) ?r57);(try simp only[nP]);(refine bK ai (i:=10) (oi:=_) (v:=undef) (by simp only[gE];rfl) (by kernel_rfl) (by exact λ_ _ _ h=>h) aa (Or.inr ⟨by rfl,rfl⟩) ?r58);(try simp only[nP]));refine mM ai [11] [_] ?_;go_wp2_with fail
           go_meet
           case rel=>exact⟨from_.length,ax _,rfl,ah hx3 (by go_grown),λj hj _=>HNC.out j hj (by omega),λh=>absurd h (by omega)⟩
        case rest=>
         obtain⟨i,hi,rfl,hx3,HNC,hne⟩:=hcut;obtain⟨w3,rfl⟩:∃w3:World,w3=wc:=⟨_,rfl⟩;have KZ:=ah HXC.out hx3;have hP3:=HP.out.ext hx3;have hp0:w3.cell? ⟨p,0,none⟩=some (.slice aB nB cB):=bI w3 p 0 _ _ _ hP3;have hp1:w3.cell? ⟨p,1,none⟩=some (.slice aD nD cD):=bI w3 p 1 _ _ _ hP3;obtain⟨xs,hrow,hnr⟩:=HLM.out.rows;have hrow3:=bW hrow KZ;have hxl:xs.length=from_.length*2:=hrow.1;obtain⟨hcap1,hcap2⟩:from_.length<=cl_/\cl_<=maxLen:=(by obtain⟨_,_,e,h1,h2⟩:=bu hrow3;simp only[gz]at e;obtain⟨_,_,rfl⟩:=e;exact⟨h1,h2⟩);have hone:=hnr.one (by simpa using hxl);have HNR:=aI hnr;have aed:=aI hrow3;have Ye:=aI KZ;have ail:=aI HNC;have JN:=aI hne;have VG:=aI hx3;have aj0:i<=cl_:=(by omega);clear hP3 hrow hnr hrow3 KZ HNC hne hx3;go_wp2_with fail
         go_cut [9] (λlv w4=>∃g cap xs',lv=.slice (some ⟨g,0,none⟩) (from_.length+1) cap/\Ext w3 w4/\w3.heap.size<=g/\w4.ownsRow w.heap.size 91 2 lv (from_.length+1) xs'/\iD w4 xs' ((from_.take i++m :: from_.drop i).map (Xn D at_)) w.heap.size (KF w o pJ vN))
         case first=>
          have nZ:∀W,Ext w3 W->W.cell? ⟨p,0,none⟩=some (.slice aB nB cB)/\W.cell? ⟨p,1,none⟩=some (.slice aD nD cD):=λW h=>⟨dP h hp0,dP h hp1⟩
          have aik:=HNR.out.ext Ye.out;have HB3:=HIB.out.ext VG.out;have HD3:=HID.out.ext VG.out;have hz3:=VG.out.size;have hkl:=HM.out.klt;have hzm:=HX.out.size;have YI:=hE.size;have ah5:∀b,Value.ownBlock (.slice aB nB cB)=some b->w.heap.size<=b/\b<w3.heap.size/\¬KF w o pJ vN b:=λb hb=>⟨by have:=(HfB.out b hb).1;omega,by have:=(HfB.out b hb).2;omega,λk=>by have:=hkl b k;have:=(HfB.out b hb).1;omega⟩
          have ah3:∀b,Value.ownBlock (.slice aD nD cD)=some b->w.heap.size<=b/\b<w3.heap.size/\¬KF w o pJ vN b:=λb hb=>⟨by have:=(HfD.out b hb).1;omega,by have:=(HfD.out b hb).2;omega,λk=>by have:=hkl b k;have:=(HfD.out b hb).1;omega⟩
          have hw3:w.heap.size<=w3.heap.size:=(by have:=Ye.out.size;omega);refine mQ (λw'=>w'.cell? ⟨p,0,none⟩=some (.slice aB nB cB)/\w'.cell? ⟨p,1,none⟩=some (.slice aD nD cD)) [11,12] Kh ⟨hp0,hp1⟩ (λai aa=>?_);(refine bg 1 ai aa ?_;refine bg 2 ai aa ?_;refine bg 3 ai aa ?_;refine bg 5 ai aa ?_;refine bg 8 ai aa ?_;refine bg 9 ai aa ?_;refine bg 10 ai aa ?_);have fH:Ext w3 w3.drew:=⟨rfl,rfl,rfl,ax _,λ_ _=>rfl⟩;obtain⟨W,hW⟩:=eu w3.drew;rw[<-hW]at fH aa ⊢;clear hW;have Gb:=True.intro;refine kL ai (i:=0) (j:=6) (by kernel_rfl) ?fa5 ?fb5
          case' fb5=>
           (refine F9 (i:=6) λK hK=>?_;go_simp);have iw:Ext W (W.alloc (.cells #[.slice aB nB cB,.slice aD nD cD] 91)):=(by go_grown);have wG:CP (W.alloc (.cells #[.slice aB nB cB,.slice aD nD cD] 91)) W.heap.size (.slice aB nB cB) (.slice aD nD cD):=dV _ _;(try have Ph:=λb hb=>iH (hro.lt b hb).2);(try replace hro:=bW hro iw);have hP:=wG;clear wG;replace fH:=ah fH iw;have aa:=nZ _ fH;refine hK.out _ _ (λ_=>aa) ?_;clear hK K;(try simp only[nP]);generalize W.alloc (.cells #[.slice aB nB cB,.slice aD nD cD] 91)=W1 at *;generalize W.heap.size=q at *;clear iw;obtain⟨W,rfl⟩:=eu W1;clear Gb
          case' fa5=>(refine F9 (i:=0) λK hK=>?_;go_simp)
          all_goals
           first
            |(have hNP:=Gb;clear hNP)
            |(refine kS ai (i:=0) λK hK=>?_;go_simp)
           have iw:Ext W (W.alloc (.cells #[] 91)):=(by go_grown);have vU:(W.alloc (.cells #[] 91)).ownsRow w3.heap.size 91 2 (.slice (some ⟨W.heap.size,0,none⟩) 0 0) 0 []:=World.ownsRow_made W #[] 0 fH.size (by decide) (by simp);(try have Ph:∀b,Value.ownBlock (.slice (some ⟨W.heap.size,0,none⟩) 0 0)=some b->b≠q:=λb hb e=>by have h1:=bq hP;simp[Value.ownBlock]at hb;omega);(try replace hP:=hP.ext iw);have hro:=vU;clear vU;replace fH:=ah fH iw;have aa:=nZ _ fH;refine hK.out _ _ (λ_=>aa) ?_;clear hK K;(try simp only[nP]);generalize W.alloc (.cells #[] 91)=W1 at *;generalize W.heap.size=h0 at *;clear iw;obtain⟨W,rfl⟩:=eu W1
          refine kL ai (i:=4) (j:=6) (by kernel_rfl) ?fa6 ?fb6
          case' fb6=>
           (refine F9 (i:=6) λK hK=>?_;go_simp);have iw:Ext W (W.alloc (.cells #[.slice aB nB cB,.slice aD nD cD] 91)):=(by go_grown);have wG:CP (W.alloc (.cells #[.slice aB nB cB,.slice aD nD cD] 91)) W.heap.size (.slice aB nB cB) (.slice aD nD cD):=dV _ _;(try have Ph:=λb hb=>iH (hro.lt b hb).2);(try replace hro:=bW hro iw);have hP:=wG;clear wG;replace fH:=ah fH iw;have aa:=nZ _ fH;refine hK.out _ _ (λ_=>aa) ?_;clear hK K;(try simp only[nP]);generalize W.alloc (.cells #[.slice aB nB cB,.slice aD nD cD] 91)=W1 at *;generalize W.heap.size=q at *;clear iw;obtain⟨W,rfl⟩:=eu W1;clear Gb
          case' fa6=>refine F9 (i:=4) λK hK=>?_
          all_goals
           first
            |(have hNP:=Gb;clear hNP)
            |refine kS ai (i:=4) λK hK=>?_
           refine gu rfl (.tmp 94) (.tmp 97) 28 rfl w3.heap.size 91 i1 (.agg #[.slice none 0 0,.slice none 0 0]) 2 48 underlying28 hi1 hy0 hy1 hy2 rfl (by decide) (.slice (some ⟨h0,0,none⟩) 0 0) 0 [] rfl hro _ i _ ((xs.drop 0).take (i*2)) rfl (by simp;omega) (.inr ⟨⟨gl,0,none⟩,rfl,xH aed.out fH 0 (i*2) (by omega)⟩) (λu hu=>hone u (rO (gy hu))) (by unfold maxLen;omega) (by omega) fH.size ?_;intro v1 W K8 hg1 hl1;simp only[gQ,gX,List.drop_zero]at K8;(try have ZU:=WC hP hl1 Ph);(try replace hP:=CP.grown hP hg1 Ph);(try replace Ph:=ZU);replace fH:=dw fH hg1 (λk hk=>(hro.lt k hk).1);replace hro:=K8;clear K8;have aa:=nZ _ fH;refine hK.out _ _ (λ_=>aa) ?_;clear hK K;(try simp only[nP])
          (refine kS ai (i:=6) λK hK=>?_;go_simp);have iw:Ext W (W.alloc (.cells #[.slice aB nB cB,.slice aD nD cD] 91)):=(by go_grown);have wG:CP (W.alloc (.cells #[.slice aB nB cB,.slice aD nD cD] 91)) W.heap.size (.slice aB nB cB) (.slice aD nD cD):=dV _ _;(try have Ph:=λb hb=>iH (hro.lt b hb).2);(try replace hro:=bW hro iw);have hP:=wG;clear wG;replace fH:=ah fH iw;have aa:=nZ _ fH;refine hK.out _ _ (λ_=>aa) ?_;clear hK K;(try simp only[nP]);generalize W.alloc (.cells #[.slice aB nB cB,.slice aD nD cD] 91)=W1 at *;generalize W.heap.size=q at *;clear iw;obtain⟨W,rfl⟩:=eu W1
          all_goals
           refine kS ai (i:=7) λK hK=>?_
           refine gu rfl (.tmp 98) (.tmp 100) 28 rfl w3.heap.size 91 i1 (.agg #[.slice none 0 0,.slice none 0 0]) 2 48 underlying28 hi1 hy0 hy1 hy2 rfl (by decide) v1 i (xs.take (i*2)) rfl hro _ 1 _ [.slice aB nB cB,.slice aD nD cD] rfl rfl (.inr ⟨⟨q,0,none⟩,rfl,Hq hP⟩) xC (by unfold maxLen;omega) (by omega) fH.size ?_;intro v2 W IV hg2 hl2;replace fH:=dw fH hg2 (λk hk=>(hro.lt k hk).1);have aa:=nZ _ fH;refine hK.out _ _ (λ_=>aa) ?_;clear hK K;(try simp only[nP]);refine kS ai (i:=11) λK hK=>?_
           refine gu rfl (.tmp 101) (.tmp 104) 28 rfl w3.heap.size 91 i1 (.agg #[.slice none 0 0,.slice none 0 0]) 2 48 underlying28 hi1 hy0 hy1 hy2 rfl (by decide) v2 (i+1) (xs.take (i*2)++[.slice aB nB cB,.slice aD nD cD]) rfl IV _ (from_.length-i) _ ((xs.drop (i*2)).take ((from_.length-i)*2)) rfl (by simp;omega) (by
            rcases fe i from_.length with h|h
            .exact .inr ⟨⟨gl,i*2,none⟩,by first|rfl|(rw[if_neg (by omega)]),xH aed.out fH (i*2) ((from_.length-i)*2) (by omega)⟩
            .exact .inl (by omega)) (λu hu=>hone u (rO (gy hu))) (by unfold maxLen;omega) (by omega) fH.size ?_
           intro v3 W IU hg3 hl3;replace fH:=dw fH hg3 (λk hk=>(IV.lt k hk).1);have aa:=nZ _ fH;refine hK.out _ _ (λ_=>aa) ?_;clear hK K;(try simp only[nP]);refine mM ai [12] [_] ?_;go_wp2_with fail
           all_goals (go_meet;exact IG IU aik fH hxl hi HB3 HD3 ah5 ah3 hw3)
         case rest=>
          obtain⟨g5,c5,xs5,rfl,hx4,hg5,WX,Xa⟩:=hcut;obtain⟨w4,rfl⟩:∃w4:World,w4=wc:=⟨_,rfl⟩;have ZO:=ah Ye.out hx4;have ZR:=bW HLM.out.Ny ZO;obtain⟨aj3,aj2⟩:from_.length<=cf/\cf<=maxLen:=(by obtain⟨_,_,e,h1,h2⟩:=bu ZR;simp only[gz]at e;obtain⟨_,_,rfl⟩:=e;exact⟨h1,h2⟩);have aee:=aI ZR;have aeb:=aI ZO;have aic:=aI WX;have aij:=aI Xa;have HX4:=aI hx4;have aj1:i<=cf:=(by omega);have Nl:=hx4.size;clear hx4 WX Xa ZR ZO hp0 hp1;go_wp2_with fail
          have hw4:w.heap.size<=w4.heap.size:=(by have:=aeb.out.size;have:=HX.out.size;have:=hE.size;omega);have nZ:∀W,Ext w4 W->True:=λ_ _=>trivial
          refine mQ (λw'=>True) [11,12] Kg trivial (λai aa=>?_);(refine bg 1 ai aa ?_;refine bg 2 ai aa ?_;refine bg 3 ai aa ?_;refine bg 5 ai aa ?_;refine bg 8 ai aa ?_;refine bg 9 ai aa ?_;refine bg 10 ai aa ?_);have fH:Ext w4 w4.drew:=⟨rfl,rfl,rfl,ax _,λ_ _=>rfl⟩;obtain⟨W,hW⟩:=eu w4.drew;rw[<-hW]at fH ⊢;clear hW;have Gb:=True.intro;refine kL ai (i:=0) (j:=6) (by kernel_rfl) ?fa7 ?fb7
          case' fb7=>
           (refine F9 (i:=6) λK hK=>?_;go_simp);have iw:Ext W (W.alloc (.cells #[.int .i64 ((m:Nat):Int)] 3)):=(by go_grown);have wG:Qb (W.alloc (.cells #[.int .i64 ((m:Nat):Int)] 3)) W.heap.size (.int .i64 ((m:Nat):Int)):=dV _ _;(try have Ph:=λb hb=>iH (hro.lt b hb).2);(try replace hro:=bW hro iw);have hP:=wG;clear wG;replace fH:=ah fH iw;have aa:=nZ _ fH;refine hK.out _ _ (λ_=>aa) ?_;clear hK K;(try simp only[nP]);generalize W.alloc (.cells #[.int .i64 ((m:Nat):Int)] 3)=W1 at *;generalize W.heap.size=q at *;clear iw;obtain⟨W,rfl⟩:=eu W1;clear Gb
          case' fa7=>(refine F9 (i:=0) λK hK=>?_;go_simp)
          all_goals
           first
            |(have hNP:=Gb;clear hNP)
            |(refine kS ai (i:=0) λK hK=>?_;go_simp)
           have iw:Ext W (W.alloc (.cells #[] 3)):=(by go_grown);have vU:(W.alloc (.cells #[] 3)).ownsRow w4.heap.size 3 1 (.slice (some ⟨W.heap.size,0,none⟩) 0 0) 0 []:=World.ownsRow_made W #[] 0 fH.size (by decide) (by simp);(try have Ph:∀b,Value.ownBlock (.slice (some ⟨W.heap.size,0,none⟩) 0 0)=some b->b≠q:=λb hb e=>by have h1:=bq hP;simp[Value.ownBlock]at hb;omega);(try replace hP:=hP.ext iw);have hro:=vU;clear vU;replace fH:=ah fH iw;have aa:=nZ _ fH;refine hK.out _ _ (λ_=>aa) ?_;clear hK K;(try simp only[nP]);generalize W.alloc (.cells #[] 3)=W1 at *;generalize W.heap.size=h0 at *;clear iw;obtain⟨W,rfl⟩:=eu W1
          refine kL ai (i:=4) (j:=6) (by kernel_rfl) ?fa8 ?fb8
          case' fb8=>
           (refine F9 (i:=6) λK hK=>?_;go_simp);have iw:Ext W (W.alloc (.cells #[.int .i64 ((m:Nat):Int)] 3)):=(by go_grown);have wG:Qb (W.alloc (.cells #[.int .i64 ((m:Nat):Int)] 3)) W.heap.size (.int .i64 ((m:Nat):Int)):=dV _ _;(try have Ph:=λb hb=>iH (hro.lt b hb).2);(try replace hro:=bW hro iw);have hP:=wG;clear wG;replace fH:=ah fH iw;have aa:=nZ _ fH;refine hK.out _ _ (λ_=>aa) ?_;clear hK K;(try simp only[nP]);generalize W.alloc (.cells #[.int .i64 ((m:Nat):Int)] 3)=W1 at *;generalize W.heap.size=q at *;clear iw;obtain⟨W,rfl⟩:=eu W1;clear Gb
          case' fa8=>refine F9 (i:=4) λK hK=>?_
          all_goals
           first
            |(have hNP:=Gb;clear hNP)
            |refine kS ai (i:=4) λK hK=>?_
           refine gu rfl (.tmp 106) (.tmp 109) 41 rfl w4.heap.size 3 i0 (.int .i64 0) 1 8 underlying41 hi0 hz0 hz1 hz2 rfl (by decide) (.slice (some ⟨h0,0,none⟩) 0 0) 0 [] rfl hro _ i _ ((((bV from_).map (Value.int .i64)).drop 0).take i) rfl (by simp[aP];omega) (.inr ⟨⟨gf,0,none⟩,rfl,xH aee.out fH 0 i (by omega)⟩) (λu hu=>jP _ u (rO (gy hu))) (by unfold maxLen;omega) (by omega) fH.size ?_;intro v1 W K8 hg1 hl1;simp only[gQ,gX,List.drop_zero]at K8;(try have ZU:=RS hP hl1 Ph);(try replace hP:=Qb.grown hP hg1 Ph);(try replace Ph:=ZU);replace fH:=dw fH hg1 (λk hk=>(hro.lt k hk).1);replace hro:=K8;clear K8;have aa:=nZ _ fH;refine hK.out _ _ (λ_=>aa) ?_;clear hK K;(try simp only[nP])
          (refine kS ai (i:=6) λK hK=>?_;go_simp);have iw:Ext W (W.alloc (.cells #[.int .i64 ((m:Nat):Int)] 3)):=(by go_grown);have wG:Qb (W.alloc (.cells #[.int .i64 ((m:Nat):Int)] 3)) W.heap.size (.int .i64 ((m:Nat):Int)):=dV _ _;(try have Ph:=λb hb=>iH (hro.lt b hb).2);(try replace hro:=bW hro iw);have hP:=wG;clear wG;replace fH:=ah fH iw;have aa:=nZ _ fH;refine hK.out _ _ (λ_=>aa) ?_;clear hK K;(try simp only[nP]);generalize W.alloc (.cells #[.int .i64 ((m:Nat):Int)] 3)=W1 at *;generalize W.heap.size=q at *;clear iw;obtain⟨W,rfl⟩:=eu W1
          all_goals
           refine kS ai (i:=7) λK hK=>?_
           refine gu rfl (.tmp 110) (.tmp 112) 41 rfl w4.heap.size 3 i0 (.int .i64 0) 1 8 underlying41 hi0 hz0 hz1 hz2 rfl (by decide) v1 i (((bV from_).map (Value.int .i64)).take i) rfl hro _ 1 _ [.int .i64 ((m:Nat):Int)] rfl rfl (.inr ⟨⟨q,0,none⟩,rfl,dA (bI W q 0 _ _ _ hP)⟩) one_cell (by unfold maxLen;omega) (by omega) fH.size ?_;intro v2 W IV hg2 hl2;replace fH:=dw fH hg2 (λk hk=>(hro.lt k hk).1);have aa:=nZ _ fH;refine hK.out _ _ (λ_=>aa) ?_;clear hK K;(try simp only[nP]);refine kS ai (i:=11) λK hK=>?_
           refine gu rfl (.tmp 113) (.tmp 116) 41 rfl w4.heap.size 3 i0 (.int .i64 0) 1 8 underlying41 hi0 hz0 hz1 hz2 rfl (by decide) v2 (i+1) (((bV from_).map (Value.int .i64)).take i++[.int .i64 ((m:Nat):Int)]) rfl IV _ (from_.length-i) _ ((((bV from_).map (Value.int .i64)).drop i).take (from_.length-i)) rfl (by simp[aP]) (by
            rcases fe i from_.length with h|h
            .exact .inr ⟨⟨gf,i,none⟩,by first|rfl|(rw[if_neg (by omega)]),xH aee.out fH i (from_.length-i) (by omega)⟩
            .exact .inl (by omega)) (λu hu=>jP _ u (rO (gy hu))) (by unfold maxLen;omega) (by omega) fH.size ?_
           intro v3 W IU hg3 hl3;replace fH:=dw fH hg3 (λk hk=>(IV.lt k hk).1);have aa:=nZ _ fH;refine hK.out _ _ (λ_=>aa) ?_;clear hK K;(try simp only[nP]);refine mM ai [12] [_] ?_;go_wp2_with fail
           all_goals go_roundw
           all_goals first
            |exact Oe HB.out.good HF.out hr HL.out La.out hbm hmt hi ail.out (λh=>by have:=JN.out h;omega) (ah HX.out aeb.out) fH aic.out aij.out (by have:=HX.out.size;have:=Ye.out.size;omega) (IE IU fH hi hw4) HM.out.klt
            |(simp[intOf];omega)
      .have hbn:((born (vl D m):Int)== (b:Int))=false:=by rw[beq_eq_false_iff_ne];omega
       have amW:¬((born (vl D m):Int)=(b:Int)):=(by omega);go_wp2
       go_roundw
       case rel=>exact⟨m+1,from_,by omega,by go_num,HL.out.skip (λh=>hbm h.2),HX.out,HLM.out⟩
       case measure=>simp[intOf];omega
    .have hme:m=root+1:=by omega
     subst hme;have hlt':¬(((root+1:Nat):Int)<=(root:Int)):=(by omega);obtain⟨gl,cl_,rfl⟩:=hLM.s1;obtain⟨gf,cf,rfl⟩:=hLM.s2;have HL:=aI hL;have hM1:=HM.out.ext' hx;have hN1:=bW HN.out hx;have hfl:from_.length<=root+1:=iU hL.nd (λx hx=>by have:=((hL.mem x).1 hx).1;omega);have Ak:F.length<=root+1:=by
      rw[<-HF.out.len];exact iU HF.out.nd (λx hx=>by have:=aZ.mf HB.out.good.wf ((HF.out.mem x).1 hx).1;omega)
     clear hL hx;go_wp2
     go_loopw [14] (λii wr=>∃i Yt at2,i<=from_.length/\ii=.int .i64 ((i:Nat):Int)/\vZ w wr o pJ Yt root (F++(from_.map (Xn D at_)).take i) at2/\PX w wr (KF w o pJ Yt) (.slice (some ⟨gl,0,none⟩) from_.length cl_) (.slice (some ⟨gf,0,none⟩) from_.length cf) from_ (Xn D at_)/\
      wr.ownsRow 0 4 1 (.slice (some ⟨wH,0,none⟩) (root+1) TV) (root+1) (bs.map Value.bool)/\¬KF w o pJ Yt wH/\at2.length=root+1/\Hid (∀j (h:j<from_.length),j<i->at2[from_[j]]?=some (F.length+j))/\Hid (∀y,(∀j (h:j<from_.length),j<i->from_[j]≠y)->at2[y]?=at_[y]?)) (λii _=>from_.length-(intOf ii).toNat)
     case atStart=>exact⟨0,vN,at_,az _,rfl,by simpa using hM1,hLM,hN1,HK.out,HF.out.atl,λj _ h=>absurd h (by omega),λy _=>rfl⟩
     case round=>
      clear hM1 hN1 hLM;obtain⟨i,Yt,at2,hi,rfl,hM2,XB,LD,hK2,hl2,HA,HA2⟩:=hrel;obtain⟨Fi,hFi⟩:=eu (F++(from_.map (Xn D at_)).take i);rw[<-hFi]at hM2;have hlN:Fi.length=F.length+i:=(by rw[hFi];simp;omega);have HFi:=aI hFi;have wK:=aI hlN;clear hFi;by_cases hlt:i<from_.length
      .have hlt':((i:Int)<(from_.length:Int)):=by omega
       obtain⟨xsN,vU,Lh⟩:=hM2.nodes;obtain⟨aN,yx,rfl,amP,amO⟩:=bu vU;obtain⟨xs,hrow,hnr⟩:=XB.rows;obtain⟨L,R,e1,e2,e3,e4,e5,e6⟩:=hnr i (by simpa using hlt);rw[fT]at e3 e4;obtain⟨aX,cX,rfl,-⟩:=id e3;obtain⟨aY,cY,rfl,-⟩:=id e4;have cx:=(hrow.cellAt (i*2) (by omega)).trans e1;have cy:=(hrow.cellAt (i*2+1) (by omega)).trans e2;have cf1:wr.cell? ⟨gf,i,none⟩=some (.int .i64 ((from_[i]:Nat):Int)):=(by rw[XB.Ny.cellAt i (by omega)];simp[bV,hlt]);have wY:from_[i]<root+1:=((HL.out.mem _).1 (aj hlt)).1;obtain⟨av,hav⟩:∃a,at2[from_[i]]?=some a:=⟨_,ae (l:=at2) (i:=from_[i]) (by omega)⟩;have cat:wr.cell? ⟨pJ,from_[i],none⟩=some (.int .i64 ((av:Nat):Int)):=(by rw[hM2.X5.cellAt _ (by omega)];simp[bV,hav]);have fat:=hM2.X5.frozenAt from_[i];have co:=bI wr o 0 _ _ _ hM2.out;have Zj:=aI hM2;have ael:=aI XB;have vY:=aI LD;have HK2:=aI hK2;have HXR:=aI wY;clear hM2 XB LD hK2 vU Lh hrow hnr e1 e2;generalize hxd:from_[i]=xd at *;have hxi:((xd:Nat):Int)<(root:Int)+1:=(by have:=HXR.out;omega);clear hlN;go_wp2_with fail
       refine mQ (λw'=>w'.cell? ⟨gf,i,none⟩=some (.int .i64 ((xd:Nat):Int))/\w'.cell? ⟨o,0,none⟩=some (.slice aN Fi.length yx)) [9] Ke ⟨cf1,co⟩ (λai aa=>?_);(refine bg 0 ai aa ?_;refine bg 1 ai aa ?_;refine bg 2 ai aa ?_;refine bg 3 ai aa ?_;refine bg 4 ai aa ?_;refine bg 5 ai aa ?_;refine bg 6 ai aa ?_;refine bg 7 ai aa ?_;refine bg 8 ai aa ?_);refine mM ai [9] [_] ?_;go_wp2_with fail
       obtain⟨oD,hk3⟩:=Zj.out.setAt xd Fi.length;generalize wr.setCell ⟨pJ,xd,none⟩ (.int .i64 ((Fi.length:Nat):Int))=W at *;have Tv:=ael.out.keep hk3 (λ_ h=>h) (λ_ k=>.inl k);have hN3:=aV vY.out hk3 (λb hb k=>by simp[Value.ownBlock]at hb;subst hb;exact HK2.out k);have hdr:Ext W W.drew:=⟨rfl,rfl,rfl,ax _,λ_ _=>rfl⟩;have agW:Ext W W.drew.drew:=⟨rfl,rfl,rfl,ax _,λ_ _=>rfl⟩;obtain⟨xsN,vU,Lh⟩:=oD.nodes;have iw:xsN.length=Fi.length*2:=vU.1;obtain⟨xs,hrow,hnr⟩:=Tv.rows;obtain⟨L,R,e1,e2,e3,e4,e5,e6⟩:=hnr i (by simpa using hlt);rw[fT,hxd]at e3 e4;obtain⟨aX,cX,rfl,-⟩:=id e3;obtain⟨aY,cY,rfl,-⟩:=id e4;have cx:=(hrow.cellAt (i*2) (by omega)).trans e1;have cy:=(hrow.cellAt (i*2+1) (by omega)).trans e2;have co:=bI W o 0 _ _ _ oD.out;have ao:=oD.a1;have agl:gl≠o/\∀b,Value.ownBlock (.slice aN Fi.length yx)=some b->gl≠b:=⟨λe=>Tv.k1 gl rfl (.inl e),λb hb e=>Tv.k1 gl rfl (.inr (.inr (.inr (by rw[hb,e]))))⟩;have JC:=aI oD;have aiq:=aI Tv;have HN3:=aI hN3;have HK3:=aI hk3;have HRN:=aI vU;have HNR:=aI Lh;have E3:=aI e3;have E4:=aI e4;have E5:=aI e5;have E6:=aI e6;clear oD hk3 Tv hN3 vU Lh hrow hnr e1 e2 e3 e4 e5 e6 Zj ael vY aa fat cat cf1;refine mQ (λw'=>w'.cell? ⟨gl,i*2,none⟩=some (.slice aX (bV (Xn D at_ xd).1).length cX)/\w'.cell? ⟨gl,i*2+1,none⟩=some (.slice aY (bV (Xn D at_ xd).2).length cY)/\w'.cell? ⟨o,0,none⟩=some (.slice aN Fi.length yx)) [7,8,9] Kc ⟨cx,cy,co⟩ (λai aa=>?_);(refine bg 0 ai aa ?_;refine bg 1 ai aa ?_;refine bg 2 ai aa ?_;refine bg 3 ai aa ?_;refine bg 4 ai aa ?_;refine bg 5 ai aa ?_);(refine kS ai (i:=6) λK hK=>?_;go_simp);have hx6:Ext W (W.alloc (.cells #[.slice aX (bV (Xn D at_ xd).1).length cX,.slice aY (bV (Xn D at_ xd).2).length cY] 91)).drew.drew:=Below.drew (Below.drew (by go_grown));have hq6:(W.alloc (.cells #[.slice aX (bV (Xn D at_ xd).1).length cX,.slice aY (bV (Xn D at_ xd).2).length cY] 91)).heap[W.heap.size]?=some (.cells #[.slice aX (bV (Xn D at_ xd).1).length cX,.slice aY (bV (Xn D at_ xd).2).length cY] 91 (0,0)):=dV _ _;refine hK.out _ _ (λ_=>⟨dP hx6 cx,dP hx6 cy,dP hx6 co⟩) ?_;clear hK K;(try simp only[nP]);refine mM ai [7,8,9] [_,_,_] ?_;have hzW:=hx6.size;have hlN:=wK.out;refine dm rfl (.tmp 134) (.tmp 139) 28 rfl w.heap.size 91 i1 (.agg #[.slice none 0 0,.slice none 0 0]) 2 48 underlying28 hi1 hy0 hy1 hy2 rfl (by decide) (.slice aN Fi.length yx) Fi.length xsN rfl (bW HRN.out hx6) _ 1 _ [.slice aX (bV (Xn D at_ xd).1).length cX,.slice aY (bV (Xn D at_ xd).2).length cY] rfl rfl (.inr ⟨⟨W.heap.size,0,none⟩,rfl,Hq (q:=W.heap.size) hq6⟩) xC (by unfold maxLen;omega) (by omega) (by have:=JC.out.ext.size;omega) ?_;intro v7 w7 zf zS Lj;obtain⟨Qk,SK,hK7⟩:=JC.out.push (wd:=W.drew.drew) HNR.out iw agW rfl E3.out E4.out E5.out E6.out zS zf Lj;have co7:w7.cell? ⟨o,0,none⟩=some (.slice aN Fi.length yx):=zS.cell (dP hx6 co) (λe=>ao e.symm);have hb7:w7.heap[o]?=some (.cells #[.slice aN Fi.length yx] 30 (0,0)):=by
        rw[zS.block o (aJ (lt_of_cell co) hzW) (λe=>ao e.symm),hx6.block o (lt_of_cell co)];exact JC.out.out
       have fo7:=iW w7 o 0 _ _ hb7;obtain⟨a7,anY,rfl,_,_⟩:=bu zf;have aeR:=(HN3.out.lt wH rfl).2;clear zf zS Lj hb7 hlN;(try simp only[nP]);go_wp2_with fail
       go_roundw
       case rel=>
        have hX:(from_.map (Xn D at_)).take (i+1)=(from_.map (Xn D at_)).take i++[Xn D at_ xd]:=by
         rw[aW (by simpa using hlt),fT,hxd]
        refine⟨i+1,_,at2.set xd Fi.length,by omega,by go_num,?_,aiq.out.keep SK (λ_ h=>h) hK7,aV HN3.out SK (λb hb k=>?_),λk=>?_,by simpa using hl2,?_,?_⟩
        .rw[hX,<-dh,<-HFi.out];exact Qk
        .simp[Value.ownBlock]at hb;subst hb;exact HK2.out k
        .rcases hK7 _ k with k|k
         .exact HK2.out k
         .omega
        .exact Kn HL.out.nd hlt hxd (by rw[hl2];exact HXR.out) wK.out HA.out
        .exact Ko hlt hxd HA2.out
       case measure=>simp[intOf];omega
      .have hie:i=from_.length:=by omega
       have hlt':¬((i:Int)<(from_.length:Int)):=(by omega);have HIE:=aI hie;have Zj:=aI hM2;clear hie hM2;go_wp2
       go_roundw
       case rel=>
        refine⟨b+1,Yt,F++from_.map (Xn D at_),idx++from_,at2,by go_num,by omega,HF.out.next HB.out.good HL.out hl2 (λj hj=>HA.out j hj (by have:=HIE.out;omega)) (λy hy=>HA2.out y (λj hj _ e=>hy (e ▸ aj hj))),?_,LD,hK2⟩;have h:=Zj.out;rw[HFi.out,dH (by have:=HIE.out;simp;omega)]at h;exact h
       case measure=>simp[intOf];omega
  .have hbe:b=born (vl D root)+1:=by omega
   have amT:¬((b:Int)<=(born (vl D root):Int)):=(by omega);obtain⟨xsN,vU,Lh⟩:=hM.nodes;obtain⟨aN,yx,rfl,_,_⟩:=bu vU;have co:=bI wo o 0 _ _ _ hM.out;have cr:=bI wo w.heap.size 0 _ _ _ hM.res;rw[hbe]at hF;have hfin:=hF.last HB.out.good hr;have hks:=dx (w:=wo) (p:=⟨w.heap.size,0,none⟩) (v:=.slice aN F.length yx);have IV:=aV vU hks (λb hb e=>hM.a3 (by rw[hb,e]));have acI:=Lh.keep hks (λb e=>.inr (.inr (.inl e))) (λb k=>.inl k);have hres:=eZ.dX IV acI;have Tx:Ext w (wo.setCell ⟨w.heap.size,0,none⟩ (.slice aN F.length yx)):=hE.setCell (p:=⟨w.heap.size,0,none⟩) (ax _) _;have Za:=World.cell?_setCell_same wo ⟨w.heap.size,0,none⟩ (.slice aN F.length yx) cr;have hh:=iV wo w.heap.size 0 _ _ (.slice aN F.length yx) hM.res;have HH:Hid ((wo.setCell ⟨w.heap.size,0,none⟩ (.slice aN F.length yx)).heap[w.heap.size]?=some (.cells #[.slice aN F.length yx] 30 (0,0))):=hh;have aet:=aI hfin;have P5:=aI hres;have HEW:=aI Tx;clear hF hM vU Lh IV acI hks zQ hK cb2 hfin hres Tx hbe hh;go_wp2
   (try simp only[Exit.inBlock,Exit.then]);refine bodyPost_ret (results_cell_row rfl _ _ w.heap.size 30 #[.slice aN F.length yx] (0,0) _ rfl HH.out underlying30 rfl (by kernel_rfl)) rfl ?_;exact⟨_,rfl,F,P5.out,aet.out.1,aet.out.2,HEW.out⟩
