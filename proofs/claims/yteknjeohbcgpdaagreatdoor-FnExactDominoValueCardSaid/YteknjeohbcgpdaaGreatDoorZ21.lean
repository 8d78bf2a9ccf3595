/-
  Contract of the book's form.
-/
import Derived.Test.YteknjeohbcgpdaaGreatDoorZ13
import Derived.Test.YteknjeohbcgpdaaGreatDoorZ14
import Derived.Deep.DeepCutAuto
import Derived.Deep.CutBlock
set_option maxRecDepth 100000
namespace Go.Proofs.YteknjeohbcgpdaaGreatDoor
open Tryz
open Go.RowKit
open Cgt (Dag Nd vl nc born)
theorem bu.Ry {w:World} {pb:Nat} {vn vb:Value} {D:Dag} (h:bu w pb vn vb D) (h0:0<D.length) :
 ∃ gb cb,vb=.slice (some ⟨gb,0,none⟩) D.length cb∧∀ W,Ext w W→W.cell? ⟨pb,1,none⟩=some (.slice (some ⟨gb,0,none⟩) D.length cb)∧∀ x,x<D.length→W.cell? ⟨gb,x,none⟩=some (.int .i64 (Cgt.born (vl D x):Int)):=by
 obtain⟨gb,cb,rfl,_,_,_⟩:=h.p9 h0
 refine⟨gb,cb,rfl,fun W hW=>⟨(h.ext hW).cell1,fun x hx=>?_⟩⟩
 obtain⟨g,c,e,_,_,hc⟩:=(h.ext hW).p9 hx
 simp only[Value.slice.injEq,Option.some.injEq,Addr.mk.injEq,and_true,true_and] at e
 obtain⟨rfl,rfl⟩:=e
 exact hc
theorem wy (at_ l:List Nat):atZ (toZ at_) (toZ l)=toZ (l.map fun x=>at_.getD x 0):=by
 unfold atZ toZ
 rw[List.map_map,List.map_map]
 refine List.map_congr_left fun x _=>?_
 simp only[Function.comp,zat,Int.toNat_natCast,List.getElem?_map,List.getD_eq_getElem?_getD]
 cases at_[x]? <;> rfl
theorem NY {D:Dag} {at_:List Nat} {m:Nat} (hm:m<D.length):dO (atZ (toZ at_) (toZ (D[m]).1))=toZ (Xn D at_ m).1∧dO (atZ (toZ at_) (toZ (D[m]).2))=toZ (Xn D at_ m).2:=by
 rw[wy,wy,gD,gD,Xn,lq hm,jZ hm];exact⟨rfl,rfl⟩
theorem nZ {D:Dag} (g:Cgt.Good D) {m:Nat} (hm:m<D.length):(D[m]).1.length≤m∧(D[m]).2.length≤m:=by
 have h:=g.asc _ (List.getElem_mem hm)
 have hw:=g.wf m _ (List.getElem?_eq_getElem hm)
 exact⟨fT (iF h.1) hw.1,fT (iF h.2) hw.2⟩
def PAt (w:World) (p:Nat) (L R:Value):Prop:=w.heap[p]?=some (.cells #[L,R] 89 (0,0))
theorem PAt.ext {w w':World} {p:Nat} {L R:Value} (h:PAt w p L R) (hx:Ext w w'):PAt w' p L R:=by unfold PAt at *;rw[hx.block p (ah h)];exact h
theorem iB {wr W:World} {p:Nat} {vB vD L R:Value} {l r:List Int} (hEx:Ext wr W) (hpz:wr.heap.size≤p) (hP:PAt W p L R) (hIB:Ints W vB l) (hID:Ints W vD r)
 (hfB:∀ b,vB.ownBlock=some b→wr.heap.size≤b∧b<W.heap.size) (hfD:∀ b,vD.ownBlock=some b→wr.heap.size≤b∧b<W.heap.size) (hBp:∀ b,vB.ownBlock=some b→b≠p) (hDp:∀ b,vD.ownBlock=some b→b≠p) :
 Ext wr ((W.setCell ⟨p,0,none⟩ vB).setCell ⟨p,1,none⟩ vD)∧PAt ((W.setCell ⟨p,0,none⟩ vB).setCell ⟨p,1,none⟩ vD) p vB vD∧Ints ((W.setCell ⟨p,0,none⟩ vB).setCell ⟨p,1,none⟩ vD) vB l∧Ints ((W.setCell ⟨p,0,none⟩ vB).setCell ⟨p,1,none⟩ vD) vD r ∧
 (∀ b,vB.ownBlock=some b→wr.heap.size≤b∧b<((W.setCell ⟨p,0,none⟩ vB).setCell ⟨p,1,none⟩ vD).heap.size)∧(∀ b,vD.ownBlock=some b→wr.heap.size≤b∧b<((W.setCell ⟨p,0,none⟩ vB).setCell ⟨p,1,none⟩ vD).heap.size):=by
 have e:∀ k,k≠p→((W.setCell ⟨p,0,none⟩ vB).setCell ⟨p,1,none⟩ vD).heap[k]?=W.heap[k]?:=fun k hk=>by rw[heap_setCell_other _ _ _ _ (by exact hk),heap_setCell_other _ _ _ _ (by exact hk)]
 refine⟨(hEx.setCell (p:=⟨p,0,none⟩) hpz _).setCell (p:=⟨p,1,none⟩) hpz _,?_,hIB.keep (fun b _ hb=>e b (hBp b hb)),hID.keep (fun b _ hb=>e b (hDp b hb)),by simpa using hfB,by simpa using hfD⟩
 exact heap_setCell_same _ _ _ _ _ _ (heap_setCell_same _ _ _ _ _ _ hP)
theorem PAt.grown {W W':World} {q:Nat} {L R v:Value} (h:PAt W q L R) (hg:W.grownBy W' v.ownBlock) (hq:∀ b,v.ownBlock=some b→b≠q):PAt W' q L R:=by
 unfold PAt at *;rw[hg.block q (ah h) (fun e=>hq q e.symm rfl)];exact h
theorem zw {W:World} {q:Nat} {L R v v':Value} (h:PAt W q L R) (hl:eU W v v') (hq:∀ b,v.ownBlock=some b→b≠q):∀ b,v'.ownBlock=some b→b≠q:=by
 intro b hb e
 have hlt:=ah h
 rcases hl with h1 | ⟨g,h1,h2⟩
 · exact hq b (by rw[← h1];exact hb) e
 · rw[h1] at hb;injection hb with hb;omega
theorem su {W:World} {q:Nat} {L R:Value} (h:PAt W q L R):∀ j u,([L,R]:List Value)[j]?=some u→W.cell? ((⟨q,0,none⟩:Addr).add j)=some u:=by
 intro j u hj
 have e:(⟨q,0,none⟩:Addr).add j=⟨q,j,none⟩:=by simp[Addr.add];intro h;omega
 rw[e,cell_of_row W q j _ _ _ h]
 simpa using hj
theorem qR {w w3 W:World} {v3 L R:Value} {xs:List Value} {from_:List Nat} {X:Nat→Nd} {K:Nat→Prop} {i m:Nat} (kP:W.ownsRow w3.heap.size 89 2 v3 (i+1+(from_.length-i)) (xs.take (i*2)++[L,R]++(xs.drop (i*2)).take ((from_.length-i)*2)))
 (hnr:eD w3 xs (from_.map X) w.heap.size K) (hEx:Ext w3 W) (hxl:xs.length=from_.length*2) (hi:i≤from_.length) (hB:Ints w3 L (toZ (X m).1)) (hD:Ints w3 R (toZ (X m).2))
 (bL:∀ b,L.ownBlock=some b→w.heap.size≤b∧b<w3.heap.size∧¬ K b) (bR:∀ b,R.ownBlock=some b→w.heap.size≤b∧b<w3.heap.size∧¬ K b) (hw:w.heap.size≤w3.heap.size) :
 ∃ g cap xs',v3=.slice (some ⟨g,0,none⟩) (from_.length+1) cap∧Ext w3 W∧w3.heap.size≤g∧W.ownsRow w.heap.size 89 2 v3 (from_.length+1) xs'∧eD W xs' ((from_.take i++m :: from_.drop i).map X) w.heap.size K:=by
 have ht:(xs.drop (i*2)).take ((from_.length-i)*2)=xs.drop (i*2):=List.take_of_length_le (by rw[List.length_drop];omega)
 rw[show i+1+(from_.length-i)=from_.length+1 by omega,ht,List.append_assoc] at kP
 obtain⟨g,cap,rfl,h1,h2,_⟩:=dC kP (by omega)
 have hn:=hnr.insert (by simpa using hxl) (i:=i) (by simpa using hi) hB hD bL bR
 rw[show (from_.map X).take i++X m :: (from_.map X).drop i=(from_.take i++m :: from_.drop i).map X by simp[List.map_take,List.map_drop]] at hn
 exact⟨g,cap,_,rfl,hEx,(kP.lt g rfl).1,xh kP hw,hn.ext hEx⟩
def BAt (w:World) (q:Nat) (v:Value):Prop:=w.heap[q]?=some (.cells #[v] 3 (0,0))
theorem BAt.ext {w w':World} {q:Nat} {v:Value} (h:BAt w q v) (hx:Ext w w'):BAt w' q v:=by unfold BAt at *;rw[hx.block q (ah h)];exact h
theorem BAt.grown {W W':World} {q:Nat} {x v:Value} (h:BAt W q x) (hg:W.grownBy W' v.ownBlock) (hq:∀ b,v.ownBlock=some b→b≠q):BAt W' q x:=by
 unfold BAt at *;rw[hg.block q (ah h) (fun e=>hq q e.symm rfl)];exact h
theorem xn {W:World} {q:Nat} {x v v':Value} (h:BAt W q x) (hl:eU W v v') (hq:∀ b,v.ownBlock=some b→b≠q):∀ b,v'.ownBlock=some b→b≠q:=by
 intro b hb e
 have hlt:=ah h
 rcases hl with h1 | ⟨g,h1,h2⟩
 · exact hq b (by rw[← h1];exact hb) e
 · rw[h1] at hb;injection hb with hb;omega
theorem qQ {w w4 W:World} {v3:Value} {from_:List Nat} {i m:Nat} (h:W.ownsRow w4.heap.size 3 1 v3 (i+1+(from_.length-i)) (((toZ from_).map (Value.int .i64)).take i++[.int .i64 ((m:Nat):Int)]++(((toZ from_).map (Value.int .i64)).drop i).take (from_.length-i))) (hEx:Ext w4 W) (hi:i≤from_.length) (hw:w.heap.size≤w4.heap.size) :
 ∃ g cap,v3=.slice (some ⟨g,0,none⟩) (from_.length+1) cap∧Ext w4 W∧w4.heap.size≤g∧W.ownsRow w.heap.size 3 1 v3 (from_.length+1) ((toZ (from_.take i++m :: from_.drop i)).map (Value.int .i64)):=by
 have ht:(((toZ from_).map (Value.int .i64)).drop i).take (from_.length-i)=((toZ from_).map (Value.int .i64)).drop i:=List.take_of_length_le (by simp[aj])
 rw[show i+1+(from_.length-i)=from_.length+1 by omega,ht] at h
 have e:(toZ (from_.take i++m :: from_.drop i)).map (Value.int .i64)=((toZ from_).map (Value.int .i64)).take i++[.int .i64 ((m:Nat):Int)]++((toZ from_).map (Value.int .i64)).drop i:=by
  simp[toZ,List.map_take,List.map_drop]
 obtain⟨g,cap,rfl,h1,h2,_⟩:=dC h (by omega)
 exact⟨g,cap,rfl,hEx,(h.lt g rfl).1,by rw[e];exact xh h hw⟩
theorem tZ {w wo w4 W:World} {D F:Dag} {idx:List Nat} {root b m i g5 c5:Nat} {at_ from_:List Nat} {v3:Value} {xs5:List Value} {K:Nat→Prop} (g:Cgt.Good D) (hF:fV D root F idx at_ b) (hr:root<D.length) (hL:kS D root at_ b from_ m) (uH:Cgt.Reach D root m) (hbm:born (vl D m)=b) (hmt:m≤root)
 (hi:i≤from_.length) (h1:∀ j (hj:j<from_.length),j<i→nc (Xn D at_ from_[j]) (Xn D at_ m)<0) (h2:∀ hl:i<from_.length,¬ nc (Xn D at_ from_[i]) (Xn D at_ m)<0) (hx:Ext wo w4) (hEx:Ext w4 W)
 (Gj:w4.ownsRow w.heap.size 89 2 (.slice (some ⟨g5,0,none⟩) (from_.length+1) c5) (from_.length+1) xs5) (Gp:eD w4 xs5 ((from_.take i++m :: from_.drop i).map (Xn D at_)) w.heap.size K) (hg5:wo.heap.size≤g5)
 (hT:∃ g cap,v3=.slice (some ⟨g,0,none⟩) (from_.length+1) cap∧Ext w4 W∧w4.heap.size≤g∧W.ownsRow w.heap.size 3 1 v3 (from_.length+1) ((toZ (from_.take i++m :: from_.drop i)).map (Value.int .i64))) (hK:∀ b,K b→b<wo.heap.size) :
 ∃ m' from',m'≤root+1∧Value.int .i64 ((m:Int)+1)=.int .i64 ((m':Nat):Int)∧kS D root at_ b from' m'∧Ext wo W∧tH w W K (.slice (some ⟨g5,0,none⟩) (from_.length+1) c5) v3 from' (Xn D at_):=by
 obtain⟨g6,c6,rfl,_,hg6,Sm⟩:=hT
 have hl:(from_.take i++m :: from_.drop i).length=from_.length+1:=by simp;omega
 have hz:=hx.size
 refine⟨m+1,from_.take i++m :: from_.drop i,by omega,by simp,hL.put g hF hr uH hbm hi h1 h2,aa hx hEx,⟨⟨xs5,?_,Gp.ext hEx⟩,?_,fun b hb k=>?_,fun b hb k=>?_,?_,?_⟩⟩
 · rw[hl];exact aJ Gj hEx
 · rw[hl];exact Sm
 · simp[Value.ownBlock] at hb;subst hb;have:=hK _ k;omega
 · simp[Value.ownBlock] at hb;subst hb;have:=hK _ k;omega
 · rw[hl];exact⟨_,_,rfl⟩
 · rw[hl];exact⟨_,_,rfl⟩
theorem FP {from_ at2:List Nat} {i xd n N:Nat} (hn:from_.Nodup) (hlt:i<from_.length) (hx:from_[i]=xd) (hl:xd<at2.length) (hN:N=n+i) (h:∀ j (h:j<from_.length),j<i→at2[from_[j]]?=some (n+j)) :
 Hid (∀ j (h:j<from_.length),j<i+1→(at2.set xd N)[from_[j]]?=some (n+j)):=by
 intro j hj hji
 by_cases e:j=i
 · subst e
   rw[hx,List.getElem?_set,if_pos rfl,if_pos hl,hN]
 · rw[List.getElem?_set,if_neg (fun e2=>e (um hn hj hlt (by rw[hx,e2])))]
   exact h j hj (by omega)
theorem FQ {from_ at_ at2:List Nat} {i xd N:Nat} (hlt:i<from_.length) (hx:from_[i]=xd) (h:∀ y,(∀ j (h:j<from_.length),j<i→from_[j]≠y)→at2[y]?=at_[y]?) :
 Hid (∀ y,(∀ j (h:j<from_.length),j<i+1→from_[j]≠y)→(at2.set xd N)[y]?=at_[y]?):=by
 intro y hy
 rw[List.getElem?_set,if_neg (fun e=>hy i hlt (by omega) (by rw[hx,e]))]
 exact h y (fun j hj hji=>hy j hj (by omega))
theorem KP {w:World} {B e size n:Nat} {v:Value} {xs:List Value} (h:w.ownsRow B e size v n xs):w.ownsRow 0 e size v n xs:=by
 obtain⟨hl,h⟩:=h
 refine⟨hl,?_⟩
 rcases h with h | ⟨g,cap,cur,h1,hb,h2⟩
 · exact .inl h
 · exact .inr ⟨g,cap,cur,h1,Nat.zero_le _,h2⟩
theorem kT.start {w w1 w2:World} {root:Nat} (hx1:Ext (w.alloc (.cells #[.slice none 0 0] 28)) w1) (ho2:w2.ownsRow w.heap.size 3 1 (.slice (some ⟨w1.heap.size,0,none⟩) (root+1) (root+1)) (root+1) ((toZ (List.replicate (root+1) 0)).map (Value.int .i64))) (hg2:w1.grownBy w2 none) :
 kT w ((w2.alloc (.cells #[] 89)).alloc (.cells #[.slice (some ⟨w2.heap.size,0,none⟩) 0 0] 28)) (w2.heap.size+1) w1.heap.size (.slice (some ⟨w2.heap.size,0,none⟩) 0 0) root [] (List.replicate (root+1) 0):=by
 have z1:=hx1.size
 rw[sA_] at z1
 have z2:=(ho2.lt w1.heap.size rfl).2
 have hx2:Ext w1 w2:=aV (Below.refl _ _) hg2 (by simp)
 have hx0:Ext w w2:=aa (aa (by go_grown) hx1) hx2
 have hx3:Ext w2 ((w2.alloc (.cells #[] 89)).alloc (.cells #[.slice (some ⟨w2.heap.size,0,none⟩) 0 0] 28)):=by go_grown
 have r0:(w.alloc (.cells #[.slice none 0 0] 28)).heap[w.heap.size]?=some (.cells #[.slice none 0 0] 28 (0,0)):=heap_alloc_new _ _
 refine⟨aa hx0 hx3,?_,aJ ho2 hx3,?_,⟨[],?_,eD.nil _ _ _⟩,?_,?_,?_,?_,?_,?_,?_⟩
 · rw[hx3.block _ (by omega),hx2.block _ (by omega),hx1.block _ (by rw[sA_];omega)];exact r0
 · have:=heap_alloc_new (w2.alloc (.cells #[] 89)) (.cells #[.slice (some ⟨w2.heap.size,0,none⟩) 0 0] 28);rw[sA_] at this;exact this
 · exact(World.ownsRow_made w2 #[] 0 (by omega) (by decide) (by simp)).alloc _
 · simp[Value.ownBlock]
 · simp[Value.ownBlock];omega
 · simp[Value.ownBlock];omega
 · omega
 · omega
 · omega
 · omega
def FD:List Row:=[⟨0,[],58,[6]⟩,⟨1,[],59,[0]⟩,⟨2,[1],60,[58]⟩,⟨3,[2],61,[59]⟩,⟨4,[3],62,[60]⟩,⟨5,[],63,[11]⟩,⟨6,[4,5],64,[61,62]⟩,⟨7,[6],65,[63]⟩,⟨8,[7],66,[64]⟩,⟨9,[0,8],67,[57,65]⟩,⟨10,[9,9],68,[66]⟩,⟨11,[],69,[6]⟩,⟨12,[],70,[0]⟩,⟨13,[12],71,[69]⟩,⟨14,[13],72,[70]⟩,⟨15,[14],73,[71]⟩,⟨16,[],74,[11]⟩,⟨17,[15,16],75,[72,73]⟩,⟨18,[17],76,[74]⟩,⟨19,[18],77,[75]⟩,⟨20,[11,19,10],78,[68,76]⟩,⟨21,[20,20],79,[77]⟩,⟨22,[10,21],80,[67,78]⟩,⟨23,[],13,[]⟩,⟨24,[23,22,21,0,1,2,3,4,5,6,7,8,9,10,11,12,13,14,15,16,17,18,19,20,21,22,23],0,[12,79]⟩]
def rX:List Row:=[⟨0,[],81,[13]⟩,⟨1,[],82,[9]⟩,⟨2,[1],83,[81]⟩,⟨3,[0,2],84,[80,82]⟩,⟨4,[3],85,[83]⟩,⟨5,[4],86,[9,84]⟩,⟨6,[4],87,[13,84]⟩,⟨7,[5,6,4],88,[85,86,84]⟩,⟨8,[7,4],89,[87,84]⟩,⟨9,[4],90,[12,84]⟩,⟨10,[8,9,4,4],91,[88,89,84]⟩,⟨11,[4,10],92,[84,90]⟩]
def FC:List Row:=[⟨0,[],95,[]⟩,⟨1,[],96,[9]⟩,⟨2,[],97,[13]⟩,⟨3,[1,2],98,[95,96]⟩,⟨4,[0,3],99,[94,97]⟩,⟨5,[],100,[12]⟩,⟨6,[5],101,[99]⟩,⟨7,[4,6,4],102,[98,100]⟩,⟨8,[],103,[9]⟩,⟨9,[],104,[13]⟩,⟨10,[8,9],105,[102,103]⟩,⟨11,[7,10,7],106,[101,104]⟩,⟨12,[11,11,0,1,2,3,4,5,6,7,8,9,10,11],10,[105]⟩]
def FB:List Row:=[⟨0,[],107,[]⟩,⟨1,[],108,[10]⟩,⟨2,[],109,[13]⟩,⟨3,[1,2],110,[107,108]⟩,⟨4,[0,3],111,[106,109]⟩,⟨5,[],112,[11]⟩,⟨6,[5],113,[111]⟩,⟨7,[4,6,4],114,[110,112]⟩,⟨8,[],115,[10]⟩,⟨9,[],116,[13]⟩,⟨10,[8,9],117,[114,115]⟩,⟨11,[7,10,7],118,[113,116]⟩,⟨12,[11,11,0,1,2,3,4,5,6,7,8,9,10,11],11,[117]⟩]
def Fz:List Row:=[⟨0,[],125,[6]⟩,⟨1,[],126,[10]⟩,⟨2,[],127,[14]⟩,⟨3,[1,2],128,[125,126]⟩,⟨4,[3],129,[127]⟩,⟨5,[],130,[7]⟩,⟨6,[5],131,[129]⟩,⟨7,[6],132,[130]⟩,⟨8,[0,4,0,1,2,3,4,5,6,7],133,[124,128]⟩,⟨9,[8,7,0,1,2,3,4,5,6,7],0,[132,131]⟩]
def Fy:List Row:=[⟨0,[],134,[7]⟩,⟨1,[0],135,[133]⟩,⟨2,[],136,[9]⟩,⟨3,[],137,[14]⟩,⟨4,[2,3],138,[135,136]⟩,⟨5,[4],139,[137]⟩,⟨6,[5],140,[138]⟩,⟨7,[1,6],141,[134,139]⟩,⟨8,[0,1,2,3,4,5,6,7],142,[7]⟩,⟨9,[8,7,7,0,1,2,3,4,5,6,7],0,[141,140]⟩]
set_option maxHeartbeats 20000000 in
theorem sS (pb:Nat) (vn vb:Value) (D:Dag) (root:Nat) (w:World) (hB:bu w pb vn vb D) (hr:root<D.length) :
 Calls prog 133 #[.pointer (some ⟨pb,0,none⟩),.int .i64 root] w fun e w'=>∃ vN F,e=.returned (.agg #[vN])∧bP w' w.heap.size vN F∧Cgt.dH F∧Cgt.Same (Cgt.bE F) (vl D root)∧Ext w w':=by
 have hds:=hB.small
 obtain⟨i0,hi0,hz0,hz1,hz2⟩:=info_parts eO
 obtain⟨i1,hi1,hy0,hy1,hy2⟩:=info_parts uE
 have hw:IntKind.i64.wrap ((root:Int)+1)=(root:Int)+1:=by rw[IntKind.wrap_i64];omega
 go_enter Tryz.func133,Tryz.ntmps133
 go_wp2_with (go_at_call 177;refine(DN pb vn vb D root _ (hB.ext (by go_grown)) hr).mono ?_;rintro e w1 ⟨Ut,bs,rfl,NH,qz,hx1⟩;obtain⟨w2,hmk,ho2,hg2⟩:=run_make_full (P:=prog) w1 w.heap.size 80 3 i0 (.int .i64 0) 1 underlying80 hi0 hz0 hz1 .i64 .i64 (root+1) (by rw[hz2];omega) (by unfold maxLen;omega) (by have:=hx1.size;rw[sA_] at this;omega);rw[show (((root+1:Nat)):Int)=(root:Int)+1 by omega] at hmk)
 have ho2:w2.ownsRow w.heap.size 3 1 (.slice (some ⟨w1.heap.size,0,none⟩) (root+1) (root+1)) (root+1) ((toZ (List.replicate (root+1) 0)).map (Value.int .i64)):=by
  rw[Nat.mul_one] at ho2;rw[toZ,List.map_replicate,List.map_replicate,← toList_madeCells_one];exact ho2
 have hM0:=kT.start hx1 ho2 hg2
 obtain⟨nL,G8,rfl,_,_,_⟩:=dC qz (by omega)
 have zn:=qz.lt nL rfl
 have z1:=hx1.size
 have z2:=hg2.size
 have z1':w.heap.size+1≤w1.heap.size:=by rw[sA_] at z1;exact z1
 have zn':w.heap.size+1≤nL∧nL<w1.heap.size:=by rw[sA_] at zn;exact zn
 have hx2:Ext w1 ((w2.alloc (.cells #[] 89)).alloc (.cells #[.slice (some ⟨w2.heap.size,0,none⟩) 0 0] 28)):=aa (aV (Below.refl _ _) hg2 (by simp)) (by go_grown)
 have yI:=aJ qz hx2
 have hK0:¬ KF w (w2.heap.size+1) w1.heap.size (.slice (some ⟨w2.heap.size,0,none⟩) 0 0) nL:=by
  rintro(e | e | e | e)
  · omega
  · omega
  · omega
  · simp[Value.ownBlock] at e;omega
 obtain⟨gb,cb,rfl,JE⟩:=hB.Ry (by omega)
 have HBX:=Hd_ JE
 have HB:=Hd_ hB
 have Ig:=Hd_ NH
 obtain⟨gn,cn,_,_,_,_,rfl,_⟩:=hB.FZ hr
 have hst:=fV.start D root
 obtain⟨Wb,hWb⟩:∃ W,W=w.alloc (.cells #[.slice none 0 0] 28):=⟨_,rfl⟩
 have yI:((w2.alloc (.cells #[] 89)).alloc (.cells #[.slice (some ⟨w2.heap.size,0,none⟩) 0 0] 28)).ownsRow 0 4 1 (.slice (some ⟨nL,0,none⟩) (root+1) G8) (root+1) (bs.map Value.bool):=KP yI
 clear hWb Wb hx2 z1 z2 zn z1' zn' qz ho2 hg2 hmk hx1 NH JE hB
 generalize ((w2.alloc (.cells #[] 89)).alloc (.cells #[.slice (some ⟨w2.heap.size,0,none⟩) 0 0] 28))=W0 at *
 generalize Value.slice (some ⟨w2.heap.size,0,none⟩) 0 0=vN0 at *
 generalize w2.heap.size+1=o at *
 generalize w1.heap.size=gat at *
 obtain⟨at0,Qn⟩:∃ a,a=List.replicate (root+1) 0:=⟨_,rfl⟩
 rw[← Qn] at hst hM0
 clear Qn
 have hBl:=Cgt.kJ HB.out.good.wf root
 have hnX:=fun (i:Nat) (hi:i<D.length)=>HB.out.FZ hi
 have HNX:=Hd_ hnX
 clear hnX
 go_loopw [8] (fun bb wr=>∃ b vN F idx at_,bb=.int .i64 ((b:Nat):Int)∧b≤born (vl D root)+1∧fV D root F idx at_ b∧kT w wr o gat vN root F at_∧wr.ownsRow 0 4 1 (.slice (some ⟨nL,0,none⟩) (root+1) G8) (root+1) (bs.map Value.bool)∧¬ KF w o gat vN nL) (fun bb _=>born (vl D root)+1-(intOf bb).toNat)
 case atStart=>exact⟨0,vN0,[],[],at0,rfl,Nat.zero_le _,hst,hM0,yI,hK0⟩
 case round =>
  clear hst hM0 yI hK0
  obtain⟨b,vN,F,idx,at_,rfl,hb,hF,hM,qz,hK⟩:=hrel
  obtain⟨wo,rfl⟩:∃ wo:World,wo=wr:=⟨_,rfl⟩
  have hE:=hM.ext
  obtain⟨cb1,cb2⟩:=HBX.out _ hE
  have cbr:=cb2 root hr
  have hfz:=frozen_of_row wo w.heap.size 0 _ _ hM.res
  by_cases hbt:b≤born (vl D root)
  · have HM:=Hd_ hM
    have HF:=Hd_ hF
    have HN:=Hd_ qz
    have HK:=Hd_ hK
    clear hM hF qz hK cb2
    go_wp2
    go_loopw [9,10,11,12,13] (fun lv fv kk _ _ w2=>∃ m from_,m≤root+1∧kk=.int .i64 ((m:Nat):Int)∧kS D root at_ b from_ m∧Ext wo w2∧tH w w2 (KF w o gat vN) lv fv from_ (Xn D at_)) (fun _ _ kk _ _ _=>root+1-(intOf kk).toNat)
    case atStart =>
     have hkl:=HM.out.klt
     refine⟨0,[],Nat.zero_le _,rfl,kS.start _ _ _ _,by go_grown,⟨⟨[],?_,eD.nil _ _ _⟩,?_,fun b hb k=>?_,fun b hb k=>?_,⟨_,_,rfl⟩,⟨_,_,rfl⟩⟩⟩
     · exact(World.ownsRow_made wo #[] 0 hE.size (by decide) (by simp)).alloc _
     · exact ig wo _ _ hE.size _
     · simp[Value.ownBlock] at hb;subst hb;have:=hkl _ k;omega
     · simp[Value.ownBlock] at hb;subst hb;have:=hkl _ k;omega
    case round =>
     obtain⟨m,from_,hm,rfl,hL,hx,hLM⟩:=hrel
     obtain⟨wm,rfl⟩:∃ wm:World,wm=wr:=⟨_,rfl⟩
     by_cases hmt:m≤root
     · have hmr:m<root+1:=by omega
       have hmD:m<D.length:=by omega
       have hEm:=aa hE hx
       obtain⟨bv,hbv⟩:∃ b,bs[m]?=some b:=⟨_,List.getElem?_eq_getElem (by rw[Ig.out.len];omega)⟩
       have Rt:=sW (aJ HN.out hx) hmr hbv
       have JD:=(HBX.out _ hEm).2 m hmD
       have Tu:=(HBX.out _ hEm).1
       have HL:=Hd_ hL
       have HX:=Hd_ hx
       have HLM:=Hd_ hLM
       clear hL hx hLM
       cases bv with
       | false =>
         go_wp2
         go_roundw
         case rel=>exact⟨m+1,from_,by omega,by go_num,HL.out.skip (fun h=>by have:=(Ig.out.all m).2 h.1;rw[hbv] at this;cases this),HX.out,HLM.out⟩
         case measure=>simp[intOf];omega
       | true =>
         by_cases hbm:born (vl D m)=b
         ·
          have uH:Hid (Cgt.Reach D root m):=(Ig.out.all m).1 hbv
          rw[hbm] at JD
          clear hbv
          obtain⟨g',c',aL,cL,aR,cR,he,hN⟩:=HNX.out m hmD
          simp only[Value.slice.injEq,Option.some.injEq,Addr.mk.injEq,and_true,true_and] at he
          obtain⟨rfl,rfl⟩:=he
          have HS:=Hd_ hN
          obtain⟨p0,p1,p2,p3,p4⟩:=hN _ hEm
          have yK:wm.cell? ⟨pb,0,none⟩=some (.slice (some ⟨gn,0,none⟩) D.length cn)∧wm.cell? ⟨gn,m*2,none⟩=some (.slice aL (D[m]).1.length cL)∧wm.cell? ⟨gn,m*2+1,none⟩=some (.slice aR (D[m]).2.length cR):=⟨p0,p1,p2⟩
          clear hN
          go_wp2_with fail
          go_cut [12] (fun x wc=>∃ p aB n cB aD k cD,x=.pointer (some ⟨p,0,none⟩)∧Ext wm wc∧wm.heap.size≤p∧PAt wc p (.slice aB n cB) (.slice aD k cD)∧Ints wc (.slice aB n cB) (toZ (Xn D at_ m).1)∧Ints wc (.slice aD k cD) (toZ (Xn D at_ m).2)∧(∀ b,Value.ownBlock (.slice aB n cB)=some b→wm.heap.size≤b∧b<wc.heap.size)∧(∀ b,Value.ownBlock (.slice aD k cD)=some b→wm.heap.size≤b∧b<wc.heap.size))
          case first =>
           refine bz (fun w'=>w'.cell? ⟨pb,0,none⟩=some (.slice (some ⟨gn,0,none⟩) D.length cn)∧w'.cell? ⟨gn,m*2,none⟩=some (.slice aL (D[m]).1.length cL)∧w'.cell? ⟨gn,m*2+1,none⟩=some (.slice aR (D[m]).2.length cR)) [24] FD (by kernel_rfl) ⟨by kernel_rfl,by kernel_rfl,by kernel_rfl⟩ yK (fun ae hHeld=>?_)
           ((refine tkB ae (i:=0) hHeld ?_);(try simp only[nP]);(refine tkB ae (i:=1) hHeld ?_);(try simp only[nP]);(refine tkB ae (i:=2) hHeld ?_);(try simp only[nP]);(refine tkB ae (i:=3) hHeld ?_);(try simp only[nP]);(refine tkB ae (i:=4) hHeld ?_);(try simp only[nP]);(refine tkB ae (i:=5) hHeld ?_);(try simp only[nP]);(refine tkB ae (i:=6) hHeld ?_);(try simp only[nP]);(refine tkB ae (i:=7) hHeld ?_);(try simp only[nP]);(refine tkB ae (i:=8) hHeld ?_);(try simp only[nP]);(refine tkB ae (i:=11) hHeld ?_);(try simp only[nP]);(refine tkB ae (i:=12) hHeld ?_);(try simp only[nP]);(refine tkB ae (i:=13) hHeld ?_);(try simp only[nP]);(refine tkB ae (i:=14) hHeld ?_);(try simp only[nP]);(refine tkB ae (i:=15) hHeld ?_);(try simp only[nP]);(refine tkB ae (i:=16) hHeld ?_);(try simp only[nP]);(refine tkB ae (i:=17) hHeld ?_);(try simp only[nP]);(refine tkB ae (i:=18) hHeld ?_);(try simp only[nP]);(refine tkB ae (i:=19) hHeld ?_);(try simp only[nP]))
           have hSx:∀ W,Ext wm W→W.cell? ⟨pb,0,none⟩=some (.slice (some ⟨gn,0,none⟩) D.length cn)∧W.cell? ⟨gn,m*2,none⟩=some (.slice aL (D[m]).1.length cL)∧W.cell? ⟨gn,m*2+1,none⟩=some (.slice aR (D[m]).2.length cR):=fun W h=>by obtain⟨q0,q1,q2,-,-⟩:=HS.out W (aa hEm h);exact⟨q0,q1,q2⟩
           have hLs:∀ W,Ext wm W→Ints W (.slice aL (D[m]).1.length cL) (toZ (D[m]).1):=fun W h=>(HS.out W (aa hEm h)).2.2.2.1
           have hRs:∀ W,Ext wm W→Ints W (.slice aR (D[m]).2.length cR) (toZ (D[m]).2):=fun W h=>(HS.out W (aa hEm h)).2.2.2.2
           have Qm:=HF.out.atl
           have hAt:∀ W,Ext wm W→Ints W (.slice (some ⟨gat,0,none⟩) (root+1) (root+1)) (toZ at_):=fun W h=>(Ints.bG (l:=toZ at_) HM.out.atr (by rw[aj];omega)).ext (aa HX.out h)
           have hgl:=nZ HB.out.good hmD
           have Cg:(toZ (D[m]).1).length≤1000000000:=by rw[aj];omega
           have sI:(toZ (D[m]).2).length≤1000000000:=by rw[aj];omega
           have hwm:=HB.out.good.wf m _ (List.getElem?_eq_getElem hmD)
           have zK:∀ x,x∈toZ (D[m]).1→0≤x∧x<(toZ at_).length:=fun x hx=>by obtain⟨n,hn,rfl⟩:=iZ hx;have:=hwm.1 n hn;rw[aj,Qm];omega
           have uZ:∀ x,x∈toZ (D[m]).2→0≤x∧x<(toZ at_).length:=fun x hx=>by obtain⟨n,hn,rfl⟩:=iZ hx;have:=hwm.2 n hn;rw[aj,Qm];omega
           obtain⟨xl1,xl2⟩:=NY (at_:=at_) hmD
           have hEx:Ext wm wm.drew:=⟨rfl,rfl,rfl,Nat.le_refl _,fun _ _=>rfl⟩
           obtain⟨W,hW⟩:∃ W,W=wm.drew:=⟨_,rfl⟩
           rw[← hW] at hEx hHeld ⊢
           clear hW
           refine jb ae (i:=9) (j:=23) (by kernel_rfl) ?_ ?_
           · (refine rnB (i:=9) fun K hK=>?_;go_simp)
             refine(je _ _ (toZ at_) (toZ (D[m]).1) _ (hAt _ hEx) (hLs _ hEx) zK Cg).mono ?_
             rintro e W ⟨vA,rfl,Mi,hxN⟩
             (try replace hIA:=hIA.ext hxN)
             (try replace hIB:=hIB.ext hxN)
             (try replace hIC:=hIC.ext hxN)
             (try replace hID:=hID.ext hxN)
             (try replace hP:=hP.ext hxN)
             (try replace hfB:=fun b hb=>And.intro (hfB b hb).1 (Nat.lt_of_lt_of_le (hfB b hb).2 hxN.size))
             (try replace hfD:=fun b hb=>And.intro (hfD b hb).1 (Nat.lt_of_lt_of_le (hfD b hb).2 hxN.size))
             replace hEx:=aa hEx hxN
             have hHeld:=hSx _ hEx
             have hIA:=Mi
             refine hK.out _ _ (fun _=>hHeld) ?_
             clear hK K
             (try simp only[nP])
             refine jb ae (i:=10) (j:=23) (by kernel_rfl) ?_ ?_
             · (refine rnB (i:=10) fun K hK=>?_;go_simp)
               refine(gN _ _ _ hIA (by rw[kK];exact Cg)).mono ?_
               rintro e W ⟨vB,rfl,pV,hxN,mi⟩
               (try have hBp:∀ b,vB.ownBlock=some b→b≠p:=fun b hb e=>by have h1:=ah hP;have h2:=(mi b hb).1;omega)
               have hfB:∀ b,vB.ownBlock=some b→wm.heap.size≤b∧b<W.heap.size:=fun b hb=>⟨Nat.le_trans hEx.size (mi b hb).1,(mi b hb).2⟩
               clear mi
               rw[xl1] at pV
               obtain⟨aB,cB,rfl,-⟩:=id pV
               (try replace hIA:=hIA.ext hxN)
               (try replace hIB:=hIB.ext hxN)
               (try replace hIC:=hIC.ext hxN)
               (try replace hID:=hID.ext hxN)
               (try replace hP:=hP.ext hxN)
               (try replace hfB:=fun b hb=>And.intro (hfB b hb).1 (Nat.lt_of_lt_of_le (hfB b hb).2 hxN.size))
               (try replace hfD:=fun b hb=>And.intro (hfD b hb).1 (Nat.lt_of_lt_of_le (hfD b hb).2 hxN.size))
               replace hEx:=aa hEx hxN
               have hHeld:=hSx _ hEx
               have hIB:=pV
               refine hK.out _ _ (fun _=>hHeld) ?_
               clear hK K
               (try simp only[nP])
               refine jb ae (i:=20) (j:=23) (by kernel_rfl) ?_ ?_
               · (refine rnB (i:=20) fun K hK=>?_;go_simp)
                 refine(je _ _ (toZ at_) (toZ (D[m]).2) _ (hAt _ hEx) (hRs _ hEx) uZ sI).mono ?_
                 rintro e W ⟨vC,rfl,xM,hxN⟩
                 (try replace hIA:=hIA.ext hxN)
                 (try replace hIB:=hIB.ext hxN)
                 (try replace hIC:=hIC.ext hxN)
                 (try replace hID:=hID.ext hxN)
                 (try replace hP:=hP.ext hxN)
                 (try replace hfB:=fun b hb=>And.intro (hfB b hb).1 (Nat.lt_of_lt_of_le (hfB b hb).2 hxN.size))
                 (try replace hfD:=fun b hb=>And.intro (hfD b hb).1 (Nat.lt_of_lt_of_le (hfD b hb).2 hxN.size))
                 replace hEx:=aa hEx hxN
                 have hHeld:=hSx _ hEx
                 have hIC:=xM
                 refine hK.out _ _ (fun _=>hHeld) ?_
                 clear hK K
                 (try simp only[nP])
                 refine jb ae (i:=21) (j:=23) (by kernel_rfl) ?_ ?_
                 · (refine rnB (i:=21) fun K hK=>?_;go_simp)
                   refine(gN _ _ _ hIC (by rw[kK];exact sI)).mono ?_
                   rintro e W ⟨vD,rfl,jH,hxN,iq⟩
                   (try have hDp:∀ b,vD.ownBlock=some b→b≠p:=fun b hb e=>by have h1:=ah hP;have h2:=(iq b hb).1;omega)
                   have hfD:∀ b,vD.ownBlock=some b→wm.heap.size≤b∧b<W.heap.size:=fun b hb=>⟨Nat.le_trans hEx.size (iq b hb).1,(iq b hb).2⟩
                   clear iq
                   rw[xl2] at jH
                   obtain⟨aD,cD,rfl,-⟩:=id jH
                   (try replace hIA:=hIA.ext hxN)
                   (try replace hIB:=hIB.ext hxN)
                   (try replace hIC:=hIC.ext hxN)
                   (try replace hID:=hID.ext hxN)
                   (try replace hP:=hP.ext hxN)
                   (try replace hfB:=fun b hb=>And.intro (hfB b hb).1 (Nat.lt_of_lt_of_le (hfB b hb).2 hxN.size))
                   (try replace hfD:=fun b hb=>And.intro (hfD b hb).1 (Nat.lt_of_lt_of_le (hfD b hb).2 hxN.size))
                   replace hEx:=aa hEx hxN
                   have hHeld:=hSx _ hEx
                   have hID:=jH
                   refine hK.out _ _ (fun _=>hHeld) ?_
                   clear hK K
                   (try simp only[nP])
                   ((refine tkB ae (i:=22) hHeld ?_);(try simp only[nP]))
                   (refine stB ae (i:=23) fun K hK=>?_;go_simp)
                   have hxN:Ext W (W.alloc (.cells #[.slice none 0 0,.slice none 0 0] 89)):=by go_grown
                   have hPn:PAt (W.alloc (.cells #[.slice none 0 0,.slice none 0 0] 89)) W.heap.size (.slice none 0 0) (.slice none 0 0):=heap_alloc_new _ _
                   have hpz:wm.heap.size≤W.heap.size:=hEx.size
                   (try have hBp:=fun b hb=>Nat.ne_of_lt (hfB b hb).2)
                   (try have hDp:=fun b hb=>Nat.ne_of_lt (hfD b hb).2)
                   (try replace hIA:=hIA.ext hxN)
                   (try replace hIB:=hIB.ext hxN)
                   (try replace hIC:=hIC.ext hxN)
                   (try replace hID:=hID.ext hxN)
                   (try replace hP:=hP.ext hxN)
                   (try replace hfB:=fun b hb=>And.intro (hfB b hb).1 (Nat.lt_of_lt_of_le (hfB b hb).2 hxN.size))
                   (try replace hfD:=fun b hb=>And.intro (hfD b hb).1 (Nat.lt_of_lt_of_le (hfD b hb).2 hxN.size))
                   replace hEx:=aa hEx hxN
                   have hHeld:=hSx _ hEx
                   have hP:=hPn
                   clear hPn
                   refine hK.out _ _ (fun _=>hHeld) ?_
                   clear hK K
                   (try simp only[nP])
                   generalize W.alloc (.cells #[.slice none 0 0,.slice none 0 0] 89)=W1 at *
                   generalize W.heap.size=p at *
                   clear hxN
                   obtain⟨W,rfl⟩:∃ W,W=W1:=⟨_,rfl⟩
                   have q0:W.cell? ⟨p,0,none⟩=some (.slice none 0 0):=cell_of_row W p 0 _ _ _ hP
                   have q1:W.cell? ⟨p,1,none⟩=some (.slice none 0 0):=cell_of_row W p 1 _ _ _ hP
                   have q2:=frozen_of_row W p 0 _ _ hP
                   have q3:=frozen_of_row W p 1 _ _ hP
                   refine tlB ae [24] [_] ?_
                   go_wp2_with fail
                   go_meet
                   case rel=>exact⟨p,aB,_,cB,aD,_,cD,rfl,(iB hEx hpz hP hIB hID hfB hfD hBp hDp).1,hpz,(iB hEx hpz hP hIB hID hfB hfD hBp hDp).2⟩
                 · (refine rnB (i:=23) fun K hK=>?_;go_simp)
                   have hxN:Ext W (W.alloc (.cells #[.slice none 0 0,.slice none 0 0] 89)):=by go_grown
                   have hPn:PAt (W.alloc (.cells #[.slice none 0 0,.slice none 0 0] 89)) W.heap.size (.slice none 0 0) (.slice none 0 0):=heap_alloc_new _ _
                   have hpz:wm.heap.size≤W.heap.size:=hEx.size
                   (try have hBp:=fun b hb=>Nat.ne_of_lt (hfB b hb).2)
                   (try have hDp:=fun b hb=>Nat.ne_of_lt (hfD b hb).2)
                   (try replace hIA:=hIA.ext hxN)
                   (try replace hIB:=hIB.ext hxN)
                   (try replace hIC:=hIC.ext hxN)
                   (try replace hID:=hID.ext hxN)
                   (try replace hP:=hP.ext hxN)
                   (try replace hfB:=fun b hb=>And.intro (hfB b hb).1 (Nat.lt_of_lt_of_le (hfB b hb).2 hxN.size))
                   (try replace hfD:=fun b hb=>And.intro (hfD b hb).1 (Nat.lt_of_lt_of_le (hfD b hb).2 hxN.size))
                   replace hEx:=aa hEx hxN
                   have hHeld:=hSx _ hEx
                   have hP:=hPn
                   clear hPn
                   refine hK.out _ _ (fun _=>hHeld) ?_
                   clear hK K
                   (try simp only[nP])
                   generalize W.alloc (.cells #[.slice none 0 0,.slice none 0 0] 89)=W1 at *
                   generalize W.heap.size=p at *
                   clear hxN
                   obtain⟨W,rfl⟩:∃ W,W=W1:=⟨_,rfl⟩
                   (refine stB ae (i:=21) fun K hK=>?_;go_simp)
                   refine(gN _ _ _ hIC (by rw[kK];exact sI)).mono ?_
                   rintro e W ⟨vD,rfl,jH,hxN,iq⟩
                   (try have hDp:∀ b,vD.ownBlock=some b→b≠p:=fun b hb e=>by have h1:=ah hP;have h2:=(iq b hb).1;omega)
                   have hfD:∀ b,vD.ownBlock=some b→wm.heap.size≤b∧b<W.heap.size:=fun b hb=>⟨Nat.le_trans hEx.size (iq b hb).1,(iq b hb).2⟩
                   clear iq
                   rw[xl2] at jH
                   obtain⟨aD,cD,rfl,-⟩:=id jH
                   (try replace hIA:=hIA.ext hxN)
                   (try replace hIB:=hIB.ext hxN)
                   (try replace hIC:=hIC.ext hxN)
                   (try replace hID:=hID.ext hxN)
                   (try replace hP:=hP.ext hxN)
                   (try replace hfB:=fun b hb=>And.intro (hfB b hb).1 (Nat.lt_of_lt_of_le (hfB b hb).2 hxN.size))
                   (try replace hfD:=fun b hb=>And.intro (hfD b hb).1 (Nat.lt_of_lt_of_le (hfD b hb).2 hxN.size))
                   replace hEx:=aa hEx hxN
                   have hHeld:=hSx _ hEx
                   have hID:=jH
                   refine hK.out _ _ (fun _=>hHeld) ?_
                   clear hK K
                   (try simp only[nP])
                   ((refine tkB ae (i:=22) hHeld ?_);(try simp only[nP]))
                   have q0:W.cell? ⟨p,0,none⟩=some (.slice none 0 0):=cell_of_row W p 0 _ _ _ hP
                   have q1:W.cell? ⟨p,1,none⟩=some (.slice none 0 0):=cell_of_row W p 1 _ _ _ hP
                   have q2:=frozen_of_row W p 0 _ _ hP
                   have q3:=frozen_of_row W p 1 _ _ hP
                   refine tlB ae [24] [_] ?_
                   go_wp2_with fail
                   go_meet
                   case rel=>exact⟨p,aB,_,cB,aD,_,cD,rfl,(iB hEx hpz hP hIB hID hfB hfD hBp hDp).1,hpz,(iB hEx hpz hP hIB hID hfB hfD hBp hDp).2⟩
               · (refine rnB (i:=23) fun K hK=>?_;go_simp)
                 have hxN:Ext W (W.alloc (.cells #[.slice none 0 0,.slice none 0 0] 89)):=by go_grown
                 have hPn:PAt (W.alloc (.cells #[.slice none 0 0,.slice none 0 0] 89)) W.heap.size (.slice none 0 0) (.slice none 0 0):=heap_alloc_new _ _
                 have hpz:wm.heap.size≤W.heap.size:=hEx.size
                 (try have hBp:=fun b hb=>Nat.ne_of_lt (hfB b hb).2)
                 (try have hDp:=fun b hb=>Nat.ne_of_lt (hfD b hb).2)
                 (try replace hIA:=hIA.ext hxN)
                 (try replace hIB:=hIB.ext hxN)
                 (try replace hIC:=hIC.ext hxN)
                 (try replace hID:=hID.ext hxN)
                 (try replace hP:=hP.ext hxN)
                 (try replace hfB:=fun b hb=>And.intro (hfB b hb).1 (Nat.lt_of_lt_of_le (hfB b hb).2 hxN.size))
                 (try replace hfD:=fun b hb=>And.intro (hfD b hb).1 (Nat.lt_of_lt_of_le (hfD b hb).2 hxN.size))
                 replace hEx:=aa hEx hxN
                 have hHeld:=hSx _ hEx
                 have hP:=hPn
                 clear hPn
                 refine hK.out _ _ (fun _=>hHeld) ?_
                 clear hK K
                 (try simp only[nP])
                 generalize W.alloc (.cells #[.slice none 0 0,.slice none 0 0] 89)=W1 at *
                 generalize W.heap.size=p at *
                 clear hxN
                 obtain⟨W,rfl⟩:∃ W,W=W1:=⟨_,rfl⟩
                 (refine stB ae (i:=20) fun K hK=>?_;go_simp)
                 refine(je _ _ (toZ at_) (toZ (D[m]).2) _ (hAt _ hEx) (hRs _ hEx) uZ sI).mono ?_
                 rintro e W ⟨vC,rfl,xM,hxN⟩
                 (try replace hIA:=hIA.ext hxN)
                 (try replace hIB:=hIB.ext hxN)
                 (try replace hIC:=hIC.ext hxN)
                 (try replace hID:=hID.ext hxN)
                 (try replace hP:=hP.ext hxN)
                 (try replace hfB:=fun b hb=>And.intro (hfB b hb).1 (Nat.lt_of_lt_of_le (hfB b hb).2 hxN.size))
                 (try replace hfD:=fun b hb=>And.intro (hfD b hb).1 (Nat.lt_of_lt_of_le (hfD b hb).2 hxN.size))
                 replace hEx:=aa hEx hxN
                 have hHeld:=hSx _ hEx
                 have hIC:=xM
                 refine hK.out _ _ (fun _=>hHeld) ?_
                 clear hK K
                 (try simp only[nP])
                 (refine stB ae (i:=21) fun K hK=>?_;go_simp)
                 refine(gN _ _ _ hIC (by rw[kK];exact sI)).mono ?_
                 rintro e W ⟨vD,rfl,jH,hxN,iq⟩
                 (try have hDp:∀ b,vD.ownBlock=some b→b≠p:=fun b hb e=>by have h1:=ah hP;have h2:=(iq b hb).1;omega)
                 have hfD:∀ b,vD.ownBlock=some b→wm.heap.size≤b∧b<W.heap.size:=fun b hb=>⟨Nat.le_trans hEx.size (iq b hb).1,(iq b hb).2⟩
                 clear iq
                 rw[xl2] at jH
                 obtain⟨aD,cD,rfl,-⟩:=id jH
                 (try replace hIA:=hIA.ext hxN)
                 (try replace hIB:=hIB.ext hxN)
                 (try replace hIC:=hIC.ext hxN)
                 (try replace hID:=hID.ext hxN)
                 (try replace hP:=hP.ext hxN)
                 (try replace hfB:=fun b hb=>And.intro (hfB b hb).1 (Nat.lt_of_lt_of_le (hfB b hb).2 hxN.size))
                 (try replace hfD:=fun b hb=>And.intro (hfD b hb).1 (Nat.lt_of_lt_of_le (hfD b hb).2 hxN.size))
                 replace hEx:=aa hEx hxN
                 have hHeld:=hSx _ hEx
                 have hID:=jH
                 refine hK.out _ _ (fun _=>hHeld) ?_
                 clear hK K
                 (try simp only[nP])
                 ((refine tkB ae (i:=22) hHeld ?_);(try simp only[nP]))
                 have q0:W.cell? ⟨p,0,none⟩=some (.slice none 0 0):=cell_of_row W p 0 _ _ _ hP
                 have q1:W.cell? ⟨p,1,none⟩=some (.slice none 0 0):=cell_of_row W p 1 _ _ _ hP
                 have q2:=frozen_of_row W p 0 _ _ hP
                 have q3:=frozen_of_row W p 1 _ _ hP
                 refine tlB ae [24] [_] ?_
                 go_wp2_with fail
                 go_meet
                 case rel=>exact⟨p,aB,_,cB,aD,_,cD,rfl,(iB hEx hpz hP hIB hID hfB hfD hBp hDp).1,hpz,(iB hEx hpz hP hIB hID hfB hfD hBp hDp).2⟩
             · (refine rnB (i:=23) fun K hK=>?_;go_simp)
               have hxN:Ext W (W.alloc (.cells #[.slice none 0 0,.slice none 0 0] 89)):=by go_grown
               have hPn:PAt (W.alloc (.cells #[.slice none 0 0,.slice none 0 0] 89)) W.heap.size (.slice none 0 0) (.slice none 0 0):=heap_alloc_new _ _
               have hpz:wm.heap.size≤W.heap.size:=hEx.size
               (try have hBp:=fun b hb=>Nat.ne_of_lt (hfB b hb).2)
               (try have hDp:=fun b hb=>Nat.ne_of_lt (hfD b hb).2)
               (try replace hIA:=hIA.ext hxN)
               (try replace hIB:=hIB.ext hxN)
               (try replace hIC:=hIC.ext hxN)
               (try replace hID:=hID.ext hxN)
               (try replace hP:=hP.ext hxN)
               (try replace hfB:=fun b hb=>And.intro (hfB b hb).1 (Nat.lt_of_lt_of_le (hfB b hb).2 hxN.size))
               (try replace hfD:=fun b hb=>And.intro (hfD b hb).1 (Nat.lt_of_lt_of_le (hfD b hb).2 hxN.size))
               replace hEx:=aa hEx hxN
               have hHeld:=hSx _ hEx
               have hP:=hPn
               clear hPn
               refine hK.out _ _ (fun _=>hHeld) ?_
               clear hK K
               (try simp only[nP])
               generalize W.alloc (.cells #[.slice none 0 0,.slice none 0 0] 89)=W1 at *
               generalize W.heap.size=p at *
               clear hxN
               obtain⟨W,rfl⟩:∃ W,W=W1:=⟨_,rfl⟩
               (refine stB ae (i:=10) fun K hK=>?_;go_simp)
               refine(gN _ _ _ hIA (by rw[kK];exact Cg)).mono ?_
               rintro e W ⟨vB,rfl,pV,hxN,mi⟩
               (try have hBp:∀ b,vB.ownBlock=some b→b≠p:=fun b hb e=>by have h1:=ah hP;have h2:=(mi b hb).1;omega)
               have hfB:∀ b,vB.ownBlock=some b→wm.heap.size≤b∧b<W.heap.size:=fun b hb=>⟨Nat.le_trans hEx.size (mi b hb).1,(mi b hb).2⟩
               clear mi
               rw[xl1] at pV
               obtain⟨aB,cB,rfl,-⟩:=id pV
               (try replace hIA:=hIA.ext hxN)
               (try replace hIB:=hIB.ext hxN)
               (try replace hIC:=hIC.ext hxN)
               (try replace hID:=hID.ext hxN)
               (try replace hP:=hP.ext hxN)
               (try replace hfB:=fun b hb=>And.intro (hfB b hb).1 (Nat.lt_of_lt_of_le (hfB b hb).2 hxN.size))
               (try replace hfD:=fun b hb=>And.intro (hfD b hb).1 (Nat.lt_of_lt_of_le (hfD b hb).2 hxN.size))
               replace hEx:=aa hEx hxN
               have hHeld:=hSx _ hEx
               have hIB:=pV
               refine hK.out _ _ (fun _=>hHeld) ?_
               clear hK K
               (try simp only[nP])
               (refine stB ae (i:=20) fun K hK=>?_;go_simp)
               refine(je _ _ (toZ at_) (toZ (D[m]).2) _ (hAt _ hEx) (hRs _ hEx) uZ sI).mono ?_
               rintro e W ⟨vC,rfl,xM,hxN⟩
               (try replace hIA:=hIA.ext hxN)
               (try replace hIB:=hIB.ext hxN)
               (try replace hIC:=hIC.ext hxN)
               (try replace hID:=hID.ext hxN)
               (try replace hP:=hP.ext hxN)
               (try replace hfB:=fun b hb=>And.intro (hfB b hb).1 (Nat.lt_of_lt_of_le (hfB b hb).2 hxN.size))
               (try replace hfD:=fun b hb=>And.intro (hfD b hb).1 (Nat.lt_of_lt_of_le (hfD b hb).2 hxN.size))
               replace hEx:=aa hEx hxN
               have hHeld:=hSx _ hEx
               have hIC:=xM
               refine hK.out _ _ (fun _=>hHeld) ?_
               clear hK K
               (try simp only[nP])
               (refine stB ae (i:=21) fun K hK=>?_;go_simp)
               refine(gN _ _ _ hIC (by rw[kK];exact sI)).mono ?_
               rintro e W ⟨vD,rfl,jH,hxN,iq⟩
               (try have hDp:∀ b,vD.ownBlock=some b→b≠p:=fun b hb e=>by have h1:=ah hP;have h2:=(iq b hb).1;omega)
               have hfD:∀ b,vD.ownBlock=some b→wm.heap.size≤b∧b<W.heap.size:=fun b hb=>⟨Nat.le_trans hEx.size (iq b hb).1,(iq b hb).2⟩
               clear iq
               rw[xl2] at jH
               obtain⟨aD,cD,rfl,-⟩:=id jH
               (try replace hIA:=hIA.ext hxN)
               (try replace hIB:=hIB.ext hxN)
               (try replace hIC:=hIC.ext hxN)
               (try replace hID:=hID.ext hxN)
               (try replace hP:=hP.ext hxN)
               (try replace hfB:=fun b hb=>And.intro (hfB b hb).1 (Nat.lt_of_lt_of_le (hfB b hb).2 hxN.size))
               (try replace hfD:=fun b hb=>And.intro (hfD b hb).1 (Nat.lt_of_lt_of_le (hfD b hb).2 hxN.size))
               replace hEx:=aa hEx hxN
               have hHeld:=hSx _ hEx
               have hID:=jH
               refine hK.out _ _ (fun _=>hHeld) ?_
               clear hK K
               (try simp only[nP])
               ((refine tkB ae (i:=22) hHeld ?_);(try simp only[nP]))
               have q0:W.cell? ⟨p,0,none⟩=some (.slice none 0 0):=cell_of_row W p 0 _ _ _ hP
               have q1:W.cell? ⟨p,1,none⟩=some (.slice none 0 0):=cell_of_row W p 1 _ _ _ hP
               have q2:=frozen_of_row W p 0 _ _ hP
               have q3:=frozen_of_row W p 1 _ _ hP
               refine tlB ae [24] [_] ?_
               go_wp2_with fail
               go_meet
               case rel=>exact⟨p,aB,_,cB,aD,_,cD,rfl,(iB hEx hpz hP hIB hID hfB hfD hBp hDp).1,hpz,(iB hEx hpz hP hIB hID hfB hfD hBp hDp).2⟩
           · (refine rnB (i:=23) fun K hK=>?_;go_simp)
             have hxN:Ext W (W.alloc (.cells #[.slice none 0 0,.slice none 0 0] 89)):=by go_grown
             have hPn:PAt (W.alloc (.cells #[.slice none 0 0,.slice none 0 0] 89)) W.heap.size (.slice none 0 0) (.slice none 0 0):=heap_alloc_new _ _
             have hpz:wm.heap.size≤W.heap.size:=hEx.size
             (try have hBp:=fun b hb=>Nat.ne_of_lt (hfB b hb).2)
             (try have hDp:=fun b hb=>Nat.ne_of_lt (hfD b hb).2)
             (try replace hIA:=hIA.ext hxN)
             (try replace hIB:=hIB.ext hxN)
             (try replace hIC:=hIC.ext hxN)
             (try replace hID:=hID.ext hxN)
             (try replace hP:=hP.ext hxN)
             (try replace hfB:=fun b hb=>And.intro (hfB b hb).1 (Nat.lt_of_lt_of_le (hfB b hb).2 hxN.size))
             (try replace hfD:=fun b hb=>And.intro (hfD b hb).1 (Nat.lt_of_lt_of_le (hfD b hb).2 hxN.size))
             replace hEx:=aa hEx hxN
             have hHeld:=hSx _ hEx
             have hP:=hPn
             clear hPn
             refine hK.out _ _ (fun _=>hHeld) ?_
             clear hK K
             (try simp only[nP])
             generalize W.alloc (.cells #[.slice none 0 0,.slice none 0 0] 89)=W1 at *
             generalize W.heap.size=p at *
             clear hxN
             obtain⟨W,rfl⟩:∃ W,W=W1:=⟨_,rfl⟩
             (refine stB ae (i:=9) fun K hK=>?_;go_simp)
             refine(je _ _ (toZ at_) (toZ (D[m]).1) _ (hAt _ hEx) (hLs _ hEx) zK Cg).mono ?_
             rintro e W ⟨vA,rfl,Mi,hxN⟩
             (try replace hIA:=hIA.ext hxN)
             (try replace hIB:=hIB.ext hxN)
             (try replace hIC:=hIC.ext hxN)
             (try replace hID:=hID.ext hxN)
             (try replace hP:=hP.ext hxN)
             (try replace hfB:=fun b hb=>And.intro (hfB b hb).1 (Nat.lt_of_lt_of_le (hfB b hb).2 hxN.size))
             (try replace hfD:=fun b hb=>And.intro (hfD b hb).1 (Nat.lt_of_lt_of_le (hfD b hb).2 hxN.size))
             replace hEx:=aa hEx hxN
             have hHeld:=hSx _ hEx
             have hIA:=Mi
             refine hK.out _ _ (fun _=>hHeld) ?_
             clear hK K
             (try simp only[nP])
             (refine stB ae (i:=10) fun K hK=>?_;go_simp)
             refine(gN _ _ _ hIA (by rw[kK];exact Cg)).mono ?_
             rintro e W ⟨vB,rfl,pV,hxN,mi⟩
             (try have hBp:∀ b,vB.ownBlock=some b→b≠p:=fun b hb e=>by have h1:=ah hP;have h2:=(mi b hb).1;omega)
             have hfB:∀ b,vB.ownBlock=some b→wm.heap.size≤b∧b<W.heap.size:=fun b hb=>⟨Nat.le_trans hEx.size (mi b hb).1,(mi b hb).2⟩
             clear mi
             rw[xl1] at pV
             obtain⟨aB,cB,rfl,-⟩:=id pV
             (try replace hIA:=hIA.ext hxN)
             (try replace hIB:=hIB.ext hxN)
             (try replace hIC:=hIC.ext hxN)
             (try replace hID:=hID.ext hxN)
             (try replace hP:=hP.ext hxN)
             (try replace hfB:=fun b hb=>And.intro (hfB b hb).1 (Nat.lt_of_lt_of_le (hfB b hb).2 hxN.size))
             (try replace hfD:=fun b hb=>And.intro (hfD b hb).1 (Nat.lt_of_lt_of_le (hfD b hb).2 hxN.size))
             replace hEx:=aa hEx hxN
             have hHeld:=hSx _ hEx
             have hIB:=pV
             refine hK.out _ _ (fun _=>hHeld) ?_
             clear hK K
             (try simp only[nP])
             (refine stB ae (i:=20) fun K hK=>?_;go_simp)
             refine(je _ _ (toZ at_) (toZ (D[m]).2) _ (hAt _ hEx) (hRs _ hEx) uZ sI).mono ?_
             rintro e W ⟨vC,rfl,xM,hxN⟩
             (try replace hIA:=hIA.ext hxN)
             (try replace hIB:=hIB.ext hxN)
             (try replace hIC:=hIC.ext hxN)
             (try replace hID:=hID.ext hxN)
             (try replace hP:=hP.ext hxN)
             (try replace hfB:=fun b hb=>And.intro (hfB b hb).1 (Nat.lt_of_lt_of_le (hfB b hb).2 hxN.size))
             (try replace hfD:=fun b hb=>And.intro (hfD b hb).1 (Nat.lt_of_lt_of_le (hfD b hb).2 hxN.size))
             replace hEx:=aa hEx hxN
             have hHeld:=hSx _ hEx
             have hIC:=xM
             refine hK.out _ _ (fun _=>hHeld) ?_
             clear hK K
             (try simp only[nP])
             (refine stB ae (i:=21) fun K hK=>?_;go_simp)
             refine(gN _ _ _ hIC (by rw[kK];exact sI)).mono ?_
             rintro e W ⟨vD,rfl,jH,hxN,iq⟩
             (try have hDp:∀ b,vD.ownBlock=some b→b≠p:=fun b hb e=>by have h1:=ah hP;have h2:=(iq b hb).1;omega)
             have hfD:∀ b,vD.ownBlock=some b→wm.heap.size≤b∧b<W.heap.size:=fun b hb=>⟨Nat.le_trans hEx.size (iq b hb).1,(iq b hb).2⟩
             clear iq
             rw[xl2] at jH
             obtain⟨aD,cD,rfl,-⟩:=id jH
             (try replace hIA:=hIA.ext hxN)
             (try replace hIB:=hIB.ext hxN)
             (try replace hIC:=hIC.ext hxN)
             (try replace hID:=hID.ext hxN)
             (try replace hP:=hP.ext hxN)
             (try replace hfB:=fun b hb=>And.intro (hfB b hb).1 (Nat.lt_of_lt_of_le (hfB b hb).2 hxN.size))
             (try replace hfD:=fun b hb=>And.intro (hfD b hb).1 (Nat.lt_of_lt_of_le (hfD b hb).2 hxN.size))
             replace hEx:=aa hEx hxN
             have hHeld:=hSx _ hEx
             have hID:=jH
             refine hK.out _ _ (fun _=>hHeld) ?_
             clear hK K
             (try simp only[nP])
             ((refine tkB ae (i:=22) hHeld ?_);(try simp only[nP]))
             have q0:W.cell? ⟨p,0,none⟩=some (.slice none 0 0):=cell_of_row W p 0 _ _ _ hP
             have q1:W.cell? ⟨p,1,none⟩=some (.slice none 0 0):=cell_of_row W p 1 _ _ _ hP
             have q2:=frozen_of_row W p 0 _ _ hP
             have q3:=frozen_of_row W p 1 _ _ hP
             refine tlB ae [24] [_] ?_
             go_wp2_with fail
             go_meet
             case rel=>exact⟨p,aB,_,cB,aD,_,cD,rfl,(iB hEx hpz hP hIB hID hfB hfD hBp hDp).1,hpz,(iB hEx hpz hP hIB hID hfB hfD hBp hDp).2⟩
          case rest =>
           obtain⟨p,aB,nB,cB,aD,nD,cD,rfl,hxc,hpz,hP,hIB,hID,hfB,hfD⟩:=hcut
           obtain⟨gl,cl_,rfl⟩:=HLM.out.s1
           obtain⟨gf,cf,rfl⟩:=HLM.out.s2
           have HP:=Hd_ hP
           have HIB:=Hd_ hIB
           have HID:=Hd_ hID
           have HfB:=Hd_ hfB
           have HfD:=Hd_ hfD
           have HXC:=Hd_ hxc
           have hp0:wc.cell? ⟨p,0,none⟩=some (.slice aB nB cB):=cell_of_row wc p 0 _ _ _ hP
           have hp1:wc.cell? ⟨p,1,none⟩=some (.slice aD nD cD):=cell_of_row wc p 1 _ _ _ hP
           have hll:from_.length≤root+1:=fT HL.out.nd (fun x hx=>by have:=((HL.out.mem x).1 hx).1;omega)
           clear hP hIB hID hfB hfD hxc p0 p1 p2 p3 p4 yK Rt JD Tu
           go_upto_block 4 with fail
           go_cut [13] (fun ii w3=>∃ i,i≤from_.length∧ii=.int .i64 ((i:Nat):Int)∧Ext wc w3∧(∀ j (h:j<from_.length),j<i→nc (Xn D at_ from_[j]) (Xn D at_ m)<0)∧(∀ h:i<from_.length,¬ nc (Xn D at_ from_[i]) (Xn D at_ m)<0))
           case first =>
            go_wp2_with fail
            go_loopw [13] (fun ii w3=>∃ i,i≤from_.length∧ii=.int .i64 ((i:Nat):Int)∧Ext wc w3∧Hid (∀ j (h:j<from_.length),j<i→nc (Xn D at_ from_[j]) (Xn D at_ m)<0)) (fun ii _=>from_.length-(intOf ii).toNat)
            case atStart=>exact⟨0,Nat.zero_le _,rfl,Below.refl _ _,fun j _ h=>absurd h (by omega)⟩
            case round =>
             obtain⟨i,hi,rfl,hx3,HNC⟩:=hrel
             have xw:=aa HXC.out hx3
             have hP3:=HP.out.ext hx3
             have hp0:wr.cell? ⟨p,0,none⟩=some (.slice aB nB cB):=cell_of_row wr p 0 _ _ _ hP3
             have hp1:wr.cell? ⟨p,1,none⟩=some (.slice aD nD cD):=cell_of_row wr p 1 _ _ _ hP3
             clear hP3
             by_cases hlt:i<from_.length
             · obtain⟨xs,hrow,hnr⟩:=HLM.out.rows
               have hrow3:=aJ hrow xw
               have PT:=hnr.ext xw
               obtain⟨L,R,e1,e2,e3,e4,-,-⟩:=PT i (by simpa using hlt)
               rw[List.getElem_map] at e3 e4
               obtain⟨aX,cX,rfl,-⟩:=id e3
               obtain⟨aY,cY,rfl,-⟩:=id e4
               have cx:=(hrow3.cellAt (i*2) (by omega)).trans e1
               have cy:=(hrow3.cellAt (i*2+1) (by omega)).trans e2
               have HE3:=Hd_ e3
               have HE4:=Hd_ e4
               have HX3:=Hd_ hx3
               clear hrow hnr hrow3 PT e1 e2 e3 e4 xw hx3
               by_cases hnc:nc (Xn D at_ from_[i]) (Xn D at_ m)<0
               · have hd:decide (nc (Xn D at_ from_[i]) (Xn D at_ m)<0)=true:=decide_eq_true hnc
                 have HNL:=Hd_ hnc
                 clear hnc
                 go_wp2_with fail
                 refine bz (fun w'=>w'.cell? ⟨gl,i*2,none⟩=some (.slice aX (toZ (Xn D at_ from_[i]).1).length cX)∧w'.cell? ⟨gl,i*2+1,none⟩=some (.slice aY (toZ (Xn D at_ from_[i]).2).length cY)∧w'.cell? ⟨p,0,none⟩=some (.slice aB nB cB)∧w'.cell? ⟨p,1,none⟩=some (.slice aD nD cD)) [10,11] rX (by kernel_rfl) ⟨by kernel_rfl,by kernel_rfl,by kernel_rfl⟩ ⟨cx,cy,hp0,hp1⟩ (fun ae hHeld=>?_)
                 ((refine tkB ae (i:=0) hHeld ?_);(try simp only[nP]);(refine tkB ae (i:=1) hHeld ?_);(try simp only[nP]);(refine tkB ae (i:=2) hHeld ?_);(try simp only[nP]);(refine tkB ae (i:=3) hHeld ?_);(try simp only[nP]);(refine tkB ae (i:=4) hHeld ?_);(try simp only[nP]);(refine tkB ae (i:=5) hHeld ?_);(try simp only[nP]);(refine tkB ae (i:=6) hHeld ?_);(try simp only[nP]);(refine tkB ae (i:=7) hHeld ?_);(try simp only[nP]);(refine tkB ae (i:=8) hHeld ?_);(try simp only[nP]);(refine tkB ae (i:=9) hHeld ?_);(try simp only[nP]))
                 refine tlB ae [10,11] [_,_] ?_
                 go_wp2_with (go_at_call 179;refine(tN _ _ _ _ (Xn D at_ from_[i]) (Xn D at_ m) _ (HE3.out.ext (by go_grown)) (HE4.out.ext (by go_grown)) (HIB.out.ext (aa HX3.out (by go_grown))) (HID.out.ext (aa HX3.out (by go_grown)))).mono ?_;rintro e w4 ⟨rfl,hx4⟩;rw[hd])
                 go_roundw
                 case rel=>exact⟨i+1,by omega,by go_num,aa HX3.out (aa (by go_grown) hx4),fun j hj hji=>by
                  by_cases e:j=i
                  · subst e;exact HNL.out
                  · exact HNC.out j hj (by omega)⟩
                 case measure=>simp[intOf];omega
               · have hd:decide (nc (Xn D at_ from_[i]) (Xn D at_ m)<0)=false:=decide_eq_false hnc
                 have HNL:=Hd_ hnc
                 clear hnc
                 go_wp2_with fail
                 refine bz (fun w'=>w'.cell? ⟨gl,i*2,none⟩=some (.slice aX (toZ (Xn D at_ from_[i]).1).length cX)∧w'.cell? ⟨gl,i*2+1,none⟩=some (.slice aY (toZ (Xn D at_ from_[i]).2).length cY)∧w'.cell? ⟨p,0,none⟩=some (.slice aB nB cB)∧w'.cell? ⟨p,1,none⟩=some (.slice aD nD cD)) [10,11] rX (by kernel_rfl) ⟨by kernel_rfl,by kernel_rfl,by kernel_rfl⟩ ⟨cx,cy,hp0,hp1⟩ (fun ae hHeld=>?_)
                 ((refine tkB ae (i:=0) hHeld ?_);(try simp only[nP]);(refine tkB ae (i:=1) hHeld ?_);(try simp only[nP]);(refine tkB ae (i:=2) hHeld ?_);(try simp only[nP]);(refine tkB ae (i:=3) hHeld ?_);(try simp only[nP]);(refine tkB ae (i:=4) hHeld ?_);(try simp only[nP]);(refine tkB ae (i:=5) hHeld ?_);(try simp only[nP]);(refine tkB ae (i:=6) hHeld ?_);(try simp only[nP]);(refine tkB ae (i:=7) hHeld ?_);(try simp only[nP]);(refine tkB ae (i:=8) hHeld ?_);(try simp only[nP]);(refine tkB ae (i:=9) hHeld ?_);(try simp only[nP]))
                 refine tlB ae [10,11] [_,_] ?_
                 go_wp2_with (go_at_call 179;refine(tN _ _ _ _ (Xn D at_ from_[i]) (Xn D at_ m) _ (HE3.out.ext (by go_grown)) (HE4.out.ext (by go_grown)) (HIB.out.ext (aa HX3.out (by go_grown))) (HID.out.ext (aa HX3.out (by go_grown)))).mono ?_;rintro e w4 ⟨rfl,hx4⟩;rw[hd])
                 go_meet
                 case rel=>exact⟨i,by omega,rfl,aa HX3.out (aa (by go_grown) hx4),HNC.out,fun _=>by have:=HNL.out;omega⟩
             · have hie:i=from_.length:=by omega
               have hlt':¬ ((i:Int)<(from_.length:Int)):=by omega
               go_wp2_with fail
               refine bz (fun w'=>w'.cell? ⟨p,0,none⟩=some (.slice aB nB cB)) [11] rX (by kernel_rfl) ⟨by kernel_rfl,by kernel_rfl,by kernel_rfl⟩ hp0 (fun ae hHeld=>?_)
               ((refine tkB ae (i:=0) hHeld ?_);(try simp only[nP]);(refine tkB ae (i:=1) hHeld ?_);(try simp only[nP]);(refine tkB ae (i:=2) hHeld ?_);(try simp only[nP]);(refine tkB ae (i:=3) hHeld ?_);(try simp only[nP]);(refine tkB ae (i:=4) hHeld ?_);(try simp only[nP]))
               ((refine bH ae (i:=5) (oi:=_) (v:=undef) (by simp only[gE];rfl) (by kernel_rfl) (by exact fun _ _ _ h=>h) hHeld (Or.inr ⟨by rfl,rfl⟩) ?r49);(try simp only[nP]);(refine bH ae (i:=6) (oi:=_) (v:=undef) (by simp only[gE];rfl) (by kernel_rfl) (by exact fun _ _ _ h=>h) hHeld (Or.inr ⟨by rfl,rfl⟩) ?r50);(try simp only[nP]);(refine bH ae (i:=7) (oi:=_) (v:=undef) (by simp only[gE];rfl) (by kernel_rfl) (by exact fun _ _ _ h=>h) hHeld (Or.inr ⟨by rfl,rfl⟩) ?r51);(try simp only[nP]);(refine bH ae (i:=8) (oi:=_) (v:=undef) (by simp only[gE];rfl) (by kernel_rfl) (by exact fun _ _ _ h=>h) hHeld (Or.inr ⟨by rfl,rfl⟩) ?r52);(try simp only[nP]);(refine bH ae (i:=9) (oi:=_) (v:=undef) (by simp only[gE];rfl) (by kernel_rfl) (by exact fun _ _ _ h=>h) hHeld (Or.inr ⟨by rfl,rfl⟩) ?r53);(try simp only[nP]);(refine bH ae (i:=10) (oi:=_) (v:=undef) (by simp only[gE];rfl) (by kernel_rfl) (by exact fun _ _ _ h=>h) hHeld (Or.inr ⟨by rfl,rfl⟩) ?r54);(try simp only[nP]))
               refine tlB ae [11] [_] ?_
               go_wp2_with fail
               go_meet
               case rel=>exact⟨from_.length,Nat.le_refl _,rfl,aa hx3 (by go_grown),fun j hj _=>HNC.out j hj (by omega),fun h=>absurd h (by omega)⟩
           case rest =>
            obtain⟨i,hi,rfl,hx3,HNC,hne⟩:=hcut
            obtain⟨w3,rfl⟩:∃ w3:World,w3=wc:=⟨_,rfl⟩
            have xw:=aa HXC.out hx3
            have hP3:=HP.out.ext hx3
            have hp0:w3.cell? ⟨p,0,none⟩=some (.slice aB nB cB):=cell_of_row w3 p 0 _ _ _ hP3
            have hp1:w3.cell? ⟨p,1,none⟩=some (.slice aD nD cD):=cell_of_row w3 p 1 _ _ _ hP3
            obtain⟨xs,hrow,hnr⟩:=HLM.out.rows
            have hrow3:=aJ hrow xw
            have hxl:xs.length=from_.length*2:=hrow.1
            obtain⟨hcap1,hcap2⟩:from_.length≤cl_∧cl_≤maxLen:=by obtain⟨_,_,e,h1,h2⟩:=az hrow3;simp only[Value.slice.injEq] at e;obtain⟨_,_,rfl⟩:=e;exact⟨h1,h2⟩
            have hone:=hnr.one (by simpa using hxl)
            have HNR:=Hd_ hnr
            have ou:=Hd_ hrow3
            have zP:=Hd_ xw
            have Nf:=Hd_ HNC
            have HNE:=Hd_ hne
            have HX3:=Hd_ hx3
            have Uy:i≤cl_:=by omega
            clear hP3 hrow hnr hrow3 xw HNC hne hx3
            go_wp2_with fail
            go_cut [9] (fun lv w4=>∃ g cap xs',lv=.slice (some ⟨g,0,none⟩) (from_.length+1) cap∧Ext w3 w4∧w3.heap.size≤g∧w4.ownsRow w.heap.size 89 2 lv (from_.length+1) xs'∧eD w4 xs' ((from_.take i++m :: from_.drop i).map (Xn D at_)) w.heap.size (KF w o gat vN))
            case first =>
             have hSx:∀ W,Ext w3 W→W.cell? ⟨p,0,none⟩=some (.slice aB nB cB)∧W.cell? ⟨p,1,none⟩=some (.slice aD nD cD):=fun W h=>⟨(h.cell (lt_of_cell hp0)).trans hp0,(h.cell (lt_of_cell hp1)).trans hp1⟩
             have Nc:=HNR.out.ext zP.out
             have HB3:=HIB.out.ext HX3.out
             have HD3:=HID.out.ext HX3.out
             have hz3:=HX3.out.size
             have hkl:=HM.out.klt
             have hzm:=HX.out.size
             have hzw:=hE.size
             have M4:∀ b,Value.ownBlock (.slice aB nB cB)=some b→w.heap.size≤b∧b<w3.heap.size∧¬ KF w o gat vN b:=fun b hb=>⟨by have:=(HfB.out b hb).1;omega,by have:=(HfB.out b hb).2;omega,fun k=>by have:=hkl b k;have:=(HfB.out b hb).1;omega⟩
             have M3:∀ b,Value.ownBlock (.slice aD nD cD)=some b→w.heap.size≤b∧b<w3.heap.size∧¬ KF w o gat vN b:=fun b hb=>⟨by have:=(HfD.out b hb).1;omega,by have:=(HfD.out b hb).2;omega,fun k=>by have:=hkl b k;have:=(HfD.out b hb).1;omega⟩
             have hw3:w.heap.size≤w3.heap.size:=by have:=zP.out.size;omega
             refine bz (fun w'=>w'.cell? ⟨p,0,none⟩=some (.slice aB nB cB)∧w'.cell? ⟨p,1,none⟩=some (.slice aD nD cD)) [11,12] FC (by kernel_rfl) ⟨by kernel_rfl,by kernel_rfl,by kernel_rfl⟩ ⟨hp0,hp1⟩ (fun ae hHeld=>?_)
             ((refine tkB ae (i:=1) hHeld ?_);(try simp only[nP]);(refine tkB ae (i:=2) hHeld ?_);(try simp only[nP]);(refine tkB ae (i:=3) hHeld ?_);(try simp only[nP]);(refine tkB ae (i:=5) hHeld ?_);(try simp only[nP]);(refine tkB ae (i:=8) hHeld ?_);(try simp only[nP]);(refine tkB ae (i:=9) hHeld ?_);(try simp only[nP]);(refine tkB ae (i:=10) hHeld ?_);(try simp only[nP]))
             have hEx:Ext w3 w3.drew:=⟨rfl,rfl,rfl,Nat.le_refl _,fun _ _=>rfl⟩
             obtain⟨W,hW⟩:∃ W,W=w3.drew:=⟨_,rfl⟩
             rw[← hW] at hEx hHeld ⊢
             clear hW
             refine jb ae (i:=0) (j:=6) (by kernel_rfl) ?_ ?_
             · (refine rnB (i:=0) fun K hK=>?_;go_simp)
               have hxN:Ext W (W.alloc (.cells #[] 89)):=by go_grown
               have iY:(W.alloc (.cells #[] 89)).ownsRow w3.heap.size 89 2 (.slice (some ⟨W.heap.size,0,none⟩) 0 0) 0 []:=World.ownsRow_made W #[] 0 hEx.size (by decide) (by simp)
               (try have hqr:∀ b,Value.ownBlock (.slice (some ⟨W.heap.size,0,none⟩) 0 0)=some b→b≠q:=fun b hb e=>by have h1:=ah hP;simp[Value.ownBlock] at hb;omega)
               (try replace hP:=hP.ext hxN)
               have hro:=iY
               clear iY
               replace hEx:=aa hEx hxN
               have hHeld:=hSx _ hEx
               refine hK.out _ _ (fun _=>hHeld) ?_
               clear hK K
               (try simp only[nP])
               generalize W.alloc (.cells #[] 89)=W1 at *
               generalize W.heap.size=h0 at *
               clear hxN
               obtain⟨W,rfl⟩:∃ W,W=W1:=⟨_,rfl⟩
               refine jb ae (i:=4) (j:=6) (by kernel_rfl) ?_ ?_
               · refine rnB (i:=4) fun K hK=>?_
                 refine bO rfl (.tmp 94) (.tmp 97) 26 rfl w3.heap.size 89 i1 (.agg #[.slice none 0 0,.slice none 0 0]) 2 48 underlying26 hi1 hy0 hy1 hy2 rfl (by decide) (.slice (some ⟨h0,0,none⟩) 0 0) 0 [] rfl hro _ i _ ((xs.drop 0).take (i*2)) rfl (by simp;omega) (.inr ⟨⟨gl,0,none⟩,rfl,iG ou.out hEx 0 (i*2) (by omega)⟩) (fun u hu=>hone u (List.mem_of_mem_drop (List.mem_of_mem_take hu))) (by unfold maxLen;omega) (by omega) hEx.size ?_
                 intro v1 W iK hg1 hl1
                 simp only[Nat.zero_add,List.nil_append,List.drop_zero] at iK
                 (try have pO:=zw hP hl1 hqr)
                 (try replace hP:=PAt.grown hP hg1 hqr)
                 (try replace hqr:=pO)
                 replace hEx:=aV hEx hg1 (fun k hk=>(hro.lt k hk).1)
                 replace hro:=iK
                 clear iK
                 have hHeld:=hSx _ hEx
                 refine hK.out _ _ (fun _=>hHeld) ?_
                 clear hK K
                 (try simp only[nP])
                 (refine stB ae (i:=6) fun K hK=>?_;go_simp)
                 have hxN:Ext W (W.alloc (.cells #[.slice aB nB cB,.slice aD nD cD] 89)):=by go_grown
                 have hPn:PAt (W.alloc (.cells #[.slice aB nB cB,.slice aD nD cD] 89)) W.heap.size (.slice aB nB cB) (.slice aD nD cD):=heap_alloc_new _ _
                 (try have hqr:=fun b hb=>Nat.ne_of_lt (hro.lt b hb).2)
                 (try replace hro:=aJ hro hxN)
                 have hP:=hPn
                 clear hPn
                 replace hEx:=aa hEx hxN
                 have hHeld:=hSx _ hEx
                 refine hK.out _ _ (fun _=>hHeld) ?_
                 clear hK K
                 (try simp only[nP])
                 generalize W.alloc (.cells #[.slice aB nB cB,.slice aD nD cD] 89)=W1 at *
                 generalize W.heap.size=q at *
                 clear hxN
                 obtain⟨W,rfl⟩:∃ W,W=W1:=⟨_,rfl⟩
                 refine stB ae (i:=7) fun K hK=>?_
                 refine bO rfl (.tmp 98) (.tmp 100) 26 rfl w3.heap.size 89 i1 (.agg #[.slice none 0 0,.slice none 0 0]) 2 48 underlying26 hi1 hy0 hy1 hy2 rfl (by decide) v1 i (xs.take (i*2)) rfl hro _ 1 _ [.slice aB nB cB,.slice aD nD cD] rfl rfl (.inr ⟨⟨q,0,none⟩,rfl,su hP⟩) ll (by unfold maxLen;omega) (by omega) hEx.size ?_
                 intro v2 W jv hg2 hl2
                 replace hEx:=aV hEx hg2 (fun k hk=>(hro.lt k hk).1)
                 have hHeld:=hSx _ hEx
                 refine hK.out _ _ (fun _=>hHeld) ?_
                 clear hK K
                 (try simp only[nP])
                 refine stB ae (i:=11) fun K hK=>?_
                 refine bO rfl (.tmp 101) (.tmp 104) 26 rfl w3.heap.size 89 i1 (.agg #[.slice none 0 0,.slice none 0 0]) 2 48 underlying26 hi1 hy0 hy1 hy2 rfl (by decide) v2 (i+1) (xs.take (i*2)++[.slice aB nB cB,.slice aD nD cD]) rfl jv _ (from_.length-i) _ ((xs.drop (i*2)).take ((from_.length-i)*2)) rfl (by simp;omega) (by
                  rcases Nat.lt_or_ge i from_.length with h | h
                  · exact .inr ⟨⟨gl,i*2,none⟩,by first | rfl | (rw[if_neg (by omega)]),iG ou.out hEx (i*2) ((from_.length-i)*2) (by omega)⟩
                  · exact .inl (by omega)) (fun u hu=>hone u (List.mem_of_mem_drop (List.mem_of_mem_take hu))) (by unfold maxLen;omega) (by omega) hEx.size ?_
                 intro v3 W kP hg3 hl3
                 replace hEx:=aV hEx hg3 (fun k hk=>(jv.lt k hk).1)
                 have hHeld:=hSx _ hEx
                 refine hK.out _ _ (fun _=>hHeld) ?_
                 clear hK K
                 (try simp only[nP])
                 refine tlB ae [12] [_] ?_
                 go_wp2_with fail
                 all_goals (go_meet;exact qR kP Nc hEx hxl hi HB3 HD3 M4 M3 hw3)
               · (refine rnB (i:=6) fun K hK=>?_;go_simp)
                 have hxN:Ext W (W.alloc (.cells #[.slice aB nB cB,.slice aD nD cD] 89)):=by go_grown
                 have hPn:PAt (W.alloc (.cells #[.slice aB nB cB,.slice aD nD cD] 89)) W.heap.size (.slice aB nB cB) (.slice aD nD cD):=heap_alloc_new _ _
                 (try have hqr:=fun b hb=>Nat.ne_of_lt (hro.lt b hb).2)
                 (try replace hro:=aJ hro hxN)
                 have hP:=hPn
                 clear hPn
                 replace hEx:=aa hEx hxN
                 have hHeld:=hSx _ hEx
                 refine hK.out _ _ (fun _=>hHeld) ?_
                 clear hK K
                 (try simp only[nP])
                 generalize W.alloc (.cells #[.slice aB nB cB,.slice aD nD cD] 89)=W1 at *
                 generalize W.heap.size=q at *
                 clear hxN
                 obtain⟨W,rfl⟩:∃ W,W=W1:=⟨_,rfl⟩
                 refine stB ae (i:=4) fun K hK=>?_
                 refine bO rfl (.tmp 94) (.tmp 97) 26 rfl w3.heap.size 89 i1 (.agg #[.slice none 0 0,.slice none 0 0]) 2 48 underlying26 hi1 hy0 hy1 hy2 rfl (by decide) (.slice (some ⟨h0,0,none⟩) 0 0) 0 [] rfl hro _ i _ ((xs.drop 0).take (i*2)) rfl (by simp;omega) (.inr ⟨⟨gl,0,none⟩,rfl,iG ou.out hEx 0 (i*2) (by omega)⟩) (fun u hu=>hone u (List.mem_of_mem_drop (List.mem_of_mem_take hu))) (by unfold maxLen;omega) (by omega) hEx.size ?_
                 intro v1 W iK hg1 hl1
                 simp only[Nat.zero_add,List.nil_append,List.drop_zero] at iK
                 (try have pO:=zw hP hl1 hqr)
                 (try replace hP:=PAt.grown hP hg1 hqr)
                 (try replace hqr:=pO)
                 replace hEx:=aV hEx hg1 (fun k hk=>(hro.lt k hk).1)
                 replace hro:=iK
                 clear iK
                 have hHeld:=hSx _ hEx
                 refine hK.out _ _ (fun _=>hHeld) ?_
                 clear hK K
                 (try simp only[nP])
                 refine stB ae (i:=7) fun K hK=>?_
                 refine bO rfl (.tmp 98) (.tmp 100) 26 rfl w3.heap.size 89 i1 (.agg #[.slice none 0 0,.slice none 0 0]) 2 48 underlying26 hi1 hy0 hy1 hy2 rfl (by decide) v1 i (xs.take (i*2)) rfl hro _ 1 _ [.slice aB nB cB,.slice aD nD cD] rfl rfl (.inr ⟨⟨q,0,none⟩,rfl,su hP⟩) ll (by unfold maxLen;omega) (by omega) hEx.size ?_
                 intro v2 W jv hg2 hl2
                 replace hEx:=aV hEx hg2 (fun k hk=>(hro.lt k hk).1)
                 have hHeld:=hSx _ hEx
                 refine hK.out _ _ (fun _=>hHeld) ?_
                 clear hK K
                 (try simp only[nP])
                 refine stB ae (i:=11) fun K hK=>?_
                 refine bO rfl (.tmp 101) (.tmp 104) 26 rfl w3.heap.size 89 i1 (.agg #[.slice none 0 0,.slice none 0 0]) 2 48 underlying26 hi1 hy0 hy1 hy2 rfl (by decide) v2 (i+1) (xs.take (i*2)++[.slice aB nB cB,.slice aD nD cD]) rfl jv _ (from_.length-i) _ ((xs.drop (i*2)).take ((from_.length-i)*2)) rfl (by simp;omega) (by
                  rcases Nat.lt_or_ge i from_.length with h | h
                  · exact .inr ⟨⟨gl,i*2,none⟩,by first | rfl | (rw[if_neg (by omega)]),iG ou.out hEx (i*2) ((from_.length-i)*2) (by omega)⟩
                  · exact .inl (by omega)) (fun u hu=>hone u (List.mem_of_mem_drop (List.mem_of_mem_take hu))) (by unfold maxLen;omega) (by omega) hEx.size ?_
                 intro v3 W kP hg3 hl3
                 replace hEx:=aV hEx hg3 (fun k hk=>(jv.lt k hk).1)
                 have hHeld:=hSx _ hEx
                 refine hK.out _ _ (fun _=>hHeld) ?_
                 clear hK K
                 (try simp only[nP])
                 refine tlB ae [12] [_] ?_
                 go_wp2_with fail
                 all_goals (go_meet;exact qR kP Nc hEx hxl hi HB3 HD3 M4 M3 hw3)
             · (refine rnB (i:=6) fun K hK=>?_;go_simp)
               have hxN:Ext W (W.alloc (.cells #[.slice aB nB cB,.slice aD nD cD] 89)):=by go_grown
               have hPn:PAt (W.alloc (.cells #[.slice aB nB cB,.slice aD nD cD] 89)) W.heap.size (.slice aB nB cB) (.slice aD nD cD):=heap_alloc_new _ _
               (try have hqr:=fun b hb=>Nat.ne_of_lt (hro.lt b hb).2)
               (try replace hro:=aJ hro hxN)
               have hP:=hPn
               clear hPn
               replace hEx:=aa hEx hxN
               have hHeld:=hSx _ hEx
               refine hK.out _ _ (fun _=>hHeld) ?_
               clear hK K
               (try simp only[nP])
               generalize W.alloc (.cells #[.slice aB nB cB,.slice aD nD cD] 89)=W1 at *
               generalize W.heap.size=q at *
               clear hxN
               obtain⟨W,rfl⟩:∃ W,W=W1:=⟨_,rfl⟩
               (refine stB ae (i:=0) fun K hK=>?_;go_simp)
               have hxN:Ext W (W.alloc (.cells #[] 89)):=by go_grown
               have iY:(W.alloc (.cells #[] 89)).ownsRow w3.heap.size 89 2 (.slice (some ⟨W.heap.size,0,none⟩) 0 0) 0 []:=World.ownsRow_made W #[] 0 hEx.size (by decide) (by simp)
               (try have hqr:∀ b,Value.ownBlock (.slice (some ⟨W.heap.size,0,none⟩) 0 0)=some b→b≠q:=fun b hb e=>by have h1:=ah hP;simp[Value.ownBlock] at hb;omega)
               (try replace hP:=hP.ext hxN)
               have hro:=iY
               clear iY
               replace hEx:=aa hEx hxN
               have hHeld:=hSx _ hEx
               refine hK.out _ _ (fun _=>hHeld) ?_
               clear hK K
               (try simp only[nP])
               generalize W.alloc (.cells #[] 89)=W1 at *
               generalize W.heap.size=h0 at *
               clear hxN
               obtain⟨W,rfl⟩:∃ W,W=W1:=⟨_,rfl⟩
               refine stB ae (i:=4) fun K hK=>?_
               refine bO rfl (.tmp 94) (.tmp 97) 26 rfl w3.heap.size 89 i1 (.agg #[.slice none 0 0,.slice none 0 0]) 2 48 underlying26 hi1 hy0 hy1 hy2 rfl (by decide) (.slice (some ⟨h0,0,none⟩) 0 0) 0 [] rfl hro _ i _ ((xs.drop 0).take (i*2)) rfl (by simp;omega) (.inr ⟨⟨gl,0,none⟩,rfl,iG ou.out hEx 0 (i*2) (by omega)⟩) (fun u hu=>hone u (List.mem_of_mem_drop (List.mem_of_mem_take hu))) (by unfold maxLen;omega) (by omega) hEx.size ?_
               intro v1 W iK hg1 hl1
               simp only[Nat.zero_add,List.nil_append,List.drop_zero] at iK
               (try have pO:=zw hP hl1 hqr)
               (try replace hP:=PAt.grown hP hg1 hqr)
               (try replace hqr:=pO)
               replace hEx:=aV hEx hg1 (fun k hk=>(hro.lt k hk).1)
               replace hro:=iK
               clear iK
               have hHeld:=hSx _ hEx
               refine hK.out _ _ (fun _=>hHeld) ?_
               clear hK K
               (try simp only[nP])
               refine stB ae (i:=7) fun K hK=>?_
               refine bO rfl (.tmp 98) (.tmp 100) 26 rfl w3.heap.size 89 i1 (.agg #[.slice none 0 0,.slice none 0 0]) 2 48 underlying26 hi1 hy0 hy1 hy2 rfl (by decide) v1 i (xs.take (i*2)) rfl hro _ 1 _ [.slice aB nB cB,.slice aD nD cD] rfl rfl (.inr ⟨⟨q,0,none⟩,rfl,su hP⟩) ll (by unfold maxLen;omega) (by omega) hEx.size ?_
               intro v2 W jv hg2 hl2
               replace hEx:=aV hEx hg2 (fun k hk=>(hro.lt k hk).1)
               have hHeld:=hSx _ hEx
               refine hK.out _ _ (fun _=>hHeld) ?_
               clear hK K
               (try simp only[nP])
               refine stB ae (i:=11) fun K hK=>?_
               refine bO rfl (.tmp 101) (.tmp 104) 26 rfl w3.heap.size 89 i1 (.agg #[.slice none 0 0,.slice none 0 0]) 2 48 underlying26 hi1 hy0 hy1 hy2 rfl (by decide) v2 (i+1) (xs.take (i*2)++[.slice aB nB cB,.slice aD nD cD]) rfl jv _ (from_.length-i) _ ((xs.drop (i*2)).take ((from_.length-i)*2)) rfl (by simp;omega) (by
                rcases Nat.lt_or_ge i from_.length with h | h
                · exact .inr ⟨⟨gl,i*2,none⟩,by first | rfl | (rw[if_neg (by omega)]),iG ou.out hEx (i*2) ((from_.length-i)*2) (by omega)⟩
                · exact .inl (by omega)) (fun u hu=>hone u (List.mem_of_mem_drop (List.mem_of_mem_take hu))) (by unfold maxLen;omega) (by omega) hEx.size ?_
               intro v3 W kP hg3 hl3
               replace hEx:=aV hEx hg3 (fun k hk=>(jv.lt k hk).1)
               have hHeld:=hSx _ hEx
               refine hK.out _ _ (fun _=>hHeld) ?_
               clear hK K
               (try simp only[nP])
               refine tlB ae [12] [_] ?_
               go_wp2_with fail
               all_goals (go_meet;exact qR kP Nc hEx hxl hi HB3 HD3 M4 M3 hw3)
            case rest =>
             obtain⟨g5,c5,xs5,rfl,hx4,hg5,Gj,Gp⟩:=hcut
             obtain⟨w4,rfl⟩:∃ w4:World,w4=wc:=⟨_,rfl⟩
             have Lh:=aa zP.out hx4
             have Lp:=aJ HLM.out.Bu Lh
             obtain⟨UB,UA⟩:from_.length≤cf∧cf≤maxLen:=by obtain⟨_,_,e,h1,h2⟩:=az Lp;simp only[Value.slice.injEq] at e;obtain⟨_,_,rfl⟩:=e;exact⟨h1,h2⟩
             have zQ:=Hd_ Lp
             have Ic:=Hd_ Lh
             have M6:=Hd_ Gj
             have Nb:=Hd_ Gp
             have HX4:=Hd_ hx4
             have Uz:i≤cf:=by omega
             have hz4:=hx4.size
             clear hx4 Gj Gp Lp Lh hp0 hp1
             go_wp2_with fail
             have hw4:w.heap.size≤w4.heap.size:=by have:=Ic.out.size;have:=HX.out.size;have:=hE.size;omega
             have hSx:∀ W,Ext w4 W→True:=fun _ _=>trivial
             refine bz (fun w'=>True) [11,12] FB (by kernel_rfl) ⟨by kernel_rfl,by kernel_rfl,by kernel_rfl⟩ trivial (fun ae hHeld=>?_)
             ((refine tkB ae (i:=1) hHeld ?_);(try simp only[nP]);(refine tkB ae (i:=2) hHeld ?_);(try simp only[nP]);(refine tkB ae (i:=3) hHeld ?_);(try simp only[nP]);(refine tkB ae (i:=5) hHeld ?_);(try simp only[nP]);(refine tkB ae (i:=8) hHeld ?_);(try simp only[nP]);(refine tkB ae (i:=9) hHeld ?_);(try simp only[nP]);(refine tkB ae (i:=10) hHeld ?_);(try simp only[nP]))
             have hEx:Ext w4 w4.drew:=⟨rfl,rfl,rfl,Nat.le_refl _,fun _ _=>rfl⟩
             obtain⟨W,hW⟩:∃ W,W=w4.drew:=⟨_,rfl⟩
             rw[← hW] at hEx ⊢
             clear hW
             refine jb ae (i:=0) (j:=6) (by kernel_rfl) ?_ ?_
             · (refine rnB (i:=0) fun K hK=>?_;go_simp)
               have hxN:Ext W (W.alloc (.cells #[] 3)):=by go_grown
               have iY:(W.alloc (.cells #[] 3)).ownsRow w4.heap.size 3 1 (.slice (some ⟨W.heap.size,0,none⟩) 0 0) 0 []:=World.ownsRow_made W #[] 0 hEx.size (by decide) (by simp)
               (try have hqr:∀ b,Value.ownBlock (.slice (some ⟨W.heap.size,0,none⟩) 0 0)=some b→b≠q:=fun b hb e=>by have h1:=ah hP;simp[Value.ownBlock] at hb;omega)
               (try replace hP:=hP.ext hxN)
               have hro:=iY
               clear iY
               replace hEx:=aa hEx hxN
               have hHeld:=hSx _ hEx
               refine hK.out _ _ (fun _=>hHeld) ?_
               clear hK K
               (try simp only[nP])
               generalize W.alloc (.cells #[] 3)=W1 at *
               generalize W.heap.size=h0 at *
               clear hxN
               obtain⟨W,rfl⟩:∃ W,W=W1:=⟨_,rfl⟩
               refine jb ae (i:=4) (j:=6) (by kernel_rfl) ?_ ?_
               · refine rnB (i:=4) fun K hK=>?_
                 refine bO rfl (.tmp 106) (.tmp 109) 80 rfl w4.heap.size 3 i0 (.int .i64 0) 1 8 underlying80 hi0 hz0 hz1 hz2 rfl (by decide) (.slice (some ⟨h0,0,none⟩) 0 0) 0 [] rfl hro _ i _ ((((toZ from_).map (Value.int .i64)).drop 0).take i) rfl (by simp[aj];omega) (.inr ⟨⟨gf,0,none⟩,rfl,iG zQ.out hEx 0 i (by omega)⟩) (fun u hu=>eQ _ u (List.mem_of_mem_drop (List.mem_of_mem_take hu))) (by unfold maxLen;omega) (by omega) hEx.size ?_
                 intro v1 W iK hg1 hl1
                 simp only[Nat.zero_add,List.nil_append,List.drop_zero] at iK
                 (try have pO:=xn hP hl1 hqr)
                 (try replace hP:=BAt.grown hP hg1 hqr)
                 (try replace hqr:=pO)
                 replace hEx:=aV hEx hg1 (fun k hk=>(hro.lt k hk).1)
                 replace hro:=iK
                 clear iK
                 have hHeld:=hSx _ hEx
                 refine hK.out _ _ (fun _=>hHeld) ?_
                 clear hK K
                 (try simp only[nP])
                 (refine stB ae (i:=6) fun K hK=>?_;go_simp)
                 have hxN:Ext W (W.alloc (.cells #[.int .i64 ((m:Nat):Int)] 3)):=by go_grown
                 have hPn:BAt (W.alloc (.cells #[.int .i64 ((m:Nat):Int)] 3)) W.heap.size (.int .i64 ((m:Nat):Int)):=heap_alloc_new _ _
                 (try have hqr:=fun b hb=>Nat.ne_of_lt (hro.lt b hb).2)
                 (try replace hro:=aJ hro hxN)
                 have hP:=hPn
                 clear hPn
                 replace hEx:=aa hEx hxN
                 have hHeld:=hSx _ hEx
                 refine hK.out _ _ (fun _=>hHeld) ?_
                 clear hK K
                 (try simp only[nP])
                 generalize W.alloc (.cells #[.int .i64 ((m:Nat):Int)] 3)=W1 at *
                 generalize W.heap.size=q at *
                 clear hxN
                 obtain⟨W,rfl⟩:∃ W,W=W1:=⟨_,rfl⟩
                 refine stB ae (i:=7) fun K hK=>?_
                 refine bO rfl (.tmp 110) (.tmp 112) 80 rfl w4.heap.size 3 i0 (.int .i64 0) 1 8 underlying80 hi0 hz0 hz1 hz2 rfl (by decide) v1 i (((toZ from_).map (Value.int .i64)).take i) rfl hro _ 1 _ [.int .i64 ((m:Nat):Int)] rfl rfl (.inr ⟨⟨q,0,none⟩,rfl,bq (cell_of_row W q 0 _ _ _ hP)⟩) one_cell (by unfold maxLen;omega) (by omega) hEx.size ?_
                 intro v2 W jv hg2 hl2
                 replace hEx:=aV hEx hg2 (fun k hk=>(hro.lt k hk).1)
                 have hHeld:=hSx _ hEx
                 refine hK.out _ _ (fun _=>hHeld) ?_
                 clear hK K
                 (try simp only[nP])
                 refine stB ae (i:=11) fun K hK=>?_
                 refine bO rfl (.tmp 113) (.tmp 116) 80 rfl w4.heap.size 3 i0 (.int .i64 0) 1 8 underlying80 hi0 hz0 hz1 hz2 rfl (by decide) v2 (i+1) (((toZ from_).map (Value.int .i64)).take i++[.int .i64 ((m:Nat):Int)]) rfl jv _ (from_.length-i) _ ((((toZ from_).map (Value.int .i64)).drop i).take (from_.length-i)) rfl (by simp[aj]) (by
                  rcases Nat.lt_or_ge i from_.length with h | h
                  · exact .inr ⟨⟨gf,i,none⟩,by first | rfl | (rw[if_neg (by omega)]),iG zQ.out hEx i (from_.length-i) (by omega)⟩
                  · exact .inl (by omega)) (fun u hu=>eQ _ u (List.mem_of_mem_drop (List.mem_of_mem_take hu))) (by unfold maxLen;omega) (by omega) hEx.size ?_
                 intro v3 W kP hg3 hl3
                 replace hEx:=aV hEx hg3 (fun k hk=>(jv.lt k hk).1)
                 have hHeld:=hSx _ hEx
                 refine hK.out _ _ (fun _=>hHeld) ?_
                 clear hK K
                 (try simp only[nP])
                 refine tlB ae [12] [_] ?_
                 go_wp2_with fail
                 all_goals go_roundw
                 all_goals first
                  | exact tZ HB.out.good HF.out hr HL.out uH.out hbm hmt hi Nf.out (fun h=>by have:=HNE.out h;omega) (aa HX.out Ic.out) hEx M6.out Nb.out (by have:=HX.out.size;have:=zP.out.size;omega) (qQ kP hEx hi hw4) HM.out.klt
                  | (simp[intOf];omega)
               · (refine rnB (i:=6) fun K hK=>?_;go_simp)
                 have hxN:Ext W (W.alloc (.cells #[.int .i64 ((m:Nat):Int)] 3)):=by go_grown
                 have hPn:BAt (W.alloc (.cells #[.int .i64 ((m:Nat):Int)] 3)) W.heap.size (.int .i64 ((m:Nat):Int)):=heap_alloc_new _ _
                 (try have hqr:=fun b hb=>Nat.ne_of_lt (hro.lt b hb).2)
                 (try replace hro:=aJ hro hxN)
                 have hP:=hPn
                 clear hPn
                 replace hEx:=aa hEx hxN
                 have hHeld:=hSx _ hEx
                 refine hK.out _ _ (fun _=>hHeld) ?_
                 clear hK K
                 (try simp only[nP])
                 generalize W.alloc (.cells #[.int .i64 ((m:Nat):Int)] 3)=W1 at *
                 generalize W.heap.size=q at *
                 clear hxN
                 obtain⟨W,rfl⟩:∃ W,W=W1:=⟨_,rfl⟩
                 refine stB ae (i:=4) fun K hK=>?_
                 refine bO rfl (.tmp 106) (.tmp 109) 80 rfl w4.heap.size 3 i0 (.int .i64 0) 1 8 underlying80 hi0 hz0 hz1 hz2 rfl (by decide) (.slice (some ⟨h0,0,none⟩) 0 0) 0 [] rfl hro _ i _ ((((toZ from_).map (Value.int .i64)).drop 0).take i) rfl (by simp[aj];omega) (.inr ⟨⟨gf,0,none⟩,rfl,iG zQ.out hEx 0 i (by omega)⟩) (fun u hu=>eQ _ u (List.mem_of_mem_drop (List.mem_of_mem_take hu))) (by unfold maxLen;omega) (by omega) hEx.size ?_
                 intro v1 W iK hg1 hl1
                 simp only[Nat.zero_add,List.nil_append,List.drop_zero] at iK
                 (try have pO:=xn hP hl1 hqr)
                 (try replace hP:=BAt.grown hP hg1 hqr)
                 (try replace hqr:=pO)
                 replace hEx:=aV hEx hg1 (fun k hk=>(hro.lt k hk).1)
                 replace hro:=iK
                 clear iK
                 have hHeld:=hSx _ hEx
                 refine hK.out _ _ (fun _=>hHeld) ?_
                 clear hK K
                 (try simp only[nP])
                 refine stB ae (i:=7) fun K hK=>?_
                 refine bO rfl (.tmp 110) (.tmp 112) 80 rfl w4.heap.size 3 i0 (.int .i64 0) 1 8 underlying80 hi0 hz0 hz1 hz2 rfl (by decide) v1 i (((toZ from_).map (Value.int .i64)).take i) rfl hro _ 1 _ [.int .i64 ((m:Nat):Int)] rfl rfl (.inr ⟨⟨q,0,none⟩,rfl,bq (cell_of_row W q 0 _ _ _ hP)⟩) one_cell (by unfold maxLen;omega) (by omega) hEx.size ?_
                 intro v2 W jv hg2 hl2
                 replace hEx:=aV hEx hg2 (fun k hk=>(hro.lt k hk).1)
                 have hHeld:=hSx _ hEx
                 refine hK.out _ _ (fun _=>hHeld) ?_
                 clear hK K
                 (try simp only[nP])
                 refine stB ae (i:=11) fun K hK=>?_
                 refine bO rfl (.tmp 113) (.tmp 116) 80 rfl w4.heap.size 3 i0 (.int .i64 0) 1 8 underlying80 hi0 hz0 hz1 hz2 rfl (by decide) v2 (i+1) (((toZ from_).map (Value.int .i64)).take i++[.int .i64 ((m:Nat):Int)]) rfl jv _ (from_.length-i) _ ((((toZ from_).map (Value.int .i64)).drop i).take (from_.length-i)) rfl (by simp[aj]) (by
                  rcases Nat.lt_or_ge i from_.length with h | h
                  · exact .inr ⟨⟨gf,i,none⟩,by first | rfl | (rw[if_neg (by omega)]),iG zQ.out hEx i (from_.length-i) (by omega)⟩
                  · exact .inl (by omega)) (fun u hu=>eQ _ u (List.mem_of_mem_drop (List.mem_of_mem_take hu))) (by unfold maxLen;omega) (by omega) hEx.size ?_
                 intro v3 W kP hg3 hl3
                 replace hEx:=aV hEx hg3 (fun k hk=>(jv.lt k hk).1)
                 have hHeld:=hSx _ hEx
                 refine hK.out _ _ (fun _=>hHeld) ?_
                 clear hK K
                 (try simp only[nP])
                 refine tlB ae [12] [_] ?_
                 go_wp2_with fail
                 all_goals go_roundw
                 all_goals first
                  | exact tZ HB.out.good HF.out hr HL.out uH.out hbm hmt hi Nf.out (fun h=>by have:=HNE.out h;omega) (aa HX.out Ic.out) hEx M6.out Nb.out (by have:=HX.out.size;have:=zP.out.size;omega) (qQ kP hEx hi hw4) HM.out.klt
                  | (simp[intOf];omega)
             · (refine rnB (i:=6) fun K hK=>?_;go_simp)
               have hxN:Ext W (W.alloc (.cells #[.int .i64 ((m:Nat):Int)] 3)):=by go_grown
               have hPn:BAt (W.alloc (.cells #[.int .i64 ((m:Nat):Int)] 3)) W.heap.size (.int .i64 ((m:Nat):Int)):=heap_alloc_new _ _
               (try have hqr:=fun b hb=>Nat.ne_of_lt (hro.lt b hb).2)
               (try replace hro:=aJ hro hxN)
               have hP:=hPn
               clear hPn
               replace hEx:=aa hEx hxN
               have hHeld:=hSx _ hEx
               refine hK.out _ _ (fun _=>hHeld) ?_
               clear hK K
               (try simp only[nP])
               generalize W.alloc (.cells #[.int .i64 ((m:Nat):Int)] 3)=W1 at *
               generalize W.heap.size=q at *
               clear hxN
               obtain⟨W,rfl⟩:∃ W,W=W1:=⟨_,rfl⟩
               (refine stB ae (i:=0) fun K hK=>?_;go_simp)
               have hxN:Ext W (W.alloc (.cells #[] 3)):=by go_grown
               have iY:(W.alloc (.cells #[] 3)).ownsRow w4.heap.size 3 1 (.slice (some ⟨W.heap.size,0,none⟩) 0 0) 0 []:=World.ownsRow_made W #[] 0 hEx.size (by decide) (by simp)
               (try have hqr:∀ b,Value.ownBlock (.slice (some ⟨W.heap.size,0,none⟩) 0 0)=some b→b≠q:=fun b hb e=>by have h1:=ah hP;simp[Value.ownBlock] at hb;omega)
               (try replace hP:=hP.ext hxN)
               have hro:=iY
               clear iY
               replace hEx:=aa hEx hxN
               have hHeld:=hSx _ hEx
               refine hK.out _ _ (fun _=>hHeld) ?_
               clear hK K
               (try simp only[nP])
               generalize W.alloc (.cells #[] 3)=W1 at *
               generalize W.heap.size=h0 at *
               clear hxN
               obtain⟨W,rfl⟩:∃ W,W=W1:=⟨_,rfl⟩
               refine stB ae (i:=4) fun K hK=>?_
               refine bO rfl (.tmp 106) (.tmp 109) 80 rfl w4.heap.size 3 i0 (.int .i64 0) 1 8 underlying80 hi0 hz0 hz1 hz2 rfl (by decide) (.slice (some ⟨h0,0,none⟩) 0 0) 0 [] rfl hro _ i _ ((((toZ from_).map (Value.int .i64)).drop 0).take i) rfl (by simp[aj];omega) (.inr ⟨⟨gf,0,none⟩,rfl,iG zQ.out hEx 0 i (by omega)⟩) (fun u hu=>eQ _ u (List.mem_of_mem_drop (List.mem_of_mem_take hu))) (by unfold maxLen;omega) (by omega) hEx.size ?_
               intro v1 W iK hg1 hl1
               simp only[Nat.zero_add,List.nil_append,List.drop_zero] at iK
               (try have pO:=xn hP hl1 hqr)
               (try replace hP:=BAt.grown hP hg1 hqr)
               (try replace hqr:=pO)
               replace hEx:=aV hEx hg1 (fun k hk=>(hro.lt k hk).1)
               replace hro:=iK
               clear iK
               have hHeld:=hSx _ hEx
               refine hK.out _ _ (fun _=>hHeld) ?_
               clear hK K
               (try simp only[nP])
               refine stB ae (i:=7) fun K hK=>?_
               refine bO rfl (.tmp 110) (.tmp 112) 80 rfl w4.heap.size 3 i0 (.int .i64 0) 1 8 underlying80 hi0 hz0 hz1 hz2 rfl (by decide) v1 i (((toZ from_).map (Value.int .i64)).take i) rfl hro _ 1 _ [.int .i64 ((m:Nat):Int)] rfl rfl (.inr ⟨⟨q,0,none⟩,rfl,bq (cell_of_row W q 0 _ _ _ hP)⟩) one_cell (by unfold maxLen;omega) (by omega) hEx.size ?_
               intro v2 W jv hg2 hl2
               replace hEx:=aV hEx hg2 (fun k hk=>(hro.lt k hk).1)
               have hHeld:=hSx _ hEx
               refine hK.out _ _ (fun _=>hHeld) ?_
               clear hK K
               (try simp only[nP])
               refine stB ae (i:=11) fun K hK=>?_
               refine bO rfl (.tmp 113) (.tmp 116) 80 rfl w4.heap.size 3 i0 (.int .i64 0) 1 8 underlying80 hi0 hz0 hz1 hz2 rfl (by decide) v2 (i+1) (((toZ from_).map (Value.int .i64)).take i++[.int .i64 ((m:Nat):Int)]) rfl jv _ (from_.length-i) _ ((((toZ from_).map (Value.int .i64)).drop i).take (from_.length-i)) rfl (by simp[aj]) (by
                rcases Nat.lt_or_ge i from_.length with h | h
                · exact .inr ⟨⟨gf,i,none⟩,by first | rfl | (rw[if_neg (by omega)]),iG zQ.out hEx i (from_.length-i) (by omega)⟩
                · exact .inl (by omega)) (fun u hu=>eQ _ u (List.mem_of_mem_drop (List.mem_of_mem_take hu))) (by unfold maxLen;omega) (by omega) hEx.size ?_
               intro v3 W kP hg3 hl3
               replace hEx:=aV hEx hg3 (fun k hk=>(jv.lt k hk).1)
               have hHeld:=hSx _ hEx
               refine hK.out _ _ (fun _=>hHeld) ?_
               clear hK K
               (try simp only[nP])
               refine tlB ae [12] [_] ?_
               go_wp2_with fail
               all_goals go_roundw
               all_goals first
                | exact tZ HB.out.good HF.out hr HL.out uH.out hbm hmt hi Nf.out (fun h=>by have:=HNE.out h;omega) (aa HX.out Ic.out) hEx M6.out Nb.out (by have:=HX.out.size;have:=zP.out.size;omega) (qQ kP hEx hi hw4) HM.out.klt
                | (simp[intOf];omega)
         · have hbn:((born (vl D m):Int) == (b:Int))=false:=by rw[beq_eq_false_iff_ne];omega
           have Vk:¬ ((born (vl D m):Int)=(b:Int)):=by omega
           go_wp2
           go_roundw
           case rel=>exact⟨m+1,from_,by omega,by go_num,HL.out.skip (fun h=>hbm h.2),HX.out,HLM.out⟩
           case measure=>simp[intOf];omega
     · have hme:m=root+1:=by omega
       subst hme
       have hlt':¬ (((root+1:Nat):Int)≤(root:Int)):=by omega
       obtain⟨gl,cl_,rfl⟩:=hLM.s1
       obtain⟨gf,cf,rfl⟩:=hLM.s2
       have HL:=Hd_ hL
       have hM1:=HM.out.ext' hx
       have hN1:=aJ HN.out hx
       have hfl:from_.length≤root+1:=fT hL.nd (fun x hx=>by have:=((hL.mem x).1 hx).1;omega)
       have hFl:F.length≤root+1:=by
        rw[← HF.out.len];exact fT HF.out.nd (fun x hx=>by have:=Cgt.jd HB.out.good.wf ((HF.out.mem x).1 hx).1;omega)
       clear hL hx
       go_wp2
       go_loopw [14] (fun ii wr=>∃ i vN2 at2,i≤from_.length∧ii=.int .i64 ((i:Nat):Int)∧kT w wr o gat vN2 root (F++(from_.map (Xn D at_)).take i) at2∧tH w wr (KF w o gat vN2) (.slice (some ⟨gl,0,none⟩) from_.length cl_) (.slice (some ⟨gf,0,none⟩) from_.length cf) from_ (Xn D at_) ∧
        wr.ownsRow 0 4 1 (.slice (some ⟨nL,0,none⟩) (root+1) G8) (root+1) (bs.map Value.bool)∧¬ KF w o gat vN2 nL∧at2.length=root+1∧Hid (∀ j (h:j<from_.length),j<i→at2[from_[j]]?=some (F.length+j))∧Hid (∀ y,(∀ j (h:j<from_.length),j<i→from_[j]≠y)→at2[y]?=at_[y]?)) (fun ii _=>from_.length-(intOf ii).toNat)
       case atStart=>exact⟨0,vN,at_,Nat.zero_le _,rfl,by simpa using hM1,hLM,hN1,HK.out,HF.out.atl,fun j _ h=>absurd h (by omega),fun y _=>rfl⟩
       case round =>
        clear hM1 hN1 hLM
        obtain⟨i,vN2,at2,hi,rfl,hM2,GL,hN2,hK2,hl2,HA,HA2⟩:=hrel
        obtain⟨Fi,hFi⟩:∃ Fi,Fi=F++(from_.map (Xn D at_)).take i:=⟨_,rfl⟩
        rw[← hFi] at hM2
        have hlN:Fi.length=F.length+i:=by rw[hFi];simp;omega
        have HFi:=Hd_ hFi
        have HLN:=Hd_ hlN
        clear hFi
        by_cases hlt:i<from_.length
        · have hlt':((i:Int)<(from_.length:Int)):=by omega
          obtain⟨xsN,iY,xz⟩:=hM2.nodes
          obtain⟨aN,mH,rfl,Ve,Vd⟩:=az iY
          obtain⟨xs,hrow,hnr⟩:=GL.rows
          obtain⟨L,R,e1,e2,e3,e4,e5,e6⟩:=hnr i (by simpa using hlt)
          rw[List.getElem_map] at e3 e4
          obtain⟨aX,cX,rfl,-⟩:=id e3
          obtain⟨aY,cY,rfl,-⟩:=id e4
          have cx:=(hrow.cellAt (i*2) (by omega)).trans e1
          have cy:=(hrow.cellAt (i*2+1) (by omega)).trans e2
          have cf1:wr.cell? ⟨gf,i,none⟩=some (.int .i64 ((from_[i]:Nat):Int)):=by rw[GL.Bu.cellAt i (by omega)];simp[toZ,hlt]
          have hxr:from_[i]<root+1:=((HL.out.mem _).1 (List.getElem_mem hlt)).1
          obtain⟨av,hav⟩:∃ a,at2[from_[i]]?=some a:=⟨_,List.getElem?_eq_getElem (l:=at2) (i:=from_[i]) (by omega)⟩
          have cat:wr.cell? ⟨gat,from_[i],none⟩=some (.int .i64 ((av:Nat):Int)):=by rw[hM2.atr.cellAt _ (by omega)];simp[toZ,hav]
          have fat:=hM2.atr.frozenAt from_[i]
          have co:=cell_of_row wr o 0 _ _ _ hM2.out
          have HM2:=Hd_ hM2
          have Q8:=Hd_ GL
          have HN2:=Hd_ hN2
          have HK2:=Hd_ hK2
          have HXR:=Hd_ hxr
          clear hM2 GL hN2 hK2 iY xz hrow hnr e1 e2
          generalize hxd:from_[i]=xd at *
          have hxi:((xd:Nat):Int)<(root:Int)+1:=by have:=HXR.out;omega
          clear hlN
          go_wp2_with fail
          refine bz (fun w'=>w'.cell? ⟨gf,i,none⟩=some (.int .i64 ((xd:Nat):Int))∧w'.cell? ⟨o,0,none⟩=some (.slice aN Fi.length mH)) [9] Fz (by kernel_rfl) ⟨by kernel_rfl,by kernel_rfl,by kernel_rfl⟩ ⟨cf1,co⟩ (fun ae hHeld=>?_)
          ((refine tkB ae (i:=0) hHeld ?_);(try simp only[nP]);(refine tkB ae (i:=1) hHeld ?_);(try simp only[nP]);(refine tkB ae (i:=2) hHeld ?_);(try simp only[nP]);(refine tkB ae (i:=3) hHeld ?_);(try simp only[nP]);(refine tkB ae (i:=4) hHeld ?_);(try simp only[nP]);(refine tkB ae (i:=5) hHeld ?_);(try simp only[nP]);(refine tkB ae (i:=6) hHeld ?_);(try simp only[nP]);(refine tkB ae (i:=7) hHeld ?_);(try simp only[nP]);(refine tkB ae (i:=8) hHeld ?_);(try simp only[nP]))
          refine tlB ae [9] [_] ?_
          go_wp2_with fail
          obtain⟨hM3,hk3⟩:=HM2.out.setAt xd Fi.length
          generalize wr.setCell ⟨gat,xd,none⟩ (.int .i64 ((Fi.length:Nat):Int))=W at *
          have C8:=Q8.out.keep hk3 (fun _ h=>h) (fun _ k=>.inl k)
          have hN3:=aI HN2.out hk3 (fun b hb k=>by simp[Value.ownBlock] at hb;subst hb;exact HK2.out k)
          have hdr:Ext W W.drew:=⟨rfl,rfl,rfl,Nat.le_refl _,fun _ _=>rfl⟩
          have Tp:Ext W W.drew.drew:=⟨rfl,rfl,rfl,Nat.le_refl _,fun _ _=>rfl⟩
          obtain⟨xsN,iY,xz⟩:=hM3.nodes
          have hxN:xsN.length=Fi.length*2:=iY.1
          obtain⟨xs,hrow,hnr⟩:=C8.rows
          obtain⟨L,R,e1,e2,e3,e4,e5,e6⟩:=hnr i (by simpa using hlt)
          rw[List.getElem_map,hxd] at e3 e4
          obtain⟨aX,cX,rfl,-⟩:=id e3
          obtain⟨aY,cY,rfl,-⟩:=id e4
          have cx:=(hrow.cellAt (i*2) (by omega)).trans e1
          have cy:=(hrow.cellAt (i*2+1) (by omega)).trans e2
          have co:=cell_of_row W o 0 _ _ _ hM3.out
          have ao:=hM3.a1
          have agl:gl≠o∧∀ b,Value.ownBlock (.slice aN Fi.length mH)=some b→gl≠b:=⟨fun e=>C8.k1 gl rfl (.inl e),fun b hb e=>C8.k1 gl rfl (.inr (.inr (.inr (by rw[hb,e]))))⟩
          have HM3:=Hd_ hM3
          have Ua:=Hd_ C8
          have HN3:=Hd_ hN3
          have HK3:=Hd_ hk3
          have HRN:=Hd_ iY
          have HNR:=Hd_ xz
          have E3:=Hd_ e3
          have E4:=Hd_ e4
          have E5:=Hd_ e5
          have E6:=Hd_ e6
          clear hM3 hk3 C8 hN3 iY xz hrow hnr e1 e2 e3 e4 e5 e6 HM2 Q8 HN2 hHeld fat cat cf1
          refine bz (fun w'=>w'.cell? ⟨gl,i*2,none⟩=some (.slice aX (toZ (Xn D at_ xd).1).length cX)∧w'.cell? ⟨gl,i*2+1,none⟩=some (.slice aY (toZ (Xn D at_ xd).2).length cY)∧w'.cell? ⟨o,0,none⟩=some (.slice aN Fi.length mH)) [7,8,9] Fy (by kernel_rfl) ⟨by kernel_rfl,by kernel_rfl,by kernel_rfl⟩ ⟨cx,cy,co⟩ (fun ae hHeld=>?_)
          ((refine tkB ae (i:=0) hHeld ?_);(try simp only[nP]);(refine tkB ae (i:=1) hHeld ?_);(try simp only[nP]);(refine tkB ae (i:=2) hHeld ?_);(try simp only[nP]);(refine tkB ae (i:=3) hHeld ?_);(try simp only[nP]);(refine tkB ae (i:=4) hHeld ?_);(try simp only[nP]);(refine tkB ae (i:=5) hHeld ?_);(try simp only[nP]))
          (refine stB ae (i:=6) fun K hK=>?_;go_simp)
          have hx6:Ext W (W.alloc (.cells #[.slice aX (toZ (Xn D at_ xd).1).length cX,.slice aY (toZ (Xn D at_ xd).2).length cY] 89)).drew.drew:=Below.drew (Below.drew (by go_grown))
          have hq6:(W.alloc (.cells #[.slice aX (toZ (Xn D at_ xd).1).length cX,.slice aY (toZ (Xn D at_ xd).2).length cY] 89)).heap[W.heap.size]?=some (.cells #[.slice aX (toZ (Xn D at_ xd).1).length cX,.slice aY (toZ (Xn D at_ xd).2).length cY] 89 (0,0)):=heap_alloc_new _ _
          refine hK.out _ _ (fun _=>⟨(hx6.cell (lt_of_cell cx)).trans cx,(hx6.cell (lt_of_cell cy)).trans cy,(hx6.cell (lt_of_cell co)).trans co⟩) ?_
          clear hK K
          (try simp only[nP])
          refine tlB ae [7,8,9] [_,_,_] ?_
          have hzW:=hx6.size
          have hlN:=HLN.out
          refine aW rfl (.tmp 134) (.tmp 139) 26 rfl w.heap.size 89 i1 (.agg #[.slice none 0 0,.slice none 0 0]) 2 48 underlying26 hi1 hy0 hy1 hy2 rfl (by decide) (.slice aN Fi.length mH) Fi.length xsN rfl (aJ HRN.out hx6) _ 1 _ [.slice aX (toZ (Xn D at_ xd).1).length cX,.slice aY (toZ (Xn D at_ xd).2).length cY] rfl rfl (.inr ⟨⟨W.heap.size,0,none⟩,rfl,su (q:=W.heap.size) hq6⟩) ll (by unfold maxLen;omega) (by omega) (by have:=HM3.out.ext.size;omega) ?_
          intro v7 w7 ho7 hg7 hl7
          obtain⟨hM7,hk7,hK7⟩:=HM3.out.push (wd:=W.drew.drew) HNR.out hxN Tp rfl E3.out E4.out E5.out E6.out hg7 ho7 hl7
          have co7:w7.cell? ⟨o,0,none⟩=some (.slice aN Fi.length mH):=hg7.cell ((hx6.cell (lt_of_cell co)).trans co) (fun e=>ao e.symm)
          have hb7:w7.heap[o]?=some (.cells #[.slice aN Fi.length mH] 28 (0,0)):=by
           rw[hg7.block o (Nat.lt_of_lt_of_le (lt_of_cell co) hzW) (fun e=>ao e.symm),hx6.block o (lt_of_cell co)];exact HM3.out.out
          have fo7:=frozen_of_row w7 o 0 _ _ hb7
          obtain⟨a7,Vu,rfl,_,_⟩:=az ho7
          have Ul:=(HN3.out.lt nL rfl).2
          clear ho7 hg7 hl7 hb7 hlN
          (try simp only[nP])
          go_wp2_with fail
          go_roundw
          case rel =>
           have hX:(from_.map (Xn D at_)).take (i+1)=(from_.map (Xn D at_)).take i++[Xn D at_ xd]:=by
            rw[List.take_succ_eq_append_getElem (by simpa using hlt),List.getElem_map,hxd]
           refine⟨i+1,_,at2.set xd Fi.length,by omega,by go_num,?_,Ua.out.keep hk7 (fun _ h=>h) hK7,aI HN3.out hk7 (fun b hb k=>?_),fun k=>?_,by simpa using hl2,?_,?_⟩
           · rw[hX,← List.append_assoc,← HFi.out];exact hM7
           · simp[Value.ownBlock] at hb;subst hb;exact HK2.out k
           · rcases hK7 _ k with k | k
             · exact HK2.out k
             · omega
           · exact FP HL.out.nd hlt hxd (by rw[hl2];exact HXR.out) HLN.out HA.out
           · exact FQ hlt hxd HA2.out
          case measure=>simp[intOf];omega
        · have hie:i=from_.length:=by omega
          have hlt':¬ ((i:Int)<(from_.length:Int)):=by omega
          have HIE:=Hd_ hie
          have HM2:=Hd_ hM2
          clear hie hM2
          go_wp2
          go_roundw
          case rel =>
           refine⟨b+1,vN2,F++from_.map (Xn D at_),idx++from_,at2,by go_num,by omega,HF.out.next HB.out.good HL.out hl2 (fun j hj=>HA.out j hj (by have:=HIE.out;omega)) (fun y hy=>HA2.out y (fun j hj _ e=>hy (e ▸ List.getElem_mem hj))),?_,hN2,hK2⟩
           have h:=HM2.out
           rw[HFi.out,List.take_of_length_le (by have:=HIE.out;simp;omega)] at h
           exact h
          case measure=>simp[intOf];omega
  · have hbe:b=born (vl D root)+1:=by omega
    have Vi:¬ ((b:Int)≤(born (vl D root):Int)):=by omega
    obtain⟨xsN,iY,xz⟩:=hM.nodes
    obtain⟨aN,mH,rfl,_,_⟩:=az iY
    have co:=cell_of_row wo o 0 _ _ _ hM.out
    have cr:=cell_of_row wo w.heap.size 0 _ _ _ hM.res
    rw[hbe] at hF
    have hfin:=hF.last HB.out.good hr
    have hks:=bJ (w:=wo) (p:=⟨w.heap.size,0,none⟩) (v:=.slice aN F.length mH)
    have jv:=aI iY hks (fun b hb e=>hM.a3 (by rw[hb,e]))
    have PU:=xz.keep hks (fun b e=>.inr (.inr (.inl e))) (fun b k=>.inl k)
    have hres:=bP.bG jv PU
    have hEw:Ext w (wo.setCell ⟨w.heap.size,0,none⟩ (.slice aN F.length mH)):=hE.setCell (p:=⟨w.heap.size,0,none⟩) (Nat.le_refl _) _
    have cr2:=World.cell?_setCell_same wo ⟨w.heap.size,0,none⟩ (.slice aN F.length mH) cr
    have hh:=heap_setCell_same wo w.heap.size 0 _ _ (.slice aN F.length mH) hM.res
    have HH:Hid ((wo.setCell ⟨w.heap.size,0,none⟩ (.slice aN F.length mH)).heap[w.heap.size]?=some (.cells #[.slice aN F.length mH] 28 (0,0))):=hh
    have Ra:=Hd_ hfin
    have zS:=Hd_ hres
    have HEW:=Hd_ hEw
    clear hF hM iY xz jv PU hks qz hK cb2 hfin hres hEw hbe hh
    go_wp2
    (try simp only[Exit.inBlock,Exit.then])
    refine bodyPost_ret (results_cell_row rfl _ _ w.heap.size 28 #[.slice aN F.length mH] (0,0) _ rfl HH.out underlying28 rfl (by kernel_rfl)) rfl ?_
    exact⟨_,rfl,F,zS.out,Ra.out.1,Ra.out.2,HEW.out⟩
end Go.Proofs.YteknjeohbcgpdaaGreatDoor