/-
  Contract of the drawing of test inputs: l21DrawBoard. (4 texts.)
-/
import Derived.Test.YteknjeohbcgpdaaGreatDoorK19
import Derived.Test.YteknjeohbcgpdaaGreatDoorK20
set_option maxRecDepth 100000
namespace Go.Proofs.YteknjeohbcgpdaaGreatDoor
open Tryz
section
open Go.RowKit
open bO (dH Nd vl Same)
theorem Uy{w:World}{base e g n cap:Nat}{l:List Int}(h:w.ownsRow base e 1 (.slice (some ⟨g,0,none⟩) n cap) n (l.map (Value.int .i64))){k:Nat}(hk:k<n):w.cell? ⟨g,k,none⟩=some (.int .i64 (jo l k)):=by
 have hl:=h.1;rw[h.cellAt k (by omega)];have:k<l.length:=by rw[bD]at hl;omega
 simp[jo,this]
end
section
open Go.RowKit
variable {e k base g n cap:Nat} {w:World} {l z:List Int}
theorem xS(w:World)(g:Nat)(f:Array Value->Array Value){cur:Array Value}{e:TypeId}{fr:Nat × Nat}(h:w.heap[g]?=some (.cells cur e fr)):(Go.Sort.mapBlock w g f).heap[g]?=some (.cells (f cur) e fr):=by
 simp[Go.Sort.mapBlock,Array.getElem?_modify,h,Go.Sort.onCells]
theorem vv(w:World)(g k:Nat)(f:Array Value->Array Value)(h:k≠g):(Go.Sort.mapBlock w g f).heap[k]?=w.heap[k]?:=by
 simp[Go.Sort.mapBlock,Array.getElem?_modify,Ne.symm h]
theorem xq(w:World)(os:Array Obj)(h:k<w.heap.size):(Go.Sort.grow w os).heap[k]?=w.heap[k]?:=by
 simp[Go.Sort.grow,Array.getElem?_append_left h]
theorem GK{l':List Int}(h:w.ownsRow base e 1 (.slice (some ⟨g,0,none⟩) n cap) n (l.map (Value.int .i64)))(hl:l'.length=l.length)(m:Nat)(os:Array Obj):
 (Go.Sort.grow (Go.Sort.putRow (Value.int .i64) (Go.Sort.ahead w m) g 0 l'.toArray) os).ownsRow base e 1 (.slice (some ⟨g,0,none⟩) n cap) n (l'.map (Value.int .i64))/\dX (λb=>b=g) w (Go.Sort.grow (Go.Sort.putRow (Value.int .i64) (Go.Sort.ahead w m) g 0 l'.toArray) os):=by
 obtain⟨hlen,h⟩:=h;rw[bD]at hlen;have hgl:g<w.heap.size:=by
  rcases h with⟨h,_⟩|⟨g',cap',cur,h1,h2,h3,_⟩
  .simp at h
  .simp only[Value.slice.injEq,bN,Addr.mk.injEq,and_true,true_and]at h1
   obtain⟨rfl,rfl⟩:=h1;exact bu h3
 have hsz:(Go.Sort.putRow (Value.int .i64) (Go.Sort.ahead w m) g 0 l'.toArray).heap.size=w.heap.size:=by rw[Go.Sort.size_putRow];rfl
 refine⟨⟨by rw[bD];omega,?_⟩,rfl,rfl,rfl,by simp[Go.Sort.grow,hsz],λk hk hn=>?_⟩
 .rcases h with⟨h,_⟩|⟨g',cap',cur,h1,h2,h3,h4,h5,h6,h7⟩
  .simp at h
  .simp only[Value.slice.injEq,bN,Addr.mk.injEq,and_true,true_and]at h1
   obtain⟨rfl,rfl⟩:=h1;refine .inr ⟨g,cap,Go.Sort.putCells (Value.int .i64) 0 l'.toArray cur,rfl,h2,?_,h4,h5,by simp[Go.Sort.putCells,h6],?_⟩
   .rw[xq _ _ (by rw[hsz];exact hgl)]
    exact xS _ _ _ h3
   .apply l6
    intro i;rw[il];by_cases c:i<n*1
    .rw[if_pos c,iW]
     have hc:i<cur.size:=(by rw[h6];have:=gZ 1 h4;omega);have hi:i<l'.length:=(by omega);rw[dm,aa hi];simp only[Go.Sort.putCells,Array.getElem?_mapIdx,lh hc,jP];rw[if_pos (by simp;omega)];simp[hi]
    .rw[if_neg c,ek (by rw[bD];omega)]
 .rw[xq _ _ (by rw[hsz];exact hk)]
  exact vv (Go.Sort.ahead w m) g k _ hn
theorem Am(h:w.ownsRow base e 1 (.slice (some ⟨g,0,none⟩) n cap) n (l.map (Value.int .i64))):Go.Sort.Holds (Value.int .i64) w g 0 l.toArray:=by
 intro j hj;have hl:=h.1;rw[bD]at hl;have hj':j<l.length:=by simpa using hj
 rw[jf];refine⟨?_,h.frozenAt j⟩;rw[Uy h (by omega),o6 hj'];simp[hj']
theorem Dl(h:w.ownsRow base e 1 (.slice (some ⟨g,0,none⟩) n cap) n (l.map (Value.int .i64)))(hk:k<=n):w.ownsRow base e 1 (.slice (some ⟨g,0,none⟩) k cap) k ((l.take k).map (Value.int .i64)):=by
 obtain⟨hlen,h⟩:=h;rw[bD]at hlen;refine⟨by rw[bD,dI];omega,?_⟩;rcases h with⟨h,_⟩|⟨g',cap',cur,h1,h2,h3,h4,h5,h6,h7⟩
 .simp at h
 .simp only[Value.slice.injEq,bN,Addr.mk.injEq,and_true,true_and]at h1
  obtain⟨rfl,rfl⟩:=h1;refine .inr ⟨g,cap,cur,rfl,h2,h3,by omega,h5,h6,?_⟩;rw[List.map_take,<-h7,List.take_take];congr 1;omega
def AO(l:List Int):List Int:=Lib.compact (l.mergeSort λx y=>decide (x<=y))
def Xz(l:List Int)(w:World)(e:Ending)(w':World):Prop:=∃v',e=.returned v'/\w'.ownsRow w.heap.size 3 1 v' (AO l).length ((AO l).map (Value.int .i64))/\Ext w w'
theorem Hw(v:Value)(l:List Int)(w:World)(h:Ints w v l)(hl:l.length<=1000000000):Calls prog 168 #[v] w (Xz l w):=by
 obtain⟨a,cap,rfl,hlc,hcap,hc⟩:=id h;rcases qi l.length with hz|hz
 .have hln:l=[]:=fK hz
  subst hln;have hd:AO []=[]:=by simp[AO,Lib.compact,Lib.compactUpTo]
  cases a with
  |none=>
   go_enter Tryz.func168,Tryz.ntmps168
   go_wp2_with (first
    |(go_at_call 203;refine(Tryz.slices_Clone_int_nil _ _ _).mono ?_;rintro e w1 ⟨rfl,rfl⟩)
    |(go_at_call 201;refine(Tryz.slices_Sort_int_none _ _ _).mono ?_;rintro e w1 ⟨rfl,hw1⟩)
    |(go_at_call 204;refine(Tryz.slices_Compact_int_empty _ _ _).mono ?_;rintro e w1 ⟨rfl,rfl⟩))
   go_ret
   exact⟨_,rfl,by rw[hd];exact⟨by simp,.inl ⟨rfl,rfl⟩⟩,Below.refl _ _⟩
  |some ad=>
   go_enter Tryz.func168,Tryz.ntmps168
   go_wp2_with (first
    |(go_at_call 203;refine(Tryz.slices_Clone_int_zero _ _ _).mono ?_;rintro e w1 ⟨v1,rfl,ho1,-,hx1⟩;obtain⟨a1,c1,rfl,-⟩:=bH ho1)
    |(go_at_call 201;refine(Tryz.slices_Sort_int_none _ _ _).mono ?_;rintro e w2 ⟨rfl,hw2⟩;subst hw2)
    |(go_at_call 204;refine(Tryz.slices_Compact_int_empty _ _ _).mono ?_;rintro e w3 ⟨rfl,hw3⟩;subst hw3))
   go_ret
   exact⟨_,rfl,by rw[hd];exact ho1,hx1⟩
 .obtain⟨b,off,rfl,hcell⟩:=hc hz
  have hg:∀j,j<l.length->w.cell? ⟨b,off+j,none⟩=some (.int .i64 (l.getD j 0)):=λj hj=>by rw[hcell j hj];simp[jo]
  go_enter Tryz.func168,Tryz.ntmps168
  go_upto_region 2 with(go_at_call 203;refine(Tryz.slices_Clone_int b off l.length _ l _ (ay _) (by omega) hg).mono ?_;rintro e w1 ⟨v1,rfl,ho1,-,hx1⟩)
  rw[bU (ay _)]at ho1;obtain⟨g,c1,rfl,hc1,aq8,-⟩:=gV ho1 hz;have hgl:=ho1.lt g rfl;have hms:(l.mergeSort λx y=>decide (x<=y)).length=l.length:=List.length_mergeSort _;go_upto_region 3 with(go_at_call 201;refine(Tryz.slices_Sort_int g 0 _ l _ (Am ho1) hgl.2 (by omega)).mono ?_;rintro e w2 ⟨rfl,m2,os2,hw2⟩)
  obtain⟨ho2,hk2⟩:=GK ho1 hms m2 os2;rw[<-hw2]at ho2 hk2 ⊢;clear hw2;generalize afi:(l.mergeSort λx y=>decide (x<=y))=ms at *;have hcl:(Lib.compact ms).length<=l.length:=by
   rw[<-hms];unfold Lib.compact Lib.compactUpTo;rw[bD];exact dn (rz _ _) (by simp)
  have hC:=Tryz.slices_Compact_int g 0 c1 ms w2 (Am ho2) (by rw[hms];omega) (by rw[hms];exact hc1);rw[hms]at hC;have Rz:=aQ hms;have HD:=aQ afi;clear hms afi;go_wp2_with (go_at_call 204;refine hC.mono ?_;rintro e w3 ⟨rfl,q3,hw3⟩)
  go_ret
  rw[<-hw3];have hl3:(Lib.compact ms++List.replicate (l.length-(Lib.compact ms).length) 0).length=l.length:=by
   rw[aK,List.length_replicate];omega
  obtain⟨ho3,hk3⟩:=GK ho2 (hl3.trans Rz.out.symm) q3 #[];have e3:Go.Sort.grow (Go.Sort.putRow (Value.int .i64) (Go.Sort.ahead w2 q3) g 0 (Lib.compact ms++List.replicate (l.length-(Lib.compact ms).length) 0).toArray) #[]=w3:=by rw[Go.Sort.grow_empty,hw3]
  rw[e3]at ho3 hk3;have hdz:AO l=Lib.compact ms:=by unfold AO;rw[HD.out]
  refine⟨_,rfl,?_,⟨hk3.os.trans (hk2.os.trans hx1.os),hk3.tape.trans (hk2.tape.trans hx1.tape),hk3.output.trans (hk2.output.trans hx1.output),dn hx1.size (dn hk2.size hk3.size),λk hk=>?_⟩⟩
  .have:=Dl ho3 (k:=(Lib.compact ms).length) hcl
   rw[List.take_left]at this;rw[hdz];exact this
  .have z1:=hx1.size
   rw[hk3.block k (by have:=hk2.size;omega) (by omega),hk2.block k (by omega) (by omega)];exact hx1.block k hk
theorem KI(h:z.Pairwise (·<=·)):(Lib.compact z).Pairwise (· < ·):=by
 unfold Lib.compact Lib.compactUpTo;rw[jh];have hr:((List.range z.length).filter (Lib.keeps z.toArray)).Pairwise (· < ·):=List.pairwise_lt_range.filter _;refine iq (λ{i j} hi hj hij=>?_) hr;simp only[fU,dM,Lib.keeps,decide_eq_true_eq]at hi hj;rcases hj.2 with h0|h0
 .omega
 .have e1:z.toArray[j]! = z[j]:=by simp[hj.1]
  have e2:z.toArray[j-1]! = z[j-1]'(by omega):=by simp[show j-1<z.length by omega]
  have e3:z.toArray[i]! = z[i]:=by simp[hi.1]
  rw[e1,e2]at h0;rw[e1,e3];have a:z[i]<=z[j-1]'(by omega):=by
   by_cases c:i=j-1
   .subst c;exact Int.le_refl _
   .exact dx.1 h i (j-1) hi.1 (by omega) (by omega)
  have b:=dx.1 h (j-1) j (by omega) hj.1 (by omega);omega
theorem KH{x:Int}:x∈Lib.compact z↔x∈z:=by
 have key:∀i (h:i<z.length),z[i]∈Lib.compact z:=by
  intro i
  induction i with
  |zero=>
   intro h;refine aH.2 ⟨0,fU.2 ⟨dM.2 h,by simp[Lib.keeps]⟩,by simp[h]⟩
  |succ i ih=>
   intro h;by_cases c:z[i+1]=z[i]
   .rw[c];exact ih (by omega)
   .refine aH.2 ⟨i+1,fU.2 ⟨dM.2 h,?_⟩,by simp[h]⟩
    simp only[Lib.keeps,decide_eq_true_eq,qj];right;have e1:z.toArray[i+1]! = z[i+1]:=(by simp[h]);have e2:z.toArray[i]! = z[i]:=(by simp[show i<z.length by omega]);rw[e1,e2];exact c
 constructor
 .intro h
  obtain⟨i,hi,rfl⟩:=aH.1 h;simp only[fU,dM]at hi;have:z.toArray[i]! = z[i]:=by simp[hi.1]
  rw[this];exact ai _
 .intro h
  obtain⟨i,hi,rfl⟩:=aW.1 h;exact key i hi
theorem VY(l:List Nat):AO (dD l)=dD (bQ l):=by
 have hs:((dD l).mergeSort λx y=>decide (x<=y)).Pairwise (·<=·):=by
  have:=List.pairwise_mergeSort (le:=λx y:Int=>decide (x<=y)) (λa b c h1 h2=>by simp at *;omega) (λa b=>by simp;omega) (dD l);exact this.imp (λh=>by simpa using h)
 have ha:=KI hs;have hm:∀x,x∈AO (dD l)↔x∈dD l:=λx=>by unfold AO;rw[KH,List.mem_mergeSort]
 have hnn:∀x,x∈AO (dD l)->∃n:Nat,x=(n:Int):=λx hx=>by obtain⟨n,_,e⟩:=mV ((hm x).1 hx);exact⟨n,e⟩
 have e1:AO (dD l)=dD ((AO (dD l)).map Int.toNat):=by
  unfold dD;rw[gM]
  conv=>lhs;rw[<-List.map_id (AO _)]
  refine df λx hx=>?_
  obtain⟨n,rfl⟩:=hnn x hx;rfl
 rw[e1];congr 1;refine bO.ru ?_ (jv l) (λx=>?_)
 .unfold bO.Asc
  rw[jh];refine iq (λ{a b} ha hb h=>?_) ha;obtain⟨n,rfl⟩:=hnn a ha;obtain⟨m,rfl⟩:=hnn b hb;simp;omega
 .rw[bZ]
  constructor
  .intro h
   obtain⟨y,hy,rfl⟩:=aH.1 h;obtain⟨n,hn,rfl⟩:=mV ((hm y).1 hy)
   simpa using hn
  .intro h
   exact aH.2 ⟨(x:Int),(hm _).2 (tT.2 h),by simp⟩
end
section
open Go.RowKit
open bO (dH Nd vl Same)
variable {w w':World} {B n:Nat} {v:Value} {sl:Nat->Value} {ls:Nat->List Int}
structure FO(w:World)(B:Nat)(v:Value)(n:Nat)(sl:Nat->Value)(ls:Nat->List Int):Prop where
 row:∃xs,w.ownsRow B 89 2 v n xs/\∀j,j<2*n->xs[j]?=some (sl j)
 own:∀j,j<2*n->w.ownsRow B 3 1 (sl j) (ls j).length ((ls j).map (Value.int .i64))
 ap:∀i j,i<2*n->j<2*n->i≠j->∀b,(sl i).ownBlock=some b->(sl j).ownBlock≠some b
 R7:∀j,j<2*n->∀b,(sl j).ownBlock=some b->v.ownBlock≠some b
theorem FO.ext(h:FO w B v n sl ls)(hx:Ext w w'):FO w' B v n sl ls:=by
 obtain⟨xs,h1,h2⟩:=h.row;exact⟨⟨xs,bY h1 hx,h2⟩,λj hj=>bY (h.own j hj) hx,h.ap,h.R7⟩
theorem FO.set(h:FO w B v n sl ls){j:Nat}(hj:j<2*n){l:List Int}(hk:dX (λb=>(sl j).ownBlock=some b) w w')(ho:w'.ownsRow B 3 1 (sl j) l.length (l.map (Value.int .i64))):FO w' B v n sl (λq=>if q=j then l else ls q):=by
 obtain⟨xs,h1,h2⟩:=h.row;refine⟨⟨xs,bI h1 hk (λb hb e=>h.R7 j hj b e hb),h2⟩,λq hq=>?_,h.ap,h.R7⟩;by_cases c:q=j
 .subst c;simp only[if_true];exact ho
 .simp only[c,if_false];exact bI (h.own q hq) hk (λb hb e=>h.ap q j hq hj c b hb e)
theorem FO.cell{w:World}{B:Nat}{v:Value}{n:Nat}{sl:Nat->Value}{ls:Nat->List Int}(h:FO w B v n sl ls){i:Nat}(hi:i<n):∃g cap,v=.slice (some ⟨g,0,none⟩) n cap/\n<=cap/\w.cell? ⟨g,i*2,none⟩=some (sl (2*i))/\w.cell? ⟨g,i*2+1,none⟩=some (sl (2*i+1)):=by
 obtain⟨xs,h1,h2⟩:=h.row;obtain⟨g,cap,rfl,hc,_,hcell⟩:=gV h1 (by omega);exact⟨g,cap,rfl,hc,by rw[hcell _ (by omega),jg];exact h2 _ (by omega),by rw[hcell _ (by omega),jg];exact h2 _ (by omega)⟩
theorem FO.slice{w:World}{B:Nat}{v:Value}{n:Nat}{sl:Nat->Value}{ls:Nat->List Int}(h:FO w B v n sl ls){j:Nat}(hj:j<2*n):∃a c,sl j=.slice a (ls j).length c:=by
 obtain⟨a,c,e,_⟩:=bH (h.own j hj);exact⟨a,c,e⟩
def Lists(n:Nat)(sl:Nat->Value)(b:Nat):Prop:=∃j,j<2*n/\(sl j).ownBlock=some b
def oZ(F:dH)(j:Nat):List Int:=if j % 2=0 then dD (F.getD (j / 2) ([],[])).1 else dD (F.getD (j / 2) ([],[])).2
theorem FO.xV{G:Nat->Prop}(h:FO w B v n sl ls)(hk:dX G w w')(hG:∀b,G b->b<B):FO w' B v n sl ls:=by
 obtain⟨xs,h1,h2⟩:=h.row;exact⟨⟨xs,bI h1 hk (λb hb g=>by have:=hG b g;have:=(h1.lt b hb).1;omega),h2⟩,λj hj=>bI (h.own j hj) hk (λb hb g=>by have:=hG b g;have:=((h.own j hj).lt b hb).1;omega),h.ap,h.R7⟩
theorem FO.lists(h:FO w B v n sl ls){b:Nat}(hb:Lists n sl b):B<=b/\b<w.heap.size:=by
 obtain⟨j,hj,e⟩:=hb;exact(h.own j hj).lt b e
theorem FO.top(h:FO w B v n sl ls):∃a c,v=.slice a n c:=by
 obtain⟨xs,h1,_⟩:=h.row;obtain⟨a,c,h,_⟩:=bH h1;exact⟨a,c,h⟩
theorem FO.nodes{F:dH}(h:FO w B v F.length sl (oZ F))(hs:∀j,j<2*F.length->(oZ F j).length<=1152921504606846976)(hl:F.length<=maxLen):fu w 0 v F:=by
 obtain⟨xs,h1,h2⟩:=h.row;refine fu.eD (K:=λ_=>False) (Dq h1 (aJ _)) (λi hi=>?_);have g:F.getD i ([],[])=F[i]:=by rw[aj,aa hi];rfl
 have e0:oZ F (2*i)=dD (F[i]).1:=by unfold oZ;rw[if_pos (by omega),show 2*i / 2=i by omega,g]
 have e1:oZ F (2*i+1)=dD (F[i]).2:=by unfold oZ;rw[if_neg (by omega),show(2*i+1) / 2=i by omega,g]
 have o0:=h.own (2*i) (by omega);have o1:=h.own (2*i+1) (by omega);have s0:=hs (2*i) (by omega);have s1:=hs (2*i+1) (by omega);rw[e0]at o0 s0;rw[e1]at o1 s1;exact⟨sl (2*i),sl (2*i+1),by rw[jg];exact h2 _ (by omega),by rw[jg];exact h2 _ (by omega),Ints.eD o0 s0,Ints.eD o1 s1,λb hb=>⟨aJ _,(o0.lt b hb).2,id⟩,λb hb=>⟨aJ _,(o1.lt b hb).2,id⟩⟩
theorem dO{P:Program}{fn:Func}{p u:Tmp}{ty:TypeId}(h:fn.results=#[.cell p ty,.tmp u])(tmps:Array Value)(w:World)(g:Nat)(t:TypeId)(cs:Array Value)(fr:Nat × Nat)(d:TypeDesc)
 (hp:tmps.getD p undef=.pointer (some ⟨g,0,none⟩)) (hg:w.heap[g]?=some (.cells cs t fr))
 (hu:P.underlying ty=some d) (hd:(match d with | .struct _ | .array _ _=>true|_=>false)=true) (hi:(P.info? ty).map (·.size)=some cs.size) (hv:tmps.getD u undef=v):
 (results fn tmps).run P w=.ok (.tuple #[.agg cs,v]) w:=by
 have hp':tmps[p]?.getD undef=.pointer (some ⟨g,0,none⟩):=by simpa using hp
 subst hv;rw[results_cell_tmp h];simp[hp',asAddr,run_loadVar_row w g t ty cs fr d hg hu hd hi]
end
section
open Go.RowKit
variable {F:Nat->Prop} {w wr w0:World} {pc po k:Nat} {ov cv:Value} {out:List ByteArray} {us:List Nat}
theorem Cy{G:Nat->Prop}{a b:World}(h:dX F a b)(k:∀x,F x->G x):dX G a b:=⟨h.os,h.tape,h.output,h.size,λx hx hn=>h.block x hx λe=>hn (k x e)⟩
structure I6(w wr:World)(pc po:Nat)(ov:Value)(out:List ByteArray):Prop where
 b1:wr.heap[w.heap.size]?=some (.cells #[.slice none 0 0] 31 (0,0))
 b2:wr.heap[po]?=some (.cells #[ov] 31 (0,0))
 own:wr.ownsRow (w.heap.size+1) 9 1 ov out.length (out.map Value.string)
 np:ov.ownBlock≠some po
 pz:w.heap.size<po
 pcl:pc<w.heap.size
 keep:dX (λb=>b=pc) w wr
theorem I6.cur{w3:World}(m:I6 w wr pc po ov out)(h:dX (λb=>b=pc) wr w3):I6 w w3 pc po ov out:=by
 have h1:=m.pz;have h2:=m.pcl;exact⟨(h.block _ (bu m.b1) (by omega)).trans m.b1,(h.block _ (bu m.b2) (by omega)).trans m.b2,bI m.own h (λb hb e=>by have:=(m.own.lt b hb).1;omega),m.np,m.pz,m.pcl,m.keep.trans h λ_ _ h=>h⟩
theorem yL.keep{w':World}(c:yL w0 w pc cv us k)(h:dX F w w')(hF:∀b,F b->pc<b):yL w0 w' pc cv us k:=by
 have hz:=c.pcz;obtain⟨s,hb⟩:=c.blk;exact⟨c.code,c.small,jw c.ext h (λb hb=>by have:=hF b hb;omega),c.pcz,s,(h.block _ (bu hb) (λe=>by have:=hF _ e;omega)).trans hb⟩
theorem I6.put{w5:World}{v5:Value}{X:Obj}{s:ByteArray}(m:I6 w wr pc po ov out)(c:yL w0 wr pc cv us k)
 (ho:w5.ownsRow (w.heap.size+1) 9 1 v5 (out.length+1) (out.map Value.string++[.string s])) (hg:(wr.alloc X).grownBy w5 ov.ownBlock) (hl:kR (wr.alloc X) ov v5):
 I6 w (w5.setCell ⟨po,0,none⟩ v5) pc po v5 (out++[s])/\yL w0 (w5.setCell ⟨po,0,none⟩ v5) pc cv us k/\w5.cell? ⟨po,0,none⟩=some ov/\w5.frozen? ⟨po,0,none⟩=false:=by
 have hp:=m.pz;have hq:=m.pcl;have hz:(wr.alloc X).heap.size=wr.heap.size+1:=eQ _ _;have zg:=hg.size;have hk:dX (λb=>ov.ownBlock=some b) wr w5:=⟨hg.os,hg.tape,hg.output,by omega,λb hb hn=>by
  rw[hg.block b (by omega) (λe=>hn e.symm),Below.heap_alloc _ _ _ hb]⟩
 have hb2:w5.heap[po]?=some (.cells #[ov] 31 (0,0)):=(hk.block _ (bu m.b2) (λe=>m.np e)).trans m.b2;have hno:v5.ownBlock≠some po:=λe=>by
  rcases hl with k|⟨q,k,k2⟩
  .have:=m.np;rw[<-k]at this;exact this e
  .rw[k]at e;injection e with e;have:=bu m.b2;omega
 have hks:dX (λb=>b=po\/ov.ownBlock=some b) wr (w5.setCell ⟨po,0,none⟩ v5):=(Cy hk λ_ h=>Or.inr h).trans (Cy (dV (p:=⟨po,0,none⟩)) λ_ h=>Or.inl h) λ_ _ h=>h
 have hlt:∀b,(b=po\/ov.ownBlock=some b)->w.heap.size<b:=λb h=>by
  rcases h with e|e
  .omega
  .have:=(m.own.lt b e).1;omega
 have c0:=cell_of_row w5 po 0 _ _ _ hb2;simp only[gE]at c0;refine⟨⟨(hks.block _ (bu m.b1) (λe=>by have:=hlt _ e;omega)).trans m.b1,heap_setCell_same _ _ _ _ _ _ hb2,?_,hno,hp,hq,m.keep.trans hks (λb hb e=>by have:=hlt _ e;omega)⟩,c.keep hks (λb e=>by have:=hlt _ e;omega),c0,frozen_of_row w5 po 0 _ _ hb2⟩;rw[bG,aK];exact bI ho (dV (p:=⟨po,0,none⟩)) (λb hb e=>hno (by have e':b=po:=e;rw[<-e'];exact hb))
def Xx(w0 w:World)(pc:Nat)(cv:Value)(us:List Nat)(k n l0 l1 z:Nat)(e:Ending)(w':World):Prop:=
 ∃(v':Value) (ss':List ByteArray),e=.returned (.agg #[v'])/\w'.ownsRow w.heap.size 9 1 v' ss'.length (ss'.map Value.string)/\(l0<=ss'.length/\ss'.length<=l1)/\(∀s,s∈ss'->s.size<=z)/\oF w0 w w' pc cv us k n
set_option maxHeartbeats 1000000 in
theorem EP(h:yL w0 w pc cv us k)(hk:k<=900000)(most:Int)(hpc:pc<w.heap.size):
 Calls prog 107 #[.pointer (some ⟨pc,0,none⟩),.int .i64 most] w (Xx w0 w pc cv us k 30 1 4 4):=by
 obtain⟨i0,hi0,hz0,hz1,hz2⟩:=info_parts pY;have hx1:Ext w (w.alloc (.cells #[.slice none 0 0] 31)):=by go_grown
 have hb1:=heap_alloc_new w (.cells #[.slice none 0 0] 31);have hk0:dX (λ_=>False) w (w.alloc (.cells #[.slice none 0 0] 31)):=⟨rfl,rfl,rfl,by simp,λb hb _=>Below.heap_alloc _ _ _ hb⟩;have hc1:=h.keep hk0 (λb e=>e.elim);have hkp:dX (λb=>b=pc) w (w.alloc (.cells #[.slice none 0 0] 31)):=Cy hk0 λ_ e=>e.elim
 go_enter Tryz.func107,Tryz.ntmps107
 go_upto_region 1 with fail
 generalize w.alloc (.cells #[.slice none 0 0] 31)=W at *;have HPC:=aQ hpc;clear h hk0 hx1 hpc;go_upto_region 2 with(go_at_call 92;refine(l9 hc1 (by omega) 4 (by omega)).mono ?_;rintro e w1 ⟨x,hx,rfl,hg1⟩)
 obtain⟨⟨k1,hk1,hc2⟩,e1⟩:=hg1;obtain⟨hh,eh,hh1,hh4⟩:∃hh:Nat,1+((x:Nat):Int)=((hh:Nat):Int)/\1<=hh/\hh<=4:=⟨x+1,by omega,by omega,by omega⟩;rw[eh];clear hx eh;go_upto_region 3 with(go_at_call 92;refine(l9 hc2 (by omega) 4 (by omega)).mono ?_;rintro e w2 ⟨y,hy,rfl,hg2⟩)
 obtain⟨⟨k2,hk2,hc3⟩,e2⟩:=hg2;obtain⟨ww,ew,hw1,hw4⟩:∃ww:Nat,1+((y:Nat):Int)=((ww:Nat):Int)/\1<=ww/\ww<=4:=⟨y+1,by omega,by omega,by omega⟩;rw[ew];clear hy ew;have hkW:dX (λb=>b=pc) w w2:=(hkp.trans e1 λ_ _ h=>h).trans e2 λ_ _ h=>h
 have hb2:w2.heap[w.heap.size]?=some (.cells #[.slice none 0 0] 31 (0,0)):=by
  rw[e2.block _ (bz (bu hb1) e1.size) (λe=>by have:=HPC.out;omega),e1.block _ (bu hb1) (λe=>by have:=HPC.out;omega)];exact hb1
 have RQ:dX (λ_=>False) w2 (w2.alloc (.cells #[.slice none 0 0] 31)):=⟨rfl,rfl,rfl,by simp,λb hb _=>Below.heap_alloc _ _ _ hb⟩
 have hM0:I6 w (w2.alloc (.cells #[.slice none 0 0] 31)) pc w2.heap.size (.slice none 0 0) []:=
  ⟨by rw[Below.heap_alloc _ _ _ (bu hb2)];exact hb2,heap_alloc_new _ _,⟨by simp,.inl ⟨rfl,rfl⟩⟩,by simp[Value.ownBlock],bu hb2,HPC.out,hkW.trans RQ λ_ _ e=>e.elim⟩
 have hC0:=hc3.keep RQ λb e=>e.elim
 clear hc1 hc2 hc3 hb1 hb2 hkp e1 e2 hkW RQ;go_upto_region 6 with fail
 generalize w2.alloc (.cells #[.slice none 0 0] 31)=Wa at *;generalize w2.heap.size=po at *;go_loopw [7,9,10,11] (λfv iv _ _ wr=>∃(i k':Nat) (f:Int) (ov:Value) (out:List ByteArray),fv=.int .i64 f/\iv=.int .i64 ((i:Nat):Int)/\i<=hh/\I6 w wr pc po ov out/\Hid (out.length=i)/\yL w0 wr pc cv us k'/\k'<=k+2+5*i/\Hid (∀s,s∈out->s.size<=4)) (λ_ iv _ _ _=>hh-(intOf iv).toNat)
 case atStart=>exact⟨0,k2,_,_,[],rfl,rfl,aJ _,hM0,aQ rfl,hC0,by omega,aQ (by simp)⟩
 case round=>
  clear hM0 hC0;obtain⟨i,k',f,ov,out,rfl,rfl,hi,hM,hol,hC,hkk,uB⟩:=hrel;by_cases hlt:i<hh
  .have hil:((i:Nat):Int)<((hh:Nat):Int):=by omega
   have HM:=aQ hM;clear hM;go_upto_region 10 with fail
   go_loopw [7,10,11] (λfv rv kv wr=>∃(q k'':Nat) (f:Int) (s:ByteArray),fv=.int .i64 f/\kv=.int .i64 ((q:Nat):Int)/\rv=.string s/\q<=ww/\s.size=q/\I6 w wr pc po ov out/\yL w0 wr pc cv us k''/\k''<=k'+q) (λ_ _ kv _=>ww-(intOf kv).toNat)
   case atStart=>exact⟨0,k',f,_,rfl,rfl,rfl,aJ _,rfl,HM.out,hC,by omega⟩
   case round=>
    clear hC;obtain⟨q,k'',f,s,rfl,rfl,rfl,hq,hsz,hM,hC,hkq⟩:=hrel;by_cases oH:q<ww
    .have UQ:((q:Nat):Int)<((ww:Nat):Int):=by omega
     have Ae:=aQ hM;have aki:¬(9223372036854775807<s.size+1):=(by omega);clear hM;by_cases hf:f<most
     .go_upto_region 12 with fail
      go_wp2_with (go_at_call 92;refine(l9 hC (by omega) 4 (by omega)).mono ?_;rintro e w3 ⟨z,hz,rfl,hg3⟩)
      all_goals obtain⟨⟨k3,hk3,h3⟩,e3⟩:=hg3
      all_goals exact⟨⟨q+1,k3,_,_,rfl,by go_num,rfl,oH,by rw[nI,hsz];rfl,Ae.out.cur e3,h3,by omega⟩,by simp[intOf];omega⟩
     .go_wp2
      exact⟨⟨q+1,k'',_,_,rfl,by go_num,rfl,oH,by rw[nI,hsz];rfl,Ae.out,hC,by omega⟩,by simp[intOf];omega⟩
    .have UQ:¬(((q:Nat):Int)<((ww:Nat):Int)):=by omega
     obtain⟨ao,co,rfl,Y3,Y2⟩:=bH hM.own;have k0:=cell_of_row wr po 0 _ _ _ hM.b2;simp only[gE]at k0;have yJ:=hM.own;have EL:=bu hM.b2;have hpz:=hM.pz;have ae8:out.length<=4:=(by have:=hol.out;omega);have Ae:=aQ (And.intro hM hC);clear hM hC;go_wp2_with (at_builtin;refine dC rfl (.tmp 44) (.tmp 46) 22 rfl (w.heap.size+1) 9 i0 (.string ⟨#[]⟩) 1 16 underlying22 hi0 hz0 hz1 hz2 rfl (by decide) (.slice ao out.length co) out.length (out.map Value.string) rfl (yJ.alloc _) _ 1 _ [.string s] rfl rfl (.inr ⟨_,rfl,dJ (dh _ _ _)⟩) (by intro u hu;simp at hu;subst hu;rfl) (by unfold maxLen;omega) (by omega) (by rw[eQ];omega) ?_;intro v5 w5 iT hg5 hl5;obtain⟨a5,c5,rfl,-⟩:=bH iT;obtain⟨BJ,hC5,g5,f5⟩:=Ae.out.1.put Ae.out.2 iT hg5 hl5;have IE:=aQ (And.intro BJ hC5);clear BJ hC5)
     go_roundw
     case rel=>exact⟨i+1,k'',_,_,out++[s],rfl,by go_num,hlt,IE.out.1,aQ (by simp[hol.out]),IE.out.2,by omega,aQ (λz hz=>by
      rcases bq.1 hz with e|e
      .exact uB.out z e
      .obtain rfl:z=s:=by simpa using e
       omega)⟩
     case measure=>simp[intOf];omega
  .have hil:¬(((i:Nat):Int)<((hh:Nat):Int)):=by omega
   obtain⟨ao,co,rfl,Y3,Y2⟩:=bH hM.own;have k0:=cell_of_row wr po 0 _ _ _ hM.b2;have k1:=cell_of_row wr w.heap.size 0 _ _ _ hM.b1;have k2:=frozen_of_row wr w.heap.size 0 _ _ hM.b1;simp only[gE]at k0 k1;have HM:=aQ hM;have hr1:=hM.b1;have HB:Hid (1<=out.length/\out.length<=4):=aQ (by have h9:=hol.out;omega);clear hM;go_wp2
   have HH:=aQ (heap_setCell_same wr w.heap.size 0 _ _ (.slice ao out.length co) hr1);(try simp only[Exit.inBlock,Exit.then]);refine bodyPost_ret (results_cell_row rfl _ _ w.heap.size 31 #[.slice ao out.length co] (0,0) _ rfl HH.out underlying31 rfl (by kernel_rfl)) rfl ?_;have hks:=dV (w:=wr) (p:=⟨w.heap.size,0,none⟩) (v:=.slice ao out.length co);have hke:=HM.out.keep.trans hks (F:=λb=>b=pc) (λb hb e=>by have e':b=w.heap.size:=e;omega);exact⟨_,out,rfl,jV (bI HM.out.own hks (λb hb e=>by have:=(HM.out.own.lt b hb).1;have e':b=w.heap.size:=e;omega)) (by omega),HB.out,uB.out,⟨k',by omega,hC.keep hks (λb e=>by have e':b=w.heap.size:=e;have:=HPC.out;omega)⟩,hke⟩
end
end Go.Proofs.YteknjeohbcgpdaaGreatDoor