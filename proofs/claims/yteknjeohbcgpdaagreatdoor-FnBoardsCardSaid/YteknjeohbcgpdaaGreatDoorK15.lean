/-
  Memory: the bytes of a string, laid anew, stored into and read back as a string. (5 texts.)
-/
import Derived.Test.YteknjeohbcgpdaaGreatDoorK10
import Derived.Test.YteknjeohbcgpdaaGreatDoorK14
import Derived.Lib.ConvBytes
set_option maxRecDepth 100000
namespace Go.Proofs.YteknjeohbcgpdaaGreatDoor
open Tryz
section
open Go.RowKit
open bO (fw GB iG rowOk fD)
variable {c:UInt8} {a:List UInt8}
theorem J5:∀b:fw,Lib.join b [47]=fD b
 |[]=>rfl
 |[r]=>by simp[Lib.join,List.intercalate,fD]
 |r :: s :: t=>by
  have ih:=J5 (s :: t);rw[bO.kV,<-ih];simp[Lib.join,List.intercalate]
theorem xW{c:UInt8}:∀{a:List UInt8} (r:List UInt8),c ∉ a->Lib.indexByte (a++c :: r) c=(a.length:Int)
 |[],r,_=>by simp[Lib.indexByte]
 |b :: a,r,h=>by
  have hb:(b == c)=false:=by rw[beq_eq_false_iff_ne];rintro rfl;exact h (mX ..)
  have ih:=xW (a:=a) r (λe=>h (lV _ e));rw[List.cons_append,Lib.indexByte,hb,ih];have:((a.length:Int)== -1)=false:=by simp
  simp[this]
theorem Ji(h:c ∉ a):Lib.splitK [c] 0 (Lib.count a [c]) a=[a]:=by
 rw[Lib.count_one,List.count_eq_zero.2 h];rfl
theorem Jj{r:List UInt8}(h:c ∉ a):Lib.splitK [c] 0 (Lib.count (a++c :: r) [c]) (a++c :: r)=a :: Lib.splitK [c] 0 (Lib.count r [c]) r:=by
 have e:Lib.count (a++c :: r) [c]=Lib.count r [c]+1:=by
  rw[Lib.count_one,Lib.count_one,List.count_append,List.count_eq_zero.2 h,List.count_cons_self];omega
 rw[e,Lib.splitK,Lib.index_one,xW r h];have:((a.length:Int)== -1)=false:=by simp
 rw[this];simp
theorem CW:∀{b:fw},b≠[]->(∀r,r∈b->(47:UInt8) ∉ r)->Lib.splitK [47] 0 (Lib.count (fD b) [47]) (fD b)=b
 |[],h,_=>absurd rfl h
 |[r],_,h=>Ji (h r (by simp))
 |r :: s :: t,_,h=>by
  rw[bO.kV,Jj (h r (by simp)),CW (by simp) λx hx=>h x (by simp only[eT]at hx ⊢;exact .inr hx)]
theorem Gf:∀{b:fw},b≠[]->(∀r,r∈b->(47:UInt8) ∉ r)->Lib.count (fD b) [47]+1=b.length
 |[],h,_=>absurd rfl h
 |[r],_,h=>by rw[Lib.count_one,fD,List.count_eq_zero.2 (h r (by simp))];rfl
 |r :: s :: t,_,h=>by
  have ih:=Gf (b:=s :: t) (by simp) λx hx=>h x (by simp only[eT]at hx ⊢;exact .inr hx)
  rw[Lib.count_one]at ih ⊢;rw[bO.kV,List.count_append,List.count_eq_zero.2 (h r (by simp)),List.count_cons_self,fQ,<-ih];omega
theorem qR{b:fw}{h w:Nat}{s:ByteArray}(g:GB b h w)(hs:ll s=fD b):
 Lib.countB s ⟨#[47]⟩+1=b.length/\bd (Lib.splitB ⟨#[47]⟩ 0 (Lib.countB s ⟨#[47]⟩) s)=b:=by
 have hn:∀r,r∈b->(47:UInt8) ∉ r:=λr hr k=>g.abE r hr 47 k rfl
 have hs':s.data.toList=fD b:=hs;have hc:Lib.countB s ⟨#[47]⟩=Lib.count (fD b) [47]:=by unfold Lib.countB;rw[hs']
 refine⟨by rw[hc,Gf g.ne hn],?_⟩;have:=Lib.splitB_data ⟨#[47]⟩ 0 (Lib.countB s ⟨#[47]⟩) s;have e:bd (Lib.splitB ⟨#[47]⟩ 0 (Lib.countB s ⟨#[47]⟩) s)=(Lib.splitB ⟨#[47]⟩ 0 (Lib.countB s ⟨#[47]⟩) s).map (·.data.toList):=rfl;rw[e,this,hs',hc];exact CW g.ne hn
theorem Nv{p:UInt8->Bool}:∀{L:List UInt8},(∀x,x∈L.dropWhile p->p x=true)->∀x,x∈L->p x=true
 |[],_,x,hx=>by cases hx
 |a :: t,h,x,hx=>by
  cases ha:p a with
  |true=>
   rw[List.dropWhile_cons_of_pos ha]at h;rcases eT.1 hx with rfl|hx
   .exact ha
   .exact Nv h x hx
  |false=>
   rw[List.dropWhile_cons_of_neg (by simp[ha])]at h;exact h x hx
theorem VX{p:UInt8->Bool}:∀{L:List UInt8},(∀x,x∈L->p x=true)->L.dropWhile p=[]
 |[],_=>rfl
 |a :: t,h=>by rw[List.dropWhile_cons_of_pos (h a (by simp))];exact VX λx hx=>h x (by simp[hx])
theorem PW(l cs:List UInt8):Lib.trimS l cs=[]↔∀c,c∈l->cs.contains c=true:=by
 unfold Lib.trimS Lib.trimLeftS Lib.trimRightS;constructor
 .intro h
  have h1:∀c,c∈(l.reverse.dropWhile (cs.contains ·))->cs.contains c=true:=λc hc=>by
   refine Nv (L:=(l.reverse.dropWhile (cs.contains ·)).reverse) (p:=(cs.contains ·)) (λx hx=>by rw[h]at hx;cases hx) c (by simpa using hc)
  exact λc hc=>Nv h1 c (by simpa using hc)
 .intro h
  rw[VX (L:=l.reverse) λc hc=>h c (by simpa using hc)];rfl
def zW(s:ByteArray):Bool:=(ll s).all λc=>c == 46 || c == 35
theorem Nz(s:ByteArray):((Lib.trimS s.data.toList [46,35])== [])=zW s:=by
 unfold zW;rw[jy,beq_iff_eq,PW,mM];constructor <;> intro h c hc <;> have:=h c hc <;> simpa using this
end
section
open Go.RowKit
open bO (Cs AQ)
variable {w w':World} {B e n C h i r c:Nat} {xs:List Value} {v:Value} {sl:Nat->Value}
theorem Dm{g cap k:Nat}(h:w.ownsRow B e 1 (.slice (some ⟨g,0,none⟩) n cap) n xs)(_hk:k<n)(x:Value):
 (w.setCell ⟨g,k,none⟩ x).ownsRow B e 1 (.slice (some ⟨g,0,none⟩) n cap) n (xs.set k x):=by
 obtain⟨hl,h2⟩:=h;refine⟨by simpa using hl,?_⟩;rcases h2 with⟨e1,_⟩|⟨g',cap',cur,e1,hb,hg,hnc,hcm,hcs,ht⟩
 .simp at e1
 .simp only[Value.slice.injEq,bN,Addr.mk.injEq,and_true,true_and]at e1
  obtain⟨rfl,rfl⟩:=e1;refine .inr ⟨g,cap,cur.setIfInBounds k x,rfl,hb,heap_setCell_same _ _ _ _ _ _ hg,hnc,hcm,by simp[hcs],?_⟩;rw[Array.toList_setIfInBounds,<-ht,List.take_set]
theorem jV{size:Nat}(h:w.ownsRow B e size v n xs)(hC:C<=B):w.ownsRow C e size v n xs:=by
 obtain⟨hl,h2⟩:=h;refine⟨hl,?_⟩;rcases h2 with h2|⟨g,cap,cur,e1,hb,rest⟩
 .exact .inl h2
 .exact .inr ⟨g,cap,cur,e1,dn hC hb,rest⟩
abbrev Cl:=List (List Bool)
def jk(cl:Cl)(r c:Nat):Bool:=(cl.getD r []).getD c false
def pG(cl:Cl)(r c:Nat)(x:Bool):Cl:=cl.set r ((cl.getD r []).set c x)
structure Sz(cl:Cl)(h w:Nat):Prop where
 hgt:cl.length=h
 row:∀r,r∈cl->r.length=w
theorem Sz.at{cl:Cl}{w:Nat}(s:Sz cl h w)(hi:i<cl.length):cl[i].length=w:=s.row _ (ai hi)
theorem Ht{cl:Cl}(hr:r<cl.length)(hc:c<cl[r].length):jk cl r c=cl[r][c]:=by
 unfold jk;rw[aj (l:=cl),aa hr,bW,aj,aa hc,bW]
theorem uj{cl:Cl}{w:Nat}(s:Sz cl h w)(k:jk cl r c=true):r<h/\c<w:=by
 unfold jk at k;by_cases hr:r<cl.length
 .rw[aj (l:=cl),aa hr,bW]at k
  have:=s.at hr;by_cases hc:c<cl[r].length
  .exact⟨by have:=s.hgt;omega,by omega⟩
  .rw[aj,ek (by omega)]at k;cases k
 .rw[aj (l:=cl),ek (Nat.le_of_not_lt hr)]at k
  simp at k
theorem Sz.set{cl:Cl}{w:Nat}(s:Sz cl h w)(r c:Nat)(x:Bool):Sz (pG cl r c x) h w:=by
 refine⟨by simp[pG,s.hgt],λq hq=>?_⟩;unfold pG at hq;rcases List.mem_or_eq_of_mem_set hq with e|e
 .exact s.row q e
 .by_cases hr:r<cl.length
  .subst e
   rw[eO,aj,aa hr,bW];exact s.at hr
  .rw[List.set_eq_of_length_le (by omega)]at hq;exact s.row q hq
theorem Pj{cl:Cl}{w:Nat}(s:Sz cl h w)(hr:r<h)(hc:c<w)(x:Bool)(i k:Nat):jk (pG cl r c x) i k=if i=r/\k=c then x else jk cl i k:=by
 have hr':r<cl.length:=by have:=s.hgt;omega
 have hw:=s.at hr';unfold jk pG;rw[aj (l:=cl.set _ _),eX];by_cases e:r=i
 .subst e
  rw[if_pos rfl,if_pos hr',bW,aj,aj (l:=cl),aa hr',bW,eX];by_cases e2:c=k
  .subst e2;simp[hw,hc]
  .have:¬k=c:=λq=>e2 q.symm
   simp[e2,this]
 .rw[if_neg e]
  have:¬(i=r/\k=c):=λq=>e q.1.symm
  rw[if_neg this,aj (l:=cl)]
structure Gr(w:World)(B:Nat)(v:Value)(sl:Nat->Value)(cl:Cl):Prop where
 row:w.ownsRow B 106 1 v cl.length ((List.range cl.length).map sl)
 own:∀j (h:j<cl.length),w.ownsRow B 4 1 (sl j) cl[j].length (cl[j].map Value.bool)
 ap:∀i j,i<cl.length->j<cl.length->i≠j->∀b,(sl i).ownBlock=some b->(sl j).ownBlock≠some b
 R7:∀j,j<cl.length->∀b,(sl j).ownBlock=some b->v.ownBlock≠some b
def Lg(sl:Nat->Value)(n:Nat)(b:Nat):Prop:=∃j,j<n/\(sl j).ownBlock=some b
def GrA(v:Value)(sl:Nat->Value)(n:Nat)(b:Nat):Prop:=v.ownBlock=some b\/Lg sl n b
theorem Gr.keep{cl:Cl}{G:Nat->Prop}(h:Gr w B v sl cl)(hk:dX G w w')(hG:∀b,GrA v sl cl.length b->¬G b):Gr w' B v sl cl:=
 ⟨bI h.row hk λb hb=>hG b (.inl hb),λj hj=>bI (h.own j hj) hk λb hb=>hG b (.inr ⟨j,hj,hb⟩),h.ap,h.R7⟩
theorem Gr.ext{cl:Cl}(h:Gr w B v sl cl)(hx:Ext w w'):Gr w' B v sl cl:=h.keep (fq (F:=λ_=>False) hx) λ_ _=>id
theorem Gr.lower{cl:Cl}(h:Gr w B v sl cl)(hC:C<=B):Gr w C v sl cl:=⟨jV h.row hC,λj hj=>jV (h.own j hj) hC,h.ap,h.R7⟩
theorem Gr.lt{w:World}{B:Nat}{v:Value}{sl:Nat->Value}{cl:Cl}(h:Gr w B v sl cl){b:Nat}(hb:GrA v sl cl.length b):B<=b/\b<w.heap.size:=by
 rcases hb with hb|⟨j,hj,hb⟩
 .exact h.row.lt b hb
 .exact(h.own j hj).lt b hb
theorem Gr.nil(h:w.ownsRow B 106 1 v 0 []):Gr w B v (λ_=>.slice none 0 0) []:=
 ⟨h,λj hj=>absurd hj (by simp),λi j hi=>absurd hi (by simp),λj hj=>absurd hj (by simp)⟩
theorem Gr.top{cl:Cl}(h:Gr w B v sl cl)(hi:i<cl.length):∃g cap,v=.slice (some ⟨g,0,none⟩) cl.length cap/\w.cell? ⟨g,i,none⟩=some (sl i):=by
 obtain⟨g,cap,e,_,_,hc⟩:=gV h.row (by omega);exact⟨g,cap,e,by rw[hc i (by omega)];simp[hi]⟩
theorem Gr.len{cl:Cl}(h:Gr w B v sl cl):∃a cap,v=.slice a cl.length cap/\cl.length<=cap/\cap<=maxLen:=bH h.row
theorem Gr.Yk{cl:Cl}(h:Gr w B v sl cl)(hi:i<cl.length):∃a cap,sl i=.slice a cl[i].length cap/\cl[i].length<=cap:=by
 obtain⟨a,cap,e,h1,_⟩:=bH (h.own i hi);exact⟨a,cap,e,h1⟩
theorem Gr.cell{w:World}{B:Nat}{v:Value}{sl:Nat->Value}{cl:Cl}(h:Gr w B v sl cl){i k:Nat}(hi:i<cl.length)(hk:k<cl[i].length):
 ∃g cap,sl i=.slice (some ⟨g,0,none⟩) cl[i].length cap/\w.cell? ⟨g,k,none⟩=some (.bool cl[i][k])/\w.frozen? ⟨g,k,none⟩=false:=by
 obtain⟨g,cap,e,_,_,hc⟩:=gV (h.own i hi) (by omega);have ho:=h.own i hi;rw[e]at ho;exact⟨g,cap,e,by rw[hc k (by omega)];simp[hk],ho.frozenAt k⟩
theorem Gr.set{w:World}{B:Nat}{v:Value}{sl:Nat->Value}{cl:Cl}(h:Gr w B v sl cl){i k g cap:Nat}(hi:i<cl.length)(hk:k<cl[i].length)(e:sl i=.slice (some ⟨g,0,none⟩) cl[i].length cap)(x:Bool):
 Gr (w.setCell ⟨g,k,none⟩ (.bool x)) B v sl (pG cl i k x):=by
 have hg:(sl i).ownBlock=some g:=by rw[e];rfl
 have hlen:(pG cl i k x).length=cl.length:=by simp[pG]
 have hks:=dV (w:=w) (p:=⟨g,k,none⟩) (v:=.bool x);refine⟨?_,λj hj=>?_,?_,?_⟩
 .rw[hlen];exact bI h.row hks λb hb q=>h.R7 i hi g hg (by rw[hb];exact congrArg some q)
 .have hj':j<cl.length:=by omega
  by_cases c:i=j
  .subst c
   have ho:=h.own i hi;rw[e]at ho;have:=Dm ho hk (.bool x);have e1:(pG cl i k x)[i]=cl[i].set k x:=by
    simp only[pG,List.getElem_set_self,aj,aa hi,bW]
   rw[e1,eO,oq,e];exact this
  .have e1:(pG cl i k x)[j]=cl[j]:=by simp only[pG];rw[List.getElem_set_ne c]
   rw[e1];exact bI (h.own j hj') hks λb hb q=>h.ap i j hi hj' c g hg (by rw[hb];exact congrArg some q)
 .rw[hlen];exact h.ap
 .rw[hlen];exact h.R7
theorem Gr.snoc{v' x:Value}{cl:Cl}{r:List Bool}(h:∀j (hj:j<cl.length),w.ownsRow B 4 1 (sl j) cl[j].length (cl[j].map Value.bool))
 (ho:w.ownsRow B 106 1 v' (cl.length+1) ((List.range cl.length).map sl++[x])) (hx:w.ownsRow B 4 1 x r.length (r.map Value.bool))
 (ha:∀i j,i<cl.length->j<cl.length->i≠j->∀b,(sl i).ownBlock=some b->(sl j).ownBlock≠some b) (hax:∀j,j<cl.length->∀b,(sl j).ownBlock=some b->x.ownBlock≠some b)
 (h0:∀j,j<cl.length->∀b,(sl j).ownBlock=some b->v'.ownBlock≠some b) (h0x:∀b,x.ownBlock=some b->v'.ownBlock≠some b):
 Gr w B v' (λj=>if j=cl.length then x else sl j) (cl++[r]):=by
 have hlen:(cl++[r]).length=cl.length+1:=by simp
 refine⟨?_,λj hj=>?_,λi j hi hj hij b hb=>?_,λj hj b hb=>?_⟩
 .rw[hlen,qK,bG]
  have e1:(List.range cl.length).map (λj=>if j=cl.length then x else sl j)=(List.range cl.length).map sl:=df λj hj=>if_neg (by have:=dM.1 hj;omega)
  rw[e1];simpa using ho
 .by_cases c:j=cl.length
  .subst c;simpa using hx
  .have hj':j<cl.length:=by omega
   simp only[if_neg c,dw hj'];exact h j hj'
 .rw[hlen]at hi hj
  by_cases c:i=cl.length
  .simp only[if_pos c]at hb
   have:¬j=cl.length:=(by omega);simp only[if_neg this];exact λe=>hax j (by omega) b e hb
  .simp only[if_neg c]at hb
   by_cases d:j=cl.length
   .simp only[if_pos d];exact hax i (by omega) b hb
   .simp only[if_neg d];exact ha i j (by omega) (by omega) hij b hb
 .rw[hlen]at hj
  by_cases c:j=cl.length
  .simp only[if_pos c]at hb;exact h0x b hb
  .simp only[if_neg c]at hb;exact h0 j (by omega) b hb
def lK(cl:Cl):Cs:=λr c=>jk cl r c
end
section
open Go.RowKit
open bO (fw GB fD Cs)
variable {ss:List ByteArray} {hh ww:Nat}
theorem rW:∀{b:fw},(∀r,r∈b->r.length<=8)->(fD b).length<=9*b.length
 |[],_=>by simp[fD]
 |[r],h=>by have:=h r (by simp);simp[fD];omega
 |r :: s :: t,h=>by
  rw[bO.kV,aK,fQ];have h1:=h r (by simp);have h2:=rW (b:=s :: t) λx hx=>h x (lV _ hx)
  simp only[fQ]at h2 ⊢;omega
theorem og(g:GB (bd ss) hh ww){i:Nat}(hi:i<ss.length):ss[i].size=ww:=by
 have:=(g.row (ll ss[i]) (by rw[<-uH hi];exact ai _)).1;rw[jA]at this;exact this
theorem oh(g:GB (bd ss) hh ww):ss.length=hh:=by rw[<-iy];exact g.hgt
theorem PU{k:Nat}(hk:k<ss.length):fD ((bd ss).take (k+1))=if k=0 then ll ss[k]else fD ((bd ss).take k)++47 :: ll ss[k]:=by
 rw[bg (by rw[iy];exact hk),uH hk];by_cases h:k=0
 .subst h;simp[fD]
 .rw[if_neg h,bO.PV]
  intro e;have:=congrArg List.length e;rw[dI,iy,List.length_nil]at this;omega
set_option maxHeartbeats 2000000 in
theorem JX(v:Value)(ss:List ByteArray)(hh ww:Nat)(w:World)(h:Strs w v ss)(g:GB (bd ss) hh ww):
 Calls prog 128 #[.agg #[v]] w λe w'=>∃so,e=.returned (.string so)/\ll so=fD (bd ss)/\Ext w w':=by
 obtain⟨a,cap,rfl,hcap,p8⟩:=h.open;have hxb:Ext w (w.alloc (.cells #[.slice a ss.length cap] 31)):=by go_grown
 have hbb:=heap_alloc_new w (.cells #[.slice a ss.length cap] 31);have hn:=oh g;have h8:=g.h1;have w8:=g.w1;have hss:ss.length<=8:=by omega
 have GG:=aQ g;clear g h8 hn;go_enter Tryz.func128,Tryz.ntmps128
 go_wp2
 generalize w.alloc (.cells #[.slice a ss.length cap] 31)=W at *;generalize w.heap.size=p at *;go_loopw [3,4] (λsv ii wr=>∃(i:Nat) (so:ByteArray),ii=.int .i64 ((i:Nat):Int)/\i<=ss.length/\sv=.string so/\Ext W wr/\Hid (ll so=fD ((bd ss).take i))) (λ_ ii _=>ss.length-(intOf ii).toNat)
 case atStart=>exact⟨0,⟨#[]⟩,rfl,aJ _,rfl,Below.refl _ _,aQ (by simp[ll,fD])⟩
 case round=>
  obtain⟨i,so,rfl,hi,rfl,hx,HS⟩:=hrel;have hE:=ax hxb hx;have hbr:wr.heap[p]?=some (.cells #[.slice a ss.length cap] 31 (0,0)):=(hx.block _ (bu hbb)).trans hbb;have c0:=cell_of_row wr p 0 _ _ _ hbr;simp only[gE]at c0;by_cases hlt:i<ss.length
  .have h1:((i:Nat):Int)<((ss.length:Nat):Int):=by omega
   obtain⟨b,off,rfl,hc⟩:=(h.ext hE).at hlt;have ci:=hc i hlt;have hsz:ss[i].size<=8:=(by rw[og GG.out hlt];exact w8.2);have wH:=aQ (PU hlt);generalize ss[i]=si at *;have hso:so.size<=72:=by
    have h2:=rW (b:=(bd ss).take i) λr hr=>by rw[(GG.out.row r (dY hr)).1];exact w8.2
    rw[<-HS.out,jA,dI,iy]at h2;omega
   have hs1:(⟨#[47]⟩:ByteArray).size=1:=rfl;have HC1:=λW:World=>run_string_add_sum (P:=prog) (w:=W) so ⟨#[47]⟩ (by omega)
   have HC2:=λW:World=>run_string_add_sum (P:=prog) (w:=W) so si (by omega)
   have HC3:=λW:World=>run_string_add_sum (P:=prog) (w:=W) (so++⟨#[47]⟩) si (by rw[nI];omega)
   have HE:=aQ hx;clear hc hx hE hbr hsz hso hs1;by_cases h0:i=0
   .have h2:¬((0:Int)<((i:Nat):Int)):=by omega
    have HN:Hid (ll (so++si)=fD ((bd ss).take (i+1))):=by
     show _=_;rw[wH.out,if_pos h0];have:=HS.out;rw[h0]at this;simp only[o5,fD]at this;unfold ll at *;rw[ByteArray.data_append,Array.toList_append,this];rfl
    clear h0;go_wp2
    go_roundw
    case rel=>exact⟨i+1,_,by go_num,by omega,rfl,HE.out,HN⟩
    case measure=>simp[intOf];omega
   .have h2:(0:Int)<((i:Nat):Int):=by omega
    have HN:Hid (ll (so++⟨#[47]⟩++si)=fD ((bd ss).take (i+1))):=by
     show _=_;rw[wH.out,if_neg h0];have:=HS.out;unfold ll at *;rw[ByteArray.data_append,Array.toList_append,ByteArray.data_append,Array.toList_append,this];simp
    go_wp2
    go_roundw
    case rel=>exact⟨i+1,_,by go_num,by omega,rfl,HE.out,HN⟩
    case measure=>simp[intOf];omega
  .have h1:¬(((i:Nat):Int)<((ss.length:Nat):Int)):=by omega
   have hie:i=ss.length:=(by omega);have Gq:=aQ hie;clear hie;go_wp2
   go_ret
   exact⟨so,rfl,by rw[HS.out,Gq.out,<-iy,dB],hE⟩
end
section
open Go.RowKit
open bO (fw GB iG rowOk fD fr)
theorem J9:(prog.info? 164).map (λi=>(i.zero,i.size))=some (some (.agg (Array.replicate 256 (.bool false))),256):=by kernel_rfl
theorem Bq{w:Nat}{s:ByteArray}:rowOk w (ll s)=(decide (1<=s.size) && decide (s.size<=8) && decide (s.size=w) && zW s):=by
 unfold rowOk zW;rw[jA]
set_option maxHeartbeats 2000000 in
theorem jU(v:Value)(ss:List ByteArray)(w:World)(h:Strs w v ss)(hl:ss.length<=1048576)(hs:∀s,s∈ss->s.size<=1048576):
 Calls prog 41 #[.agg #[v]] w λe w'=>e=.returned (.bool (iG (bd ss)))/\Ext w w':=by
 obtain⟨a,cap,rfl,hcap,p8⟩:=h.open;have hxb:Ext w (w.alloc (.cells #[.slice a ss.length cap] 31)):=by go_grown
 have hbb:=heap_alloc_new w (.cells #[.slice a ss.length cap] 31);by_cases h8:1<=ss.length/\ss.length<=8
 .have h0:0<ss.length:=by omega
  have hq1:¬(((ss.length:Nat):Int)<1):=by omega
  have hq2:¬((8:Int)<((ss.length:Nat):Int)):=by omega
  have H8:=aQ h8;clear h8;go_enter Tryz.func41,Tryz.ntmps41
  go_upto_region 1 with fail
  generalize w.alloc (.cells #[.slice a ss.length cap] 31)=W at *;generalize w.heap.size=p at *;obtain⟨b,off,rfl,hc⟩:=(h.ext hxb).at h0;have cz:=hc 0 h0;rw[mG]at cz;have hs0:=hs _ (ai h0);have c0:=cell_of_row W p 0 _ _ _ hbb;simp only[gE]at c0;obtain⟨s0,es0⟩:∃s0:ByteArray,ss[0]=s0:=⟨_,rfl⟩;rw[es0]at cz hs0;have ES0:=aQ es0;have HC:=aQ hc;clear es0 hc;by_cases hz:1<=s0.size/\s0.size<=8
  .have hq3:¬(((s0.size:Nat):Int)<1):=by omega
   have hq4:¬((8:Int)<((s0.size:Nat):Int)):=(by omega);have HZ:=aQ hz;clear hz;go_wp2
   go_loopw [4,34] (λ_ ii wr=>∃i:Nat,ii=.int .i64 ((i:Nat):Int)/\i<=ss.length/\Ext W wr/\Hid (∀j (hj:j<ss.length),j<i->rowOk ss[0].size (ll ss[j])=true)) (λ_ ii _=>ss.length-(intOf ii).toNat)
   case atStart=>exact⟨0,rfl,aJ _,Below.refl _ _,aQ λj _ h=>absurd h (by omega)⟩
   case round=>
    obtain⟨i,rfl,hi,hx,HP⟩:=hrel;by_cases hlt:i<ss.length
    .have h1:((i:Nat):Int)<((ss.length:Nat):Int):=by omega
     have ci:=(hx.cell (lt_of_cell (HC.out i hlt))).trans (HC.out i hlt);have cz':=(hx.cell (lt_of_cell cz)).trans cz;have cb':=(hx.cell (lt_of_cell c0)).trans c0;have fJ:=aQ hlt;have hsi:=hs _ (ai fJ.out);obtain⟨si,rU⟩:∃si:ByteArray,ss[i]'fJ.out=si:=⟨_,rfl⟩;rw[rU]at ci hsi;have EU:=aQ rU;have HX:=aQ hx;clear rU hx hlt;have Ld:=aQ (Bq (w:=s0.size) (s:=si));by_cases h2:si.size=s0.size
     .have h2':¬(((si.size:Nat):Int)≠((s0.size:Nat):Int)):=by omega
      have hne:(((si.size:Nat):Int) != ((s0.size:Nat):Int))=false:=(by simp;omega);have H2:=aQ h2;clear h2;have hsz2:(⟨#[46,35]⟩:ByteArray).size<4294967281:=(by decide);have hsz1:si.size<=9223372036854775807:=(by omega);have ha:∀(j:Nat) b,(⟨#[46,35]⟩:ByteArray).data.toList[j]?=some b->b.toNat<128:=by
       intro j b h;have:=jr h;simp at this;rcases this with rfl|rfl <;> decide
      have htr:=Nz si;cases hok:zW si with
      |true=>
       rw[hok]at htr;have aje:(Lib.trimS si.data.toList [46,35] != [])=false:=(by rw[bne,htr];rfl);have ajd:Lib.trimS si.data.toList [46,35]=[]:=beq_iff_eq.1 htr;have HOK:=aQ hok;clear hok;go_wp2_with (go_at_call 81;refine(Tryz.strings_Trim_laid si ⟨#[46,35]⟩ _ J9 hsz1 hsz2 ha).mono ?_;rintro e w1 ⟨rfl,hx1⟩)
       go_roundw
       case rel=>exact⟨i+1,by go_num,by have:=fJ.out;omega,ax HX.out (by exact hx1),aQ λj hj hji=>by
        by_cases e:j=i
        .subst e;rw[EU.out,ES0.out,Ld.out,HOK.out,decide_eq_true H2.out,H2.out,decide_eq_true HZ.out.1,decide_eq_true HZ.out.2];rfl
        .exact HP.out j hj (by omega)⟩
       case measure=>have:=fJ.out;simp[intOf];omega
      |false=>
       rw[hok]at htr;have aje:(Lib.trimS si.data.toList [46,35] != [])=true:=(by rw[bne,htr];rfl);have ajd:¬(Lib.trimS si.data.toList [46,35]=[]):=beq_eq_false_iff_ne.1 htr;have HOK:=aQ hok;clear hok;go_wp2_with (go_at_call 81;refine(Tryz.strings_Trim_laid si ⟨#[46,35]⟩ _ J9 hsz1 hsz2 ha).mono ?_;rintro e w1 ⟨rfl,hx1⟩)
       go_ret
       exact⟨fE (sP fJ.out h0 λe=>by rw[EU.out,ES0.out,Ld.out,HOK.out,Bool.and_false]at e;cases e).symm,ax hxb (ax HX.out (by exact hx1))⟩
     .have hne:(((si.size:Nat):Int) != ((s0.size:Nat):Int))=true:=by simp;omega
      have h2':((si.size:Nat):Int)≠((s0.size:Nat):Int):=(by omega);have H2:=aQ h2;clear h2;go_wp2
      go_ret
      exact⟨fE (sP fJ.out h0 λe=>by rw[EU.out,ES0.out,Ld.out,decide_eq_false H2.out]at e;simp at e).symm,ax hxb HX.out⟩
    .have h1:¬(((i:Nat):Int)<((ss.length:Nat):Int)):=by omega
     have fJ:=aQ hlt;have HX:=aQ hx;clear hlt hx;go_wp2
     go_ret
     exact⟨fE (F5 H8.out λj hj=>HP.out j hj (by have:=fJ.out;omega)).symm,ax hxb HX.out⟩
  .have HN:Hid (iG (bd ss)=false):=aQ (sP h0 h0 λe=>by
    rw[ES0.out,Bq]at e;simp only[dK,decide_eq_true_eq]at e;exact hz ⟨e.1.1.1,e.1.1.2⟩)
   have hz':s0.size<1\/8<s0.size:=(by omega);clear hz;rcases hz' with hz'|hz'
   .have hq3:(((s0.size:Nat):Int)<1):=by omega
    go_wp2
    go_ret
    exact⟨fE HN.out.symm,hxb⟩
   .have hq3:¬(((s0.size:Nat):Int)<1):=by omega
    have hq4:((8:Int)<((s0.size:Nat):Int)):=(by omega);go_wp2
    go_ret
    exact⟨fE HN.out.symm,hxb⟩
 .have HN:=aQ (F6 h8)
  have h8':ss.length<1\/8<ss.length:=by omega
  clear h8;rcases h8' with h8'|h8'
  .have hq3:(((ss.length:Nat):Int)<1):=by omega
   go_enter Tryz.func41,Tryz.ntmps41
   go_wp2
   go_ret
   exact⟨fE HN.out.symm,hxb⟩
  .have hq3:¬(((ss.length:Nat):Int)<1):=by omega
   have hq4:((8:Int)<((ss.length:Nat):Int)):=(by omega);go_enter Tryz.func41,Tryz.ntmps41
   go_wp2
   go_ret
   exact⟨fE HN.out.symm,hxb⟩
set_option maxHeartbeats 1000000 in
theorem sW(v:Value)(ss:List ByteArray)(hh ww:Nat)(w:World)(h:Strs w v ss)(g:GB (bd ss) hh ww):
 Calls prog 43 #[.agg #[v]] w λe w'=>∃so,e=.returned (.string so)/\ll so=fD (bd ss)/\Ext w w':=by
 obtain⟨a,cap,rfl,hcap,p8⟩:=h.open;have hxb:Ext w (w.alloc (.cells #[.slice a ss.length cap] 31)):=by go_grown
 have hh8:=g.h1;have hsl:=oh g;obtain⟨b,off,rfl,hc⟩:=(h.ext hxb).at (show 0<ss.length by omega);have hj:Lib.join (ss.map (·.data.toList)) (⟨#[47]⟩:ByteArray).data.toList=fD (bd ss):=J5 (bd ss);have hcells:∀(j:Nat) x,ss[j]?=some x->(w.alloc (.cells #[.slice (some ⟨b,off,none⟩) ss.length cap] 31)).cell? ⟨b,off+j,none⟩=some (.string x):=λj x hx=>by
  have hjl:=(cK.1 hx).1;rw[hc j hjl];rw[aa hjl]at hx;injection hx with hx;rw[hx]
 have hbk:=lt_of_cell (hc 0 (show 0<ss.length by omega));have hlen:(Lib.join (ss.map (·.data.toList)) (⟨#[47]⟩:ByteArray).data.toList).length<=140737488355328:=by
  rw[hj];have:=rW (b:=bd ss) λr hr=>by have:=(g.row r hr).1;have:=g.w1;omega
  have:=g.hgt;omega
 have HJ:=aQ hj;have HH:=aQ hsl;have hl8:ss.length<=8:=by omega
 clear hj hsl hc;go_enter Tryz.func43,Tryz.ntmps43
 go_wp2_with (go_at_call 85;refine(Tryz.strings_Join b off cap ss ⟨#[47]⟩ _ hcells hbk (by omega) hcap hlen).mono ?_;rintro e w1 ⟨rfl,hx1⟩)
 go_ret
 exact⟨_,rfl,HJ.out,ax hxb hx1⟩
def Hd(b:fw)(r c:Int):Bool:=decide (0<=r) && decide (0<=c) && fr b r.toNat c.toNat
set_option maxHeartbeats 2000000 in
theorem zO(v:Value)(ss:List ByteArray)(hh ww:Nat)(r c:Int)(w:World)(h:Strs w v ss)(g:GB (bd ss) hh ww)(hr:-100<=r/\r<=100)(hc:-100<=c/\c<=100):
 Calls prog 109 #[.agg #[v],.int .i64 r,.int .i64 c] w λe w'=>e=.returned (.bool (Hd (bd ss) r c))/\Ext w w':=by
 obtain⟨a,cap,rfl,hcap,p8⟩:=h.open;have hxb:Ext w (w.alloc (.cells #[.slice a ss.length cap] 31)):=by go_grown
 have hh8:=g.h1;have hw8:=g.w1;have hsl:=oh g;have h0l:0<ss.length:=by omega
 obtain⟨b,off,rfl,hcl⟩:=(h.ext hxb).at h0l;have cz:=hcl 0 h0l;rw[mG]at cz;have hs0:(ss[0]'h0l).size=ww:=og g h0l;obtain⟨s0,hS0⟩:∃s0,s0=ss[0]'h0l:=⟨_,rfl⟩;rw[<-hS0]at cz hs0;clear hS0;have hno:(r<0\/(hh:Int)<=r\/c<0\/(ww:Int)<=c)->Hd (bd ss) r c=false:=λhn=>by
  rw[l8];intro e;unfold Hd at e;simp only[dK,decide_eq_true_eq]at e;have:=g.Az e.2;omega
 have Sc:=aQ hno;have HSL:=aQ hsl;clear hno;by_cases h1:r<0
 .have q1:¬(0<=r):=by omega
  clear hsl;go_enter Tryz.func109,Tryz.ntmps109
  go_wp2
  go_ret
  exact⟨fE (Sc.out (.inl h1)).symm,hxb⟩
 have q1:0<=r:=by omega
 by_cases h2:(hh:Int)<=r
 .have q2:¬(r<((ss.length:Nat):Int)):=by omega
  clear hsl;go_enter Tryz.func109,Tryz.ntmps109
  go_wp2
  go_ret
  exact⟨fE (Sc.out (.inr (.inl h2))).symm,hxb⟩
 have q2:r<((ss.length:Nat):Int):=by omega
 by_cases h3:c<0
 .have q3:¬(0<=c):=by omega
  clear hsl;go_enter Tryz.func109,Tryz.ntmps109
  go_wp2
  go_ret
  exact⟨fE (Sc.out (.inr (.inr (.inl h3)))).symm,hxb⟩
 have q3:0<=c:=by omega
 by_cases h4:(ww:Int)<=c
 .have q4:¬(c<((s0.size:Nat):Int)):=by omega
  clear hsl hs0;go_enter Tryz.func109,Tryz.ntmps109
  go_wp2
  go_ret
  exact⟨fE (Sc.out (.inr (.inr (.inr h4)))).symm,hxb⟩
 have q4:c<((s0.size:Nat):Int):=by omega
 obtain⟨i,rfl⟩:∃i:Nat,r=((i:Nat):Int):=⟨r.toNat,by omega⟩;obtain⟨k,rfl⟩:∃k:Nat,c=((k:Nat):Int):=⟨c.toNat,by omega⟩;have hi:i<ss.length:=by omega
 have ci:=hcl i hi;have hsi:(ss[i]'hi).size=ww:=og g hi;have hkk:k<(ss[i]'hi).size:=by omega
 have hF:Hd (bd ss) ((i:Nat):Int) ((k:Nat):Int)=(((((ss[i]'hi)[k]'hkk).toNat:Nat):Int)== 46):=by
  unfold Hd fr;rw[decide_eq_true q1,decide_eq_true q3,dP,dP,bO.A7 (by rw[iy];exact hi),uH hi,K7 (by omega)];rw[jy];simp only[xB,beq_iff_eq];rw[<-UInt8.toNat_inj];have:(46:UInt8).toNat=46:=rfl;omega
 have HF:=aQ hF;clear hF;clear hsl hcl;generalize hSI:ss[i]'hi=si at *;clear hSI;go_enter Tryz.func109,Tryz.ntmps109
 go_wp2
 go_ret
 exact⟨fE HF.out.symm,hxb⟩
end
section
open Go.RowKit
open bO (fw GB fD fr wS rD pK can)
variable {W:World} {g:Nat} {l:List UInt8}
def Ck(W:World)(g:Nat)(l:List UInt8):Prop:=∃cs:Array Value,W.heap[g]?=some (.cells cs 5 (cs.size,cs.size+1))/\l.length<=cs.size/\∀j (h:j<l.length),cs[j]?=some (.int .u8 ((l[j]).toNat:Int))
theorem Ck.new(W:World)(s:ByteArray):Ck (Lib.bytesWorld W 5 s) W.heap.size s.data.toList:=by
 refine⟨_,Lib.bytesWorld_at_new W _ s,?_,λj hj=>?_⟩
 .unfold Lib.bytesCells;simp
 .unfold Lib.bytesCells
  have hj':j<s.data.size:=by simpa using hj
  rw[Array.getElem?_append,if_pos (by simpa using hj'),Array.getElem?_map];simp only[Array.getElem_toList];rw[lh hj'];rfl
theorem Ga{w:World}(h:Ext w W)(s:ByteArray):Ext w (Lib.bytesWorld W 5 s):=by
 have hz:=Lib.bytesWorld_size W 5 s;have hz':=h.size;have e:(Lib.bytesWorld W 5 s).os=W.os/\(Lib.bytesWorld W 5 s).tape=W.tape/\(Lib.bytesWorld W 5 s).output=W.output:=by
  unfold Lib.bytesWorld World.freeze;split <;> exact⟨rfl,rfl,rfl⟩
 exact ax h ⟨e.1,e.2.1,e.2.2,by omega,λk hk=>Lib.bytesWorld_at_old W _ s k hk⟩
theorem Ck.cell{W:World}{g:Nat}{l:List UInt8}(h:Ck W g l){k:Nat}(hk:k<l.length):W.cell? ⟨g,k,none⟩=some (.int .u8 ((l[k]).toNat:Int)):=by
 obtain⟨cs,h1,h2,h3⟩:=h;simp[World.cell?,h1,h3 k hk]
theorem Ck.frozen{W:World}{g:Nat}{l:List UInt8}(h:Ck W g l){k:Nat}(hk:k<l.length):W.frozen? ⟨g,k,none⟩=false:=by
 obtain⟨cs,h1,h2,h3⟩:=h;simp[World.frozen?,h1];omega
theorem Ck.keep{W':World}(h:Ck W g l)(hk:W'.heap[g]?=W.heap[g]?):Ck W' g l:=by
 obtain⟨cs,h1,h2,h3⟩:=h;exact⟨cs,hk.trans h1,h2,h3⟩
theorem Ck.lt(h:Ck W g l):g<W.heap.size:=by
 obtain⟨cs,h1,h2,h3⟩:=h;exact(fB.1 h1).1
theorem Ck.set{W:World}{g:Nat}{l:List UInt8}(h:Ck W g l){k:Nat}(hk:k<l.length)(x:UInt8)(n:Int)(hn:n=(x.toNat:Int)):Ck (W.setCell ⟨g,k,none⟩ (.int .u8 n)) g (l.set k x):=by
 obtain⟨cs,h1,h2,h3⟩:=h;subst hn;refine⟨cs.setIfInBounds k (.int .u8 (x.toNat:Int)),?_,by simpa using h2,λj hj=>?_⟩
 .have hlt:g<W.heap.size:=(fB.1 h1).1
  unfold World.setCell;simp[Array.getElem?_modify,h1]
 .rw[eO]at hj
  rw[Array.getElem?_setIfInBounds];by_cases e:k=j
  .subst e
   rw[if_pos rfl,if_pos (by omega)];simp
  .rw[if_neg e,h3 j hj];simp[e]
theorem Ck.back{n cap:Nat}(h:Ck W g l)(hn:n=l.length):(convert 38 9 (.slice (some ⟨g,0,none⟩) n cap)).run prog W=.ok (.string ⟨l.toArray⟩) W:=by
 subst hn;refine run_convert_bytes_back W _ _ 5 _ cap l underlying38 underlying5 underlying9 λj hj=>?_
 have:(⟨g,0,none⟩:Addr).add j=⟨g,j,none⟩:=by unfold Addr.add;split <;> simp_all
 rw[this];exact h.cell hj
end
end Go.Proofs.YteknjeohbcgpdaaGreatDoor