/- 15 -/
import Derived.Test.YtplgooajigigkaaGreatDoorQ14
import Derived.Lib.SlicesS
set_option maxRecDepth 100000
set_option maxHeartbeats 4000000
namespace Go.Proofs.YtplgooajigigkaaGreatDoor
open Tryz
section
open Go.RowKit
open aZ (cZ Nd vl Same)
theorem Sa{w:World}{base e g n cap:Nat}{l:List Int}(h:w.ownsRow base e 1 (.slice (some ⟨g,0,none⟩) n cap) n (l.map (Value.int .i64))){k:Nat}(hk:k<n):w.cell? ⟨g,k,none⟩=some (.int .i64 (dD l k)):=by
 have hl:=h.1;rw[h.cellAt k (by omega)];have:k<l.length:=by rw[bH]at hl;omega
 simp[dD,this]
end
section
open Go.RowKit
open aZ (cZ Nd vl Same)
variable {w:World} {B n:Nat} {v:Value} {sl:Nat->Value} {ls:Nat->List Int} {P:Program} {fn:Func} {p u:Tmp} {ty:TypeId}
structure FO(w:World)(B:Nat)(v:Value)(n:Nat)(sl:Nat->Value)(ls:Nat->List Int):Prop where
 row:∃xs,w.ownsRow B 91 2 v n xs/\∀j,j<2*n->xs[j]?=some (sl j)
 own:∀j,j<2*n->w.ownsRow B 3 1 (sl j) (ls j).length ((ls j).map (Value.int .i64))
 ap:∀i j,i<2*n->j<2*n->i≠j->∀b,(sl i).ownBlock=some b->(sl j).ownBlock≠some b
 ap0:∀j,j<2*n->∀b,(sl j).ownBlock=some b->v.ownBlock≠some b
def vS(F:cZ)(j:Nat):List Int:=if j % 2=0 then bV (F.getD (j / 2) ([],[])).1 else bV (F.getD (j / 2) ([],[])).2
theorem FO.BP{w':World}{G:Nat->Prop}(h:FO w B v n sl ls)(hk:dW G w w')(hG:∀b,G b->b<B):FO w' B v n sl ls:=by
 obtain⟨xs,h1,h2⟩:=h.row;exact⟨⟨xs,aV h1 hk (λb hb g=>by have:=hG b g;have:=(h1.lt b hb).1;omega),h2⟩,λj hj=>aV (h.own j hj) hk (λb hb g=>by have:=hG b g;have:=((h.own j hj).lt b hb).1;omega),h.ap,h.ap0⟩
theorem FO.top(h:FO w B v n sl ls):∃a c,v=.slice a n c:=by
 obtain⟨xs,h1,_⟩:=h.row;obtain⟨a,c,h,_⟩:=bu h1;exact⟨a,c,h⟩
theorem FO.nodes{F:cZ}(h:FO w B v F.length sl (vS F))(hs:∀j,j<2*F.length->(vS F j).length<=1152921504606846976)(hl:F.length<=maxLen):eZ w 0 v F:=by
 obtain⟨xs,h1,h2⟩:=h.row;refine eZ.dX (K:=λ_=>False) (Bp h1 (az _)) (λi hi=>?_);have g:F.getD i ([],[])=F[i]:=by rw[aO,ae hi];rfl
 have e0:vS F (2*i)=bV (F[i]).1:=by unfold vS;rw[if_pos (by omega),show 2*i / 2=i by omega,g]
 have e1:vS F (2*i+1)=bV (F[i]).2:=by unfold vS;rw[if_neg (by omega),show(2*i+1) / 2=i by omega,g]
 have o0:=h.own (2*i) (by omega);have o1:=h.own (2*i+1) (by omega);have s0:=hs (2*i) (by omega);have s1:=hs (2*i+1) (by omega);rw[e0]at o0 s0;rw[e1]at o1 s1;exact⟨sl (2*i),sl (2*i+1),by rw[kP];exact h2 _ (by omega),by rw[kP];exact h2 _ (by omega),Ints.dX o0 s0,Ints.dX o1 s1,λb hb=>⟨az _,(o0.lt b hb).2,id⟩,λb hb=>⟨az _,(o1.lt b hb).2,id⟩⟩
theorem zY(h:fn.results=#[.cell p ty,.tmp u])(tmps:Array Value)(w:World)(g:Nat)(t:TypeId)(cs:Array Value)(fr:Nat × Nat)(d:TypeDesc)
 (hp:tmps.getD p undef=.pointer (some ⟨g,0,none⟩)) (hg:w.heap[g]?=some (.cells cs t fr))
 (hu:P.underlying ty=some d) (hd:(match d with | .struct _ | .array _ _=>true|_=>false)=true) (hi:(P.info? ty).map (·.size)=some cs.size) (hv:tmps.getD u undef=v):
 (results fn tmps).run P w=.ok (.tuple #[.agg cs,v]) w:=by
 have hp':tmps[p]?.getD undef=.pointer (some ⟨g,0,none⟩):=by simpa using hp
 subst hv;rw[results_cell_tmp h];simp[hp',asAddr,run_loadVar_row w g t ty cs fr d hg hu hd hi]
theorem tO{R:Ending->World->Prop}{a:Act}{d:TypeDesc}(g:Nat)(t:TypeId)(cs:Array Value)(hg:w.heap[g]?=some (.cells cs t (0,0)))(hu:P.underlying ty=some d)
 (hR:R (.returned (.tuple #[.agg cs,v])) w) (h:fn.results=#[.cell p ty,.tmp u]:=by exact rfl) (hp:a.tmps.getD p undef=.pointer (some ⟨g,0,none⟩):=by exact rfl) (hd:(match d with | .struct _ | .array _ _=>true|_=>false)=true:=by exact rfl) (hi:(P.info? ty).map (·.size)=some cs.size:=by kernel_rfl) (hv:a.tmps.getD u undef=v:=by exact rfl) (hq:a.defers=[]:=by exact rfl):bodyPost P fn R .ret a w:=
 bodyPost_ret (zY h a.tmps w g t cs (0,0) d hp hg hu hd hi hv) hq hR
end
section
open Go.RowKit
theorem qU{A:List Int}{n k:Nat}(x:Int)(hA:A.length=k)(hk:k<n):(A++List.replicate (n-k) (0:Int)).set k x=(A++[x])++List.replicate (n-(k+1)) 0:=by
 subst hA;rw[qJ _ _ (ax _),Nat.sub_self,show n-A.length=(n-(A.length+1))+1 by omega,List.replicate_succ,List.set_cons_zero,dh];rfl
end
section
open Go.RowKit
open aZ (cZ Nd vl Same)
variable {w wr:World} {vu vo:Value} {sb so:ByteArray} {n k e:Nat} {al ou us:List Int} {s:List UInt8}
def NT(us:List Int)(s:List UInt8)(e:Nat)(w:World)(en:Ending)(w':World):Prop:=
 ∃vo so,en=.returned (.agg #[vo,.string so])/\Ints w' vo (iJ us s e)/\so.data.toList=lW us s e/\(∀b,vo.ownBlock=some b->w.heap.size<=b/\b<w'.heap.size)/\Ext w w'
structure CM(w wr:World)(vu:Value)(sb:ByteArray)(n:Nat)(al:List Int)(vo:Value)(ou:List Int)(so:ByteArray):Prop where
 ext:Ext w wr
 box:wr.heap[w.heap.size]?=some (.cells #[vu,.string sb] 43 (0,0))
 res:wr.heap[w.heap.size+1]?=some (.cells #[.slice none 0 0,.string ⟨#[]⟩] 43 (0,0))
 out:wr.heap[w.heap.size+1+1]?=some (.cells #[vo,.string so] 43 (0,0))
 at_:wr.ownsRow w.heap.size 3 1 (.slice (some ⟨w.heap.size+1+1+1,0,none⟩) n n) n (al.map (Value.int .i64))
 ou:wr.ownsRow w.heap.size 3 1 vo ou.length (ou.map (Value.int .i64))
 sep:∀b,vo.ownBlock=some b->w.heap.size+1+1+1<b
theorem CM.set{w wr:World}{vu:Value}{sb:ByteArray}{n:Nat}{al:List Int}{vo:Value}{ou:List Int}{so:ByteArray}(h:CM w wr vu sb n al vo ou so)(k:Nat)(x:Int):
 CM w (wr.setCell ⟨w.heap.size+1+1+1,k,none⟩ (.int .i64 x)) vu sb n (al.set k x) vo ou so:=by
 have hs:=(h.at_.stored k (.int .i64 x)).1;rw[<-uf]at hs;refine⟨oG h.ext (w.heap.size+1+1+1) k _,?_,?_,?_,hs,?_,h.sep⟩
 .rw[jH _ _ _ _ (by simp <;> omega)];exact h.box
 .rw[jH _ _ _ _ (by simp <;> omega)];exact h.res
 .rw[jH _ _ _ _ (by simp <;> omega)];exact h.out
 .exact aV h.ou (dx (p:=⟨w.heap.size+1+1+1,k,none⟩)) (λb hb e=>by have:=h.sep b hb;simp at e;omega)
theorem CM.put{w1:World}{Gt:Value}{X:Obj}{x:Int}(h:CM w wr vu sb n al vo ou so)
 (ho:w1.ownsRow w.heap.size 3 1 Gt (ou.length+1) (ou.map (Value.int .i64)++[.int .i64 x])) (hg:(wr.alloc X).grownBy w1 vo.ownBlock) (hl:lY (wr.alloc X) vo Gt):
 CM w (w1.setCell ⟨w.heap.size+1+1,0,none⟩ Gt) vu sb n al Gt (ou++[x]) so/\w1.cell? ⟨w.heap.size+1+1,0,none⟩=some vo/\w1.frozen? ⟨w.heap.size+1+1,0,none⟩=false:=by
 have hz:=bq h.box;have z1:=bq h.res;have z2:=bq h.out;have z3:=(h.at_.lt (w.heap.size+1+1+1) rfl).2;have zz:=hg.size;rw[eX]at zz;have hbk:∀k,k<w.heap.size+4->w1.heap[k]?=wr.heap[k]?:=λk hk=>by
  rw[hg.block k (by rw[eX];omega) (λe=>by have:=h.sep k e.symm;omega),gI _ _ _ (by omega)]
 have zP:∀b,Gt.ownBlock=some b->w.heap.size+1+1+1<b:=λb hb=>by
  rcases hl with h1|⟨g,h1,h2⟩
  .exact h.sep b (by rw[<-h1];exact hb)
  .rw[h1]at hb;injection hb with hb;subst hb;rw[eX]at h2;omega
 have hx:w1.heap[w.heap.size+1+1]?=some (.cells #[vo,.string so] 43 (0,0)):=by rw[hbk _ (by omega)];exact h.out
 refine⟨?_,bI w1 (w.heap.size+1+1) 0 _ _ _ hx,iW w1 (w.heap.size+1+1) 0 _ _ hx⟩;refine⟨oG (dw (bJ h.ext X) hg (λk hk=>by have:=h.sep k hk;omega)) (w.heap.size+1+1) 0 _,?_,?_,?_,?_,?_,zP⟩
 .rw[jH _ _ _ _ (by simp <;> omega),hbk _ (by omega)];exact h.box
 .rw[jH _ _ _ _ (by simp <;> omega),hbk _ (by omega)];exact h.res
 .have:=h.out;rw[<-hbk _ (by omega)]at this
  exact iV _ _ _ _ _ _ this
 .refine aV (aV (bW h.at_ (bJ (fJ _ _) X)) (G:=λb=>vo.ownBlock=some b) ⟨hg.os,hg.tape,hg.output,hg.size,λk hk hn=>hg.block k hk (λe=>hn e.symm)⟩ (λb hb e=>?_)) (dx (p:=⟨w.heap.size+1+1,0,none⟩)) (λb hb e=>?_)
  .have:=h.sep b e;simp[Value.ownBlock]at hb;omega
  .simp[Value.ownBlock]at hb;simp at e;omega
 .have:(ou++[x]).map (Value.int .i64)=ou.map (Value.int .i64)++[.int .i64 x]:=by simp
  rw[this,aK];exact aV ho (dx (p:=⟨w.heap.size+1+1,0,none⟩)) (λb hb e=>by have:=zP b hb;simp at e;omega)
theorem CM.sign(h:CM w wr vu sb n al vo ou so)(so':ByteArray):
 CM w (wr.setCell ⟨w.heap.size+1+1,1,none⟩ (.string so')) vu sb n al vo ou so':=by
 refine⟨oG h.ext (w.heap.size+1+1) 1 _,?_,?_,?_,?_,?_,h.sep⟩
 .rw[jH _ _ _ _ (by simp <;> omega)];exact h.box
 .rw[jH _ _ _ _ (by simp <;> omega)];exact h.res
 .exact iV _ _ _ _ _ _ h.out
 .exact aV h.at_ (dx (p:=⟨w.heap.size+1+1,1,none⟩)) (λb hb e=>by simp[Value.ownBlock]at hb;simp at e;omega)
 .exact aV h.ou (dx (p:=⟨w.heap.size+1+1,1,none⟩)) (λb hb e=>by have:=h.sep b hb;simp at e;omega)
theorem CM.drew{w wr:World}{vu:Value}{sb:ByteArray}{n:Nat}{al:List Int}{vo:Value}{ou:List Int}{so:ByteArray}(h:CM w wr vu sb n al vo ou so):CM w wr.drew vu sb n al vo ou so:=
 ⟨dG h.ext 1,h.box,h.res,h.out,h.at_,h.ou,h.sep⟩
theorem XQ(h:k+1<=sb.size):(sb.extract k (k+1)).data.toList=[sb.data.toList.getD k 0]:=by
 have hk:k<sb.data.toList.length:=by have:sb.size=sb.data.size:=rfl;simp;omega
 rw[ByteArray.data_extract,Array.toList_extract,aO,ae hk,gM];rw[List.extract,show k+1-k=1 by omega,fQ hk];rfl
theorem Jk(h:k=e\/(0<=dD us k/\dD (cutAt us s e k).1 (dD us k).toNat=-2)):cutAt us s e (k+1)=((cutAt us s e k).1++[-2],(cutAt us s e k).2.1,(cutAt us s e k).2.2):=by
 rw[cutAt,if_pos h]
theorem yu(h:¬(k=e\/(0<=dD us k/\dD (cutAt us s e k).1 (dD us k).toNat=-2))):cutAt us s e (k+1)=((cutAt us s e k).1++[((cutAt us s e k).2.1.length:Int)],(cutAt us s e k).2.1++[if 0<=dD us k then dD (cutAt us s e k).1 (dD us k).toNat else -1],(cutAt us s e k).2.2++[s.getD k 0]):=by
 rw[cutAt,if_neg h]
theorem CM.dropped(hM:CM w wr vu sb n (((cutAt us s e k).1++List.replicate (n-k) (0:Int)).set k (-2)) vo (cutAt us s e k).2.1 so)(hA:(cutAt us s e k).1.length=k)(hk:k<n)(hso:so.data.toList=(cutAt us s e k).2.2)
 (h:k=e\/(0<=dD us k/\dD (cutAt us s e k).1 (dD us k).toNat=-2)):CM w wr vu sb n ((cutAt us s e (k+1)).1++List.replicate (n-(k+1)) 0) vo (cutAt us s e (k+1)).2.1 so/\so.data.toList=(cutAt us s e (k+1)).2.2:=by
 rw[qU _ hA hk]at hM;rw[Jk h];exact⟨hM,hso⟩
theorem KP(vu:Value)(us:List Int)(sb:ByteArray)(e:Nat)(w:World)(hv:Ints w vu us)(g:GT us sb.data.toList)(he:e<us.length):
 Calls prog 137 #[.agg #[vu,.string sb],.int .i64 (e:Int)] w (NT us sb.data.toList e w):=by
 obtain⟨i0,hi0,hz0,hz1,hz2⟩:=info_parts fB;obtain⟨au,jm,rfl,hlc,hcap,hc⟩:=id hv;have Pj:=g.small;generalize hn:us.length=n at *;have hmk:=λw:World=>run_make (P:=prog) w 41 3 i0 (.int .i64 0) underlying41 hi0 hz0 .i64 .i64 (n:Int) (n:Int) (by omega) (by omega) (by rw[hz2];omega) (by omega)
 simp only[hz1,jo,eB]at hmk;go_enter Tryz.func137,Tryz.ntmps137
 go_wp2
 generalize hs:sb.data.toList=s at *;have hst:CM w ((((w.alloc (.cells #[.slice au n jm,.string sb] 43)).alloc (.cells #[.slice none 0 0,.string ⟨#[]⟩] 43)).alloc (.cells #[.slice none 0 0,.string ⟨#[]⟩] 43)).alloc (.cells (madeCells #[Value.int .i64 0] n) 3)) (.slice au n jm) sb n (List.replicate n 0) (.slice none 0 0) [] ⟨#[]⟩:=by
  refine⟨by go_grown,?_,?_,?_,?_,?_,by simp[Value.ownBlock]⟩
  .rw[gI _ _ _ (by simp <;> omega),gI _ _ _ (by simp <;> omega),gI _ _ _ (by simp)];exact dV _ _
  .rw[gI _ _ _ (by simp <;> omega),gI _ _ _ (by simp)];have h:=dV (w.alloc (.cells #[.slice au n jm,.string sb] 43)) (.cells #[.slice none 0 0,.string ⟨#[]⟩] 43);rw[eX]at h;exact h
  .rw[gI _ _ _ (by simp)];have h:=dV ((w.alloc (.cells #[.slice au n jm,.string sb] 43)).alloc (.cells #[.slice none 0 0,.string ⟨#[]⟩] 43)) (.cells #[.slice none 0 0,.string ⟨#[]⟩] 43);rw[eX,eX]at h;exact h
  .have h:=World.ownsRow_lit (((w.alloc (.cells #[.slice au n jm,.string sb] 43)).alloc (.cells #[.slice none 0 0,.string ⟨#[]⟩] 43)).alloc (.cells #[.slice none 0 0,.string ⟨#[]⟩] 43)) (base:=w.heap.size) (madeCells #[Value.int .i64 0] n) n (e:=3) (size:=1) (by simp;omega) (by unfold maxLen;omega) (by rw[size_madeCells];simp)
   rw[sG]at h
   simpa using h
  .exact⟨by simp,.inl ⟨rfl,rfl⟩⟩
 generalize ((((w.alloc (.cells #[.slice au n jm,.string sb] 43)).alloc (.cells #[.slice none 0 0,.string ⟨#[]⟩] 43)).alloc (.cells #[.slice none 0 0,.string ⟨#[]⟩] 43)).alloc (.cells (madeCells #[Value.int .i64 0] n) 3))=W0 at *;clear hmk;go_loopw [7] (λii wr=>∃k vo so,k<=n/\ii=.int .i64 ((k:Nat):Int)/\CM w wr (.slice au n jm) sb n ((cutAt us s e k).1++List.replicate (n-k) 0) vo (cutAt us s e k).2.1 so/\so.data.toList=(cutAt us s e k).2.2) (λii _=>n-(intOf ii).toNat)
 case atStart=>exact⟨0,_,_,az _,rfl,by simpa [cutAt]using hst,rfl⟩
 case round=>
  clear hst;obtain⟨k,vo,so,hk,rfl,hM,hso⟩:=hrel;have cbx:=bI wr w.heap.size 0 _ _ _ hM.box;by_cases hlt:k<n
  .have h1:((k:Nat):Int)<(n:Int):=by omega
   have I:=yw g e k (by omega);have hu:=g.up k (by omega);obtain⟨b,off,rfl,hcell⟩:=hc (by omega);have hal:((cutAt us s e k).1++List.replicate (n-k) (0:Int)).length=n:=(by simp[I.len];omega);have ck:=hM.at_.cellAt k (by omega);rw[bO,ae (by omega),eT]at ck;have fk:=hM.at_.frozenAt k;have hM1:=hM.set k (-2);go_upto_region 7 with(fail)
   generalize wr.setCell ⟨w.heap.size+1+1+1,k,none⟩ (.int .i64 (-2))=W1 at *;clear ck fk;have fH:=hM1.ext;have cb0:=bI W1 w.heap.size 0 _ _ _ hM1.box;have cb1:=bI W1 w.heap.size 1 _ _ _ hM1.box;have cu:=dP fH (hcell k hlt);by_cases hke:k=e
   .subst hke
    have HR:=aI (hM1.dropped I.len hlt hso (.inl rfl));clear hM1 hM;go_wp2
    go_roundw
    case rel=>exact⟨k+1,_,so,by omega,by go_num,HR.out.1,HR.out.2⟩
    case measure=>simp[intOf];omega
   .have e1:((k:Int)== (e:Int))=false:=by simp;omega
    by_cases hu0:0<=dD us k
    .obtain⟨j,hj⟩:∃j:Nat,dD us k=(j:Int):=⟨(dD us k).toNat,by omega⟩
     rw[hj]at cu hu0 hu;have hjk:j<k:=(by omega);have ca:=hM1.at_.cellAt j (by omega);rw[bO,nG (by omega),bQ (by rw[I.len];omega),ae (by rw[I.len];omega),eT,<-kW]at ca;by_cases hd:dD (cutAt us s e k).1 j=-2
     .have HR:=aI (hM1.dropped I.len hlt hso (.inr (by rw[hj];exact⟨hu0,by rw[eB];exact hd⟩)))
      rw[hd]at ca;clear hM1 hM;go_wp2
      go_roundw
      case rel=>exact⟨k+1,_,so,by omega,by go_num,HR.out.1,HR.out.2⟩
      case measure=>simp[intOf];omega
     .have hd1:(dD (cutAt us s e k).1 j == -2)=false:=by simpa using hd
      have HD:=aI hd;clear hd;have HC:Hid (cutAt us s e (k+1)=((cutAt us s e k).1++[((cutAt us s e k).2.1.length:Int)],(cutAt us s e k).2.1++[dD (cutAt us s e k).1 j],(cutAt us s e k).2.2++[s.getD k 0])):=by
       have:=yu (us:=us) (s:=s) (e:=e) (k:=k) (by rw[hj,eB];exact λh=>h.elim hke (λh=>HD.out h.2));rw[hj,if_pos hu0,eB]at this;exact this
      generalize dD (cutAt us s e k).1 j=X at *;obtain⟨av,cv,rfl,hcv,_⟩:=bu hM1.ou;have c0:=bI W1 (w.heap.size+1+1) 0 _ _ _ hM1.out;have ck1:=hM1.at_.cellAt k (by omega);rw[bO,ae (by rw[ql];omega),eT]at ck1;have fk1:=hM1.at_.frozenAt k;have hM2:=hM1.set k ((cutAt us s e k).2.1.length:Int);have hol:=I.le;go_upto_region 12 with(fail)
      generalize W1.setCell ⟨w.heap.size+1+1+1,k,none⟩ (.int .i64 ((cutAt us s e k).2.1.length:Int))=W2 at *;clear c0 ck1 fk1 cb0 cb1 cu fH;have c0:=bI W2 (w.heap.size+1+1) 0 _ _ _ hM2.out;have hE2:=hM2.ext.size;go_upto_region 13 with(at_builtin;(refine dm rfl (.tmp 67) (.tmp 69) 41 rfl w.heap.size 3 i0 (.int .i64 0) 1 8 underlying41 hi0 hz0 hz1 hz2 rfl (by decide) (.slice av (cutAt us s e k).2.1.length cv) (cutAt us s e k).2.1.length ((cutAt us s e k).2.1.map (Value.int .i64)) rfl (hM2.ou.alloc _) _ 1 _ [.int .i64 X] rfl rfl (.inr ⟨_,rfl,dA (bY _ _ _)⟩) one_cell (by unfold maxLen;omega) (by omega) (by rw[eX];omega) ?_;intro v5 w5 ji hg5 hl5;obtain⟨a5,c5,rfl,-⟩:=bu ji;obtain⟨oD,Zb,f50⟩:=hM2.put ji hg5 hl5))
      generalize w5.setCell ⟨w.heap.size+1+1,0,none⟩ (.slice a5 ((cutAt us s e k).2.1.length+1) c5)=W3 at *;have hdr:W3.heap[w.heap.size]?=W3.heap[w.heap.size]?:=rfl;have d0:=bI W3 w.heap.size 1 _ _ _ oD.box;have d1:=bI W3 (w.heap.size+1+1) 1 _ _ _ oD.out;have f1:=iW W3 (w.heap.size+1+1) 1 _ _ oD.out;have hkb:k+1<=sb.size:=(by have:=g.len;rw[<-hs]at this;simp at this;rw[hn]at this;have:sb.size=sb.data.size:=rfl;omega);have hsz:so.size<=8:=(by have:=I.same;rw[<-hso]at this;simp at this;have:so.size=so.data.size:=rfl;omega);have hez:(sb.extract k (k+1)).size=1:=(by rw[je];omega);have Ca:so.size+(sb.extract k (k+1)).size<=9223372036854775807:=(by omega);have abk:=λW:World=>run_string_add_sum (P:=prog) (w:=W) so (sb.extract k (k+1)) Ca
      clear hez;clear Zb f50 ji hg5 hl5 hdr c0;have JC:=aI oD;clear oD hM2 hM1 hM;have HR:Hid (∀W,CM w W (.slice (some ⟨b,off,none⟩) n jm) sb n ((((cutAt us s e k).1++List.replicate (n-k) (0:Int)).set k (-2)).set k ((cutAt us s e k).2.1.length:Int)) (.slice a5 ((cutAt us s e k).2.1.length+1) c5) ((cutAt us s e k).2.1++[X]) (so++sb.extract k (k+1))->CM w W (.slice (some ⟨b,off,none⟩) n jm) sb n ((cutAt us s e (k+1)).1++List.replicate (n-(k+1)) 0) (.slice a5 ((cutAt us s e k).2.1.length+1) c5) (cutAt us s e (k+1)).2.1 (so++sb.extract k (k+1))/\(so++sb.extract k (k+1)).data.toList=(cutAt us s e (k+1)).2.2):=λW h=>by
       rw[List.set_set,qU _ I.len hlt]at h;rw[HC.out];refine⟨h,?_⟩;rw[kG,lU,hso];congr 1;rw[XQ (by omega),hs]
      go_region
      go_wp2_with (fail)
      go_roundw
      case rel=>exact⟨k+1,_,_,by omega,by go_num,(HR.out _ (JC.out.sign _).drew).1,(HR.out _ (JC.out.sign _).drew).2⟩
      case measure=>simp[intOf];omega
    .have hu1:decide (0<=dD us k)=false:=by simpa using hu0
     have HC:Hid (cutAt us s e (k+1)=((cutAt us s e k).1++[((cutAt us s e k).2.1.length:Int)],(cutAt us s e k).2.1++[-1],(cutAt us s e k).2.2++[s.getD k 0])):=by
      have:=yu (us:=us) (s:=s) (e:=e) (k:=k) (λh=>h.elim hke (λh=>hu0 h.1));rw[if_neg hu0]at this;exact this
     obtain⟨av,cv,rfl,hcv,_⟩:=bu hM1.ou;have c0:=bI W1 (w.heap.size+1+1) 0 _ _ _ hM1.out;have ck1:=hM1.at_.cellAt k (by omega);rw[bO,ae (by rw[ql];omega),eT]at ck1;have fk1:=hM1.at_.frozenAt k;have hM2:=hM1.set k ((cutAt us s e k).2.1.length:Int);have hol:=I.le;go_upto_region 12 with(fail)
     generalize W1.setCell ⟨w.heap.size+1+1+1,k,none⟩ (.int .i64 ((cutAt us s e k).2.1.length:Int))=W2 at *;clear c0 ck1 fk1 cb0 cb1 cu fH;have c0:=bI W2 (w.heap.size+1+1) 0 _ _ _ hM2.out;have hE2:=hM2.ext.size;go_upto_region 13 with(at_builtin;(refine dm rfl (.tmp 67) (.tmp 69) 41 rfl w.heap.size 3 i0 (.int .i64 0) 1 8 underlying41 hi0 hz0 hz1 hz2 rfl (by decide) (.slice av (cutAt us s e k).2.1.length cv) (cutAt us s e k).2.1.length ((cutAt us s e k).2.1.map (Value.int .i64)) rfl (hM2.ou.alloc _) _ 1 _ [.int .i64 (-1)] rfl rfl (.inr ⟨_,rfl,dA (bY _ _ _)⟩) one_cell (by unfold maxLen;omega) (by omega) (by rw[eX];omega) ?_;intro v5 w5 ji hg5 hl5;obtain⟨a5,c5,rfl,-⟩:=bu ji;obtain⟨oD,Zb,f50⟩:=hM2.put ji hg5 hl5))
     generalize w5.setCell ⟨w.heap.size+1+1,0,none⟩ (.slice a5 ((cutAt us s e k).2.1.length+1) c5)=W3 at *;have hdr:W3.heap[w.heap.size]?=W3.heap[w.heap.size]?:=rfl;have d0:=bI W3 w.heap.size 1 _ _ _ oD.box;have d1:=bI W3 (w.heap.size+1+1) 1 _ _ _ oD.out;have f1:=iW W3 (w.heap.size+1+1) 1 _ _ oD.out;have hkb:k+1<=sb.size:=(by have:=g.len;rw[<-hs]at this;simp at this;rw[hn]at this;have:sb.size=sb.data.size:=rfl;omega);have hsz:so.size<=8:=(by have:=I.same;rw[<-hso]at this;simp at this;have:so.size=so.data.size:=rfl;omega);have hez:(sb.extract k (k+1)).size=1:=(by rw[je];omega);have Ca:so.size+(sb.extract k (k+1)).size<=9223372036854775807:=(by omega);have abk:=λW:World=>run_string_add_sum (P:=prog) (w:=W) so (sb.extract k (k+1)) Ca
     clear hez;clear Zb f50 ji hg5 hl5 hdr c0;have JC:=aI oD;clear oD hM2 hM1 hM;have HR:Hid (∀W,CM w W (.slice (some ⟨b,off,none⟩) n jm) sb n ((((cutAt us s e k).1++List.replicate (n-k) (0:Int)).set k (-2)).set k ((cutAt us s e k).2.1.length:Int)) (.slice a5 ((cutAt us s e k).2.1.length+1) c5) ((cutAt us s e k).2.1++[-1]) (so++sb.extract k (k+1))->CM w W (.slice (some ⟨b,off,none⟩) n jm) sb n ((cutAt us s e (k+1)).1++List.replicate (n-(k+1)) 0) (.slice a5 ((cutAt us s e k).2.1.length+1) c5) (cutAt us s e (k+1)).2.1 (so++sb.extract k (k+1))/\(so++sb.extract k (k+1)).data.toList=(cutAt us s e (k+1)).2.2):=λW h=>by
      rw[List.set_set,qU _ I.len hlt]at h;rw[HC.out];refine⟨h,?_⟩;rw[kG,lU,hso];congr 1;rw[XQ (by omega),hs]
     go_region
     go_wp2_with (fail)
     go_roundw
     case rel=>exact⟨k+1,_,_,by omega,by go_num,(HR.out _ (JC.out.sign _).drew).1,(HR.out _ (JC.out.sign _).drew).2⟩
     case measure=>simp[intOf];omega
  .have h1:¬(((k:Nat):Int)<(n:Int)):=by omega
   have c0:=bI wr (w.heap.size+1+1) 0 _ _ _ hM.out;have c1:=bI wr (w.heap.size+1+1) 1 _ _ _ hM.out;have r0:=bI wr (w.heap.size+1) 0 _ _ _ hM.res;have r1:=bI wr (w.heap.size+1) 1 _ _ _ hM.res;have f0:=iW wr (w.heap.size+1) 0 _ _ hM.res;have f1:=iW wr (w.heap.size+1) 1 _ _ hM.res;have hke:k=n:=(by omega);subst hke;obtain⟨av,cv,rfl,-⟩:=bu hM.ou;have HM:=aI hM;have hr:=hM.res
   have HH:Hid (((wr.setCell ⟨w.heap.size+1,0,none⟩ (.slice av (cutAt us s e k).2.1.length cv)).setCell ⟨w.heap.size+1,1,none⟩ (.string so)).heap[w.heap.size+1]?=some (.cells #[.slice av (cutAt us s e k).2.1.length cv,.string so] 43 (0,0))):=
    iV _ _ _ _ _ _ (iV _ _ _ _ _ _ hr)
   clear hM hr;go_wp2
   (try simp only[Exit.inBlock,Exit.then]);refine bodyPost_ret (results_cell_row rfl _ _ (w.heap.size+1) 43 #[.slice av (cutAt us s e k).2.1.length cv,.string so] (0,0) _ rfl HH.out underlying43 rfl (by kernel_rfl)) rfl ?_;have hM:=HM.out;have hI:=Ints.dX hM.ou (by have:=(yw g e k (by omega)).le;omega);have hsz:=hM.ou.lt;refine⟨_,so,rfl,?_,?_,λb hb=>⟨by have:=hM.sep b hb;omega,by simp;exact(hsz b hb).2⟩,oG (oG hM.ext (w.heap.size+1) 0 _) (w.heap.size+1) 1 _⟩
   .unfold iJ
    rw[hn];exact hI.keep (λb _ hb=>by rw[jH _ _ _ _ (by have:=hM.sep b hb;simp <;> omega),jH _ _ _ _ (by have:=hM.sep b hb;simp <;> omega)])
   .unfold lW
    rw[hn,hso]
end
section
open Go.RowKit
open aZ (bG bT)
def eG(t p:Int):Bool:=wD t (-1000000) 1000000 && (wD p 0 16 && (p == 0 || !decide (t % 2=0)))
theorem ES(a:Int):(a.tmod 2 != 0)=!decide (a % 2=0):=by rw[bne,xJ]
theorem jV{t p:Int}:eG t p=true↔-1000000<=t/\t<=1000000/\0<=p/\p<=16/\(p=0\/t % 2≠0):=by
 simp only[eG,wD,dS,decide_eq_true_eq,qm,beq_iff_eq,lu,decide_eq_false_iff_not,and_assoc,ne_eq]
theorem rX(w:World)(x y:Value)(T:TypeId):(w.alloc (.cells #[x,y] T)).cell? ⟨w.heap.size,0,none⟩=some x/\(w.alloc (.cells #[x,y] T)).cell? ⟨w.heap.size,1,none⟩=some y:=
 ⟨bI _ w.heap.size 0 _ _ _ (dV w _),bI _ w.heap.size 1 _ _ _ (dV w _)⟩
theorem KO(t p:Int)(w:World):Calls prog 66 #[.agg #[.int .i64 t,.int .i64 p]] w λe w'=>e=.returned (.bool (eG t p))/\Ext w w':=by
 have hx:Ext w (w.alloc (.cells #[.int .i64 t,.int .i64 p] 34)):=by go_grown
 obtain⟨c0,c1⟩:=rX w (.int .i64 t) (.int .i64 p) 34;cases e1:wD t (-1000000) 1000000 with
 |false=>
  go_enter Tryz.func66,Tryz.ntmps66
  go_wp2_with (go_at_call 92;refine(jg _ _ _ _).mono ?_;rintro e w1 ⟨he,n,rfl⟩;rw[e1]at he;subst he)
  go_ret
  exact⟨dI (by rw[eG,e1];rfl),ah hx (dz (by first|exact rU _|exact xK _ _|exact z8 _ _ _|exact zZ _ _ _ _))⟩
 |true=>
  cases e2:wD p 0 16 with
  |false=>
   go_enter Tryz.func66,Tryz.ntmps66
   go_wp2_with (go_at_call 92;refine(jg _ _ _ _).mono ?_;rintro e w1 ⟨he,n,rfl⟩;first|(rw[e1]at he;subst he)|(rw[e2]at he;subst he))
   go_ret
   exact⟨dI (by rw[eG,e1,e2];rfl),ah hx (dz (by first|exact rU _|exact xK _ _|exact z8 _ _ _|exact zZ _ _ _ _))⟩
  |true=>
   by_cases h0:p=0
   .have g0:(p == 0)=true:=by simpa using h0
    have HG:Hid (eG t p=true):=(by show _=_;rw[eG,e1,e2,g0];rfl);clear h0;go_enter Tryz.func66,Tryz.ntmps66
    go_wp2_with (go_at_call 92;refine(jg _ _ _ _).mono ?_;rintro e w1 ⟨he,n,rfl⟩;first|(rw[e1]at he;subst he)|(rw[e2]at he;subst he))
    go_ret
    exact⟨dI HG.out.symm,ah hx (dz (by first|exact rU _|exact xK _ _|exact z8 _ _ _|exact zZ _ _ _ _))⟩
   .have g0:(p == 0)=false:=by simpa using h0
    cases e3:(t.tmod 2 != 0)with
    |false=>
     have HG:Hid (eG t p=false):=(by rw[ES]at e3;show _=_;rw[eG,e1,e2,g0,e3];rfl);clear h0;go_enter Tryz.func66,Tryz.ntmps66
     go_wp2_with (go_at_call 92;refine(jg _ _ _ _).mono ?_;rintro e w1 ⟨he,n,rfl⟩;first|(rw[e1]at he;subst he)|(rw[e2]at he;subst he))
     go_ret
     exact⟨dI HG.out.symm,ah hx (dz (by first|exact rU _|exact xK _ _|exact z8 _ _ _|exact zZ _ _ _ _))⟩
    |true=>
     have HG:Hid (eG t p=true):=(by rw[ES]at e3;show _=_;rw[eG,e1,e2,g0,e3];rfl);clear h0;go_enter Tryz.func66,Tryz.ntmps66
     go_wp2_with (go_at_call 92;refine(jg _ _ _ _).mono ?_;rintro e w1 ⟨he,n,rfl⟩;first|(rw[e1]at he;subst he)|(rw[e2]at he;subst he))
     go_ret
     exact⟨dI HG.out.symm,ah hx (dz (by first|exact rU _|exact xK _ _|exact z8 _ _ _|exact zZ _ _ _ _))⟩
def lZ(t:Int)(p:Nat):Value:=.tuple #[xw (if eG t p then t else 0) (if eG t p then p else 0),.bool (eG t p)]
theorem Hr(w:World)(x y a b:Value)(T:TypeId):∃W,W=(w.alloc (.cells #[x,y] T)).alloc (.cells #[a,b] T)/\Ext w W/\W.heap[w.heap.size]?=some (.cells #[x,y] T (0,0))/\W.heap[w.heap.size+1]?=some (.cells #[a,b] T (0,0)):=by
 refine⟨_,rfl,by go_grown,?_,?_⟩
 .rw[gI _ _ _ (by simp)];exact dV _ _
 .have h:=dV (w.alloc (.cells #[x,y] T)) (.cells #[a,b] T);rw[eX]at h;exact h
end
section
open Go.RowKit
open aZ (cZ Nd)
theorem Hf(a:Option Addr)(n cap:Nat)(w:World):Calls prog 13 #[.slice a n cap] w λe w'=>e=.returned (.bool (decide ((65536:Int)<((n:Nat):Int))))/\Ext w w':=by
 go_enter Tryz.func13,Tryz.ntmps13
 go_wp2
 go_ret
 exact⟨rfl,fJ _ _⟩
def Zu:List Row:=[⟨0,[],18,[0]⟩,⟨1,[],19,[5]⟩,⟨2,[0,1],20,[17,18]⟩,⟨3,[2],21,[19]⟩,⟨4,[],22,[1]⟩,⟨5,[],23,[5]⟩,⟨6,[4,5],24,[21,22]⟩,⟨7,[6],25,[23]⟩,⟨8,[3,7],26,[20,24]⟩]
theorem Be(v u:Value)(l:List Int)(w:World)(hv:Ints w v l)(hu:Ints w u l)(hl:l.length<=1000000):Calls prog 53 #[v,u] w λe w'=>e=.returned (.bool true)/\Ext w w':=by
 obtain⟨a,cap,rfl,hcap,yH,-⟩:=id hv;obtain⟨a2,cap2,rfl,hcap2,amj,-⟩:=id hu;go_enter Tryz.func53,Tryz.ntmps53
 go_wp2
 go_loopw [5] (λii wr=>∃k:Nat,k<=l.length/\ii=.int .i64 ((k:Nat):Int)/\Ext w wr) (λii _=>l.length-(intOf ii).toNat)
 case atStart=>exact⟨0,az _,by go_num,fJ _ _⟩
 case round=>
  obtain⟨k,hk,rfl,hx⟩:=hrel;by_cases hlt:k<l.length
  .have h1:((k:Nat):Int)<((l.length:Nat):Int):=by omega
   obtain⟨a',c',e',-,-,hc⟩:=hv.ext hx;obtain⟨b,off,ea,hcl⟩:=hc (by omega);obtain⟨a2',c2',e2',-,-,hc2⟩:=hu.ext hx;obtain⟨b2,afA,ea2,aag⟩:=hc2 (by omega);simp only[gz]at e' e2';obtain⟨rfl,-,rfl⟩:=e';obtain⟨rfl,-,rfl⟩:=e2';subst ea;subst ea2;have c1:=hcl k hlt;have c2:=aag k hlt;generalize dD l k=sk at c1 c2;clear hcl aag hv hu hc hc2;go_upto_region 6 with fail
   refine mQ (λV=>V.cell? ⟨b,off+k,none⟩=some (.int .i64 sk)/\V.cell? ⟨b2,afA+k,none⟩=some (.int .i64 sk)) [] Zu ⟨c1,c2⟩ (λai aa=>?_);(refine bg 0 ai aa ?_;refine bg 1 ai aa ?_;refine bg 2 ai aa ?_;refine bg 3 ai aa ?_;refine bg 4 ai aa ?_;refine bg 5 ai aa ?_;refine bg 6 ai aa ?_;refine bg 7 ai aa ?_;refine bg 8 ai aa ?_);refine mM ai [] [] ?_ (hm:=rfl);clear ai aa;go_wp2
   go_roundw
   case rel=>exact⟨k+1,by omega,by go_num,ah hx (dz ⟨1,rfl⟩)⟩
   case measure=>simp[intOf];omega
  .have h1:¬(((k:Nat):Int)<((l.length:Nat):Int)):=by omega
   go_wp2
   go_ret
   exact⟨rfl,hx⟩
def Zv:List Row:=[⟨0,[],21,[2]⟩,⟨1,[0],22,[20]⟩,⟨2,[],23,[5]⟩,⟨3,[1,2],24,[21,22]⟩,⟨4,[3],25,[23]⟩,⟨5,[4],26,[24]⟩,⟨6,[],27,[3]⟩,⟨7,[6],28,[26]⟩,⟨8,[],29,[5]⟩,⟨9,[7,8],30,[27,28]⟩,⟨10,[9],31,[29]⟩,⟨11,[10],32,[30]⟩,⟨12,[5,11],33,[25,31]⟩,⟨13,[12],34,[32]⟩,⟨14,[13,12],35,[33]⟩,⟨15,[14],36,[2,34]⟩,⟨16,[15,14],37,[35,34]⟩,⟨17,[14],38,[5,34]⟩,⟨18,[16,17,14],39,[36,37,34]⟩,⟨19,[18,14],40,[38,34]⟩,⟨20,[19,14],41,[39,34]⟩,⟨21,[14],42,[3,34]⟩,⟨22,[21,14],43,[41,34]⟩,⟨23,[14],44,[5,34]⟩,⟨24,[22,23,14],45,[42,43,34]⟩,⟨25,[24,14],46,[44,34]⟩,⟨26,[25,14],47,[45,34]⟩,⟨27,[20,26,14,14],48,[40,46,34]⟩,⟨28,[27,14],49,[47,34]⟩,⟨29,[14,28],50,[34,48]⟩]
theorem Km(v u:Value)(F:cZ)(w:World)(h:eZ w 0 v F)(k:eZ w 0 u F)(Ak:F.length<=1000000)(hl:∀i (hi:i<F.length),(F[i]).1.length<=1000000/\(F[i]).2.length<=1000000):Calls prog 19 #[.agg #[v],.agg #[u]] w λe w'=>e=.returned (.bool true)/\Ext w w':=by
 obtain⟨a,cap,rfl,hc1,hm1,-⟩:=id h;obtain⟨a2,cap2,rfl,hc2,hm2,-⟩:=id k;have hx2:Ext w ((w.alloc (.cells #[.slice a F.length cap] 30)).alloc (.cells #[.slice a2 F.length cap2] 30)):=by go_grown
 have b0:((w.alloc (.cells #[.slice a F.length cap] 30)).alloc (.cells #[.slice a2 F.length cap2] 30)).heap[w.heap.size]?=some (.cells #[.slice a F.length cap] 30 (0,0)):=by
  rw[gI _ _ _ (by simp)];exact dV _ _
 have b1:((w.alloc (.cells #[.slice a F.length cap] 30)).alloc (.cells #[.slice a2 F.length cap2] 30)).heap[w.heap.size+1]?=some (.cells #[.slice a2 F.length cap2] 30 (0,0)):=by
  have h:=dV (w.alloc (.cells #[.slice a F.length cap] 30)) (.cells #[.slice a2 F.length cap2] 30);rw[eX]at h;exact h
 have HL:=aI hl;clear hl;go_enter Tryz.func19,Tryz.ntmps19
 go_upto_region 1 with fail
 generalize (w.alloc (.cells #[.slice a F.length cap] 30)).alloc (.cells #[.slice a2 F.length cap2] 30)=W at *;have c0:=bI W w.heap.size 0 _ _ _ b0;have c1:=bI W (w.heap.size+1) 0 _ _ _ b1;simp only[gE]at c0 c1;go_upto_region 4 with fail
 clear c0 c1;go_loopw [5] (λii wr=>∃i,i<=F.length/\ii=.int .i64 ((i:Nat):Int)/\Ext W wr) (λii _=>F.length-(intOf ii).toNat)
 case atStart=>exact⟨0,az _,rfl,fJ _ _⟩
 case round=>
  obtain⟨i,hi,rfl,hE⟩:=hrel;have c0:=bI wr w.heap.size 0 _ _ _ (kY hE b0);have c1:=bI wr (w.heap.size+1) 0 _ _ _ (kY hE b1);simp only[gE]at c0 c1;have Tx:=ah hx2 hE;by_cases hlt:i<F.length
  .have h1:((i:Nat):Int)<(F.length:Int):=by omega
   obtain⟨b1',d1,aL,cL,aR,cR,he1,-,l1,r1,iL,iR⟩:=(h.ext Tx).at hlt;obtain⟨b2',d2,Ey,Et,F3,FT,he2,-,l2,r2,iL2,iR2⟩:=(k.ext Tx).at hlt;simp only[gz]at he1 he2;obtain⟨rfl,-,rfl⟩:=he1;obtain⟨rfl,-,rfl⟩:=he2
   have nZ:∀V:World,Ext wr V->(V.cell? ⟨w.heap.size,0,none⟩=some (.slice (some ⟨b1',0,none⟩) F.length cap)/\V.cell? ⟨w.heap.size+1,0,none⟩=some (.slice (some ⟨b2',0,none⟩) F.length cap2))/\V.cell? ⟨b1',i*2,none⟩=some (.slice aL (F[i]).1.length cL)/\V.cell? ⟨b1',i*2+1,none⟩=some (.slice aR (F[i]).2.length cR)/\V.cell? ⟨b2',i*2,none⟩=some (.slice Ey (F[i]).1.length Et)/\V.cell? ⟨b2',i*2+1,none⟩=some (.slice F3 (F[i]).2.length FT):=λV hV=>
    ⟨⟨dP hV c0,dP hV c1⟩,dP hV l1,dP hV r1,dP hV l2,dP hV r2⟩
   have hI:∀V,Ext wr V->Calls prog 53 #[.slice aL (F[i]).1.length cL,.slice Ey (F[i]).1.length Et] V (λe w'=>e=.returned (.bool true)/\Ext V w'):=λV hV=>Be _ _ _ V (iL.ext hV) (iL2.ext hV) (by rw[aP];exact(HL.out i hlt).1)
   have hJ:∀V,Ext wr V->Calls prog 53 #[.slice aR (F[i]).2.length cR,.slice F3 (F[i]).2.length FT] V (λe w'=>e=.returned (.bool true)/\Ext V w'):=λV hV=>Be _ _ _ V (iR.ext hV) (iR2.ext hV) (by rw[aP];exact(HL.out i hlt).2)
   have HE:=jW hE hlt;have HS:=aI nZ;have HIJ:=jW hI hJ;have hxd:Ext wr wr.drew:=⟨rfl,rfl,rfl,ax _,λ_ _=>rfl⟩;have aa:=nZ _ hxd;clear l1 r1 l2 r2 iL iR iL2 iR2 nZ hI hJ hE Tx;go_upto_region 6 with fail
   clear c0 c1;generalize (F[i]).1=lf at *;generalize (F[i]).2=rf at *;refine mQ (λV:World=>(V.cell? ⟨w.heap.size,0,none⟩=some (.slice (some ⟨b1',0,none⟩) F.length cap)/\V.cell? ⟨w.heap.size+1,0,none⟩=some (.slice (some ⟨b2',0,none⟩) F.length cap2))/\V.cell? ⟨b1',i*2,none⟩=some (.slice aL lf.length cL)/\V.cell? ⟨b1',i*2+1,none⟩=some (.slice aR rf.length cR)/\V.cell? ⟨b2',i*2,none⟩=some (.slice Ey lf.length Et)/\V.cell? ⟨b2',i*2+1,none⟩=some (.slice F3 rf.length FT)) [29] Zv aa (λai aa=>?_);(refine bg 0 ai aa ?_;refine bg 1 ai aa ?_;refine bg 2 ai aa ?_;refine bg 3 ai aa ?_;refine bg 4 ai aa ?_;refine bg 5 ai aa ?_;refine bg 6 ai aa ?_;refine bg 7 ai aa ?_;refine bg 8 ai aa ?_;refine bg 9 ai aa ?_;refine bg 10 ai aa ?_;refine bg 11 ai aa ?_);(refine kS ai (i:=12) λK hK=>?_;go_simp);refine(HIJ.out.1 _ hxd).mono ?_;rintro e w5 ⟨rfl,hx5⟩;have hxx:=ah hxd hx5;have aa:=HS.out _ hxx;refine hK.out _ _ (λ_=>aa) ?_;clear hK K;(try simp only[nP]);(refine bg 13 ai aa ?_;refine bg 14 ai aa ?_;refine bg 15 ai aa ?_;refine bg 16 ai aa ?_;refine bg 17 ai aa ?_;refine bg 18 ai aa ?_;refine bg 19 ai aa ?_;refine bg 20 ai aa ?_;refine bg 21 ai aa ?_;refine bg 22 ai aa ?_;refine bg 23 ai aa ?_;refine bg 24 ai aa ?_;refine bg 25 ai aa ?_;refine bg 26 ai aa ?_);(refine kS ai (i:=27) λK hK=>?_;go_simp);refine(HIJ.out.2 _ hxx).mono ?_;rintro e w6 ⟨rfl,hx6⟩;have aci:=ah hxx hx6;have aa:=HS.out _ aci;refine hK.out _ _ (λ_=>aa) ?_;clear hK K;(try simp only[nP]);(refine bg 28 ai aa ?_);refine mM ai [29] [_] ?_;clear ai aa;go_wp2
   go_roundw
   case rel=>exact⟨i+1,HE.out.2,by go_num,ah HE.out.1 aci⟩
   case measure=>have:=HE.out.2;simp[intOf];omega
  .have h1:¬(((i:Nat):Int)<(F.length:Int)):=by omega
   go_wp2
   go_ret
   exact⟨rfl,Tx⟩
end
