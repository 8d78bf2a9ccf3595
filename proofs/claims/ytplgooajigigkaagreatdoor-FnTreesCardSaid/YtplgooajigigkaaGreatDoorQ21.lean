/- 21 -/
import Derived.Test.YtplgooajigigkaaGreatDoorQ15
import Derived.Test.YtplgooajigigkaaGreatDoorQ20
set_option maxRecDepth 100000
set_option maxHeartbeats 4000000
namespace Go.Proofs.YtplgooajigigkaaGreatDoor
open Tryz
section
open Go.RowKit
open aZ (cZ Nd vl Same)
variable {w wr:World} {vu vo:Value} {sb so:ByteArray} {n:Nat} {al ou:List Int}
structure CQ(w wr:World)(vu:Value)(sb:ByteArray)(n:Nat)(al:List Int)(vo:Value)(ou:List Int)(so:ByteArray):Prop where
 ext:Ext w wr
 box:wr.heap[w.heap.size]?=some (.cells #[vu,.string sb] 43 (0,0))
 res:wr.heap[w.heap.size+1]?=some (.cells #[.slice none 0 0,.string ⟨#[]⟩] 43 (0,0))
 out:wr.heap[w.heap.size+1+1+1+1]?=some (.cells #[vo,.string so] 43 (0,0))
 at_:wr.ownsRow w.heap.size 3 1 (.slice (some ⟨w.heap.size+1+1,0,none⟩) n n) n (al.map (Value.int .i64))
 ou:wr.ownsRow w.heap.size 3 1 vo ou.length (ou.map (Value.int .i64))
 sep:∀b,vo.ownBlock=some b->w.heap.size+1+1<b/\b≠w.heap.size+1+1+1+1
theorem CQ.set{w wr:World}{vu:Value}{sb:ByteArray}{n:Nat}{al:List Int}{vo:Value}{ou:List Int}{so:ByteArray}(h:CQ w wr vu sb n al vo ou so)(k:Nat)(x:Int):
 CQ w (wr.setCell ⟨w.heap.size+1+1,k,none⟩ (.int .i64 x)) vu sb n (al.set k x) vo ou so:=by
 have hs:=(h.at_.stored k (.int .i64 x)).1;rw[<-uf]at hs;refine⟨oG h.ext (w.heap.size+1+1) k _,?_,?_,?_,hs,?_,h.sep⟩
 .rw[jH _ _ _ _ (by simp <;> omega)];exact h.box
 .rw[jH _ _ _ _ (by simp <;> omega)];exact h.res
 .rw[jH _ _ _ _ (by simp <;> omega)];exact h.out
 .exact aV h.ou (dx (p:=⟨w.heap.size+1+1,k,none⟩)) (λb hb e=>by have:=h.sep b hb;simp at e;omega)
theorem CQ.put{w1:World}{Gt:Value}{X:Obj}{x:Int}(h:CQ w wr vu sb n al vo ou so)
 (ho:w1.ownsRow w.heap.size 3 1 Gt (ou.length+1) (ou.map (Value.int .i64)++[.int .i64 x])) (hg:(wr.alloc X).grownBy w1 vo.ownBlock) (hl:lY (wr.alloc X) vo Gt):
 CQ w (w1.setCell ⟨w.heap.size+1+1+1+1,0,none⟩ Gt) vu sb n al Gt (ou++[x]) so/\w1.cell? ⟨w.heap.size+1+1+1+1,0,none⟩=some vo/\w1.frozen? ⟨w.heap.size+1+1+1+1,0,none⟩=false:=by
 have hz:=bq h.box;have z1:=bq h.res;have z2:=bq h.out;have z3:=(h.at_.lt (w.heap.size+1+1) rfl).2;have zz:=hg.size;rw[eX]at zz;have hbk:∀k,(k<w.heap.size+1+1+1\/k=w.heap.size+1+1+1+1)->w1.heap[k]?=wr.heap[k]?:=λk hk=>by
  rw[hg.block k (by rw[eX];omega) (λe=>by have:=h.sep k e.symm;omega),gI _ _ _ (by omega)]
 have zP:∀b,Gt.ownBlock=some b->w.heap.size+1+1<b/\b≠w.heap.size+1+1+1+1:=λb hb=>by
  rcases hl with h1|⟨g,h1,h2⟩
  .exact h.sep b (by rw[<-h1];exact hb)
  .rw[h1]at hb;injection hb with hb;subst hb;rw[eX]at h2;omega
 have hx:w1.heap[w.heap.size+1+1+1+1]?=some (.cells #[vo,.string so] 43 (0,0)):=by rw[hbk _ (by omega)];exact h.out
 refine⟨?_,bI w1 (w.heap.size+1+1+1+1) 0 _ _ _ hx,iW w1 (w.heap.size+1+1+1+1) 0 _ _ hx⟩;refine⟨oG (dw (bJ h.ext X) hg (λk hk=>by have:=h.sep k hk;omega)) (w.heap.size+1+1+1+1) 0 _,?_,?_,?_,?_,?_,zP⟩
 .rw[jH _ _ _ _ (by simp <;> omega),hbk _ (by omega)];exact h.box
 .rw[jH _ _ _ _ (by simp <;> omega),hbk _ (by omega)];exact h.res
 .have:=h.out;rw[<-hbk _ (by omega)]at this
  exact iV _ _ _ _ _ _ this
 .refine aV (aV (bW h.at_ (bJ (fJ _ _) X)) (G:=λb=>vo.ownBlock=some b) ⟨hg.os,hg.tape,hg.output,hg.size,λk hk hn=>hg.block k hk (λe=>hn e.symm)⟩ (λb hb e=>?_)) (dx (p:=⟨w.heap.size+1+1+1+1,0,none⟩)) (λb hb e=>?_)
  .have:=h.sep b e;simp[Value.ownBlock]at hb;omega
  .simp[Value.ownBlock]at hb;simp at e;omega
 .have:(ou++[x]).map (Value.int .i64)=ou.map (Value.int .i64)++[.int .i64 x]:=by simp
  rw[this,aK];exact aV ho (dx (p:=⟨w.heap.size+1+1+1+1,0,none⟩)) (λb hb e=>by have:=zP b hb;simp at e;omega)
theorem CQ.sign(h:CQ w wr vu sb n al vo ou so)(so':ByteArray):
 CQ w (wr.setCell ⟨w.heap.size+1+1+1+1,1,none⟩ (.string so')) vu sb n al vo ou so':=by
 refine⟨oG h.ext (w.heap.size+1+1+1+1) 1 _,?_,?_,?_,?_,?_,h.sep⟩
 .rw[jH _ _ _ _ (by simp <;> omega)];exact h.box
 .rw[jH _ _ _ _ (by simp <;> omega)];exact h.res
 .exact iV _ _ _ _ _ _ h.out
 .exact aV h.at_ (dx (p:=⟨w.heap.size+1+1+1+1,1,none⟩)) (λb hb e=>by simp[Value.ownBlock]at hb;simp at e;omega)
 .exact aV h.ou (dx (p:=⟨w.heap.size+1+1+1+1,1,none⟩)) (λb hb e=>by have:=h.sep b hb;simp at e;omega)
theorem CQ.drew{w wr:World}{vu:Value}{sb:ByteArray}{n:Nat}{al:List Int}{vo:Value}{ou:List Int}{so:ByteArray}(h:CQ w wr vu sb n al vo ou so):CQ w wr.drew vu sb n al vo ou so:=
 ⟨dG h.ext 1,h.box,h.res,h.out,h.at_,h.ou,h.sep⟩
def nm(l:List Int):List Int:=l.map λx=>if x=-2 then -1 else x
theorem yY(l:List Int):(nm l).length=l.length:=by simp[nm]
theorem KD(l:List Int)(x:Int):nm (l++[x])=nm l++[if x=-2 then -1 else x]:=by simp[nm]
theorem RG{l:List Int}{j:Nat}(h:j<l.length):(nm l)[j]?=some (if dD l j=-2 then -1 else dD l j):=by
 unfold nm;rw[bO,ae h,eT,kW h]
theorem CQ.dropped{us:List Int}{s:List UInt8}{e k:Nat}(hM:CQ w wr vu sb n ((nm (cutAt us s e k).1++List.replicate (n-k) (0:Int)).set k (-1)) vo (cutAt us s e k).2.1 so)(hA:(cutAt us s e k).1.length=k)(hk:k<n)(hso:so.data.toList=(cutAt us s e k).2.2)
 (h:k=e\/(0<=dD us k/\dD (cutAt us s e k).1 (dD us k).toNat=-2)):CQ w wr vu sb n (nm (cutAt us s e (k+1)).1++List.replicate (n-(k+1)) 0) vo (cutAt us s e (k+1)).2.1 so/\so.data.toList=(cutAt us s e (k+1)).2.2:=by
 rw[qU _ (by rw[yY];exact hA) hk]at hM;rw[Jk h,KD];exact⟨hM,hso⟩
theorem XU(vu:Value)(us:List Int)(sb:ByteArray)(e:Nat)(w:World)(hv:Ints w vu us)(g:GT us sb.data.toList)(he:e<us.length):
 Calls prog 91 #[.agg #[vu,.string sb],.int .i64 (e:Int)] w (NT us sb.data.toList e w):=by
 obtain⟨i0,hi0,hz0,hz1,hz2⟩:=info_parts fB;obtain⟨au,jm,rfl,hlc,hcap,hc⟩:=id hv;have Pj:=g.small;generalize hn:us.length=n at *;have hmk:=λw:World=>run_make (P:=prog) w 41 3 i0 (.int .i64 0) underlying41 hi0 hz0 .i64 .i64 (n:Int) (n:Int) (by omega) (by omega) (by rw[hz2];omega) (by omega)
 simp only[hz1,jo,eB]at hmk;go_enter Tryz.func91,Tryz.ntmps91
 go_wp2
 generalize hs:sb.data.toList=s at *;have hst:CQ w (((((w.alloc (.cells #[.slice au n jm,.string sb] 43)).alloc (.cells #[.slice none 0 0,.string ⟨#[]⟩] 43)).alloc (.cells (madeCells #[Value.int .i64 0] n) 3)).alloc (.cells #[] 3)).alloc (.cells #[.slice (some ⟨w.heap.size+1+1+1,0,none⟩) 0 0,.string ⟨#[]⟩] 43)) (.slice au n jm) sb n (List.replicate n 0) (.slice (some ⟨w.heap.size+1+1+1,0,none⟩) 0 0) [] ⟨#[]⟩:=by
  refine⟨by go_grown,?_,?_,?_,?_,?_,by simp[Value.ownBlock] <;> omega⟩
  .rw[gI _ _ _ (by simp <;> omega),gI _ _ _ (by simp <;> omega),gI _ _ _ (by simp <;> omega),gI _ _ _ (by simp)];exact dV _ _
  .rw[gI _ _ _ (by simp <;> omega),gI _ _ _ (by simp <;> omega),gI _ _ _ (by simp)];have h:=dV (w.alloc (.cells #[.slice au n jm,.string sb] 43)) (.cells #[.slice none 0 0,.string ⟨#[]⟩] 43);rw[eX]at h;exact h
  .have h:=dV ((((w.alloc (.cells #[.slice au n jm,.string sb] 43)).alloc (.cells #[.slice none 0 0,.string ⟨#[]⟩] 43)).alloc (.cells (madeCells #[Value.int .i64 0] n) 3)).alloc (.cells #[] 3)) (.cells #[.slice (some ⟨w.heap.size+1+1+1,0,none⟩) 0 0,.string ⟨#[]⟩] 43);rw[eX,eX,eX,eX]at h;exact h
  .have h:=World.ownsRow_lit ((w.alloc (.cells #[.slice au n jm,.string sb] 43)).alloc (.cells #[.slice none 0 0,.string ⟨#[]⟩] 43)) (base:=w.heap.size) (madeCells #[Value.int .i64 0] n) n (e:=3) (size:=1) (by simp;omega) (by unfold maxLen;omega) (by rw[size_madeCells];simp)
   rw[sG]at h;have h:=(h.alloc (.cells #[] 3)).alloc (.cells #[.slice (some ⟨w.heap.size+1+1+1,0,none⟩) 0 0,.string ⟨#[]⟩] 43)
   simpa using h
  .have h:=World.ownsRow_lit (((w.alloc (.cells #[.slice au n jm,.string sb] 43)).alloc (.cells #[.slice none 0 0,.string ⟨#[]⟩] 43)).alloc (.cells (madeCells #[Value.int .i64 0] n) 3)) (base:=w.heap.size) #[] 0 (e:=3) (size:=1) (by simp;omega) (by unfold maxLen;omega) (by simp)
   have h:=h.alloc (.cells #[.slice (some ⟨w.heap.size+1+1+1,0,none⟩) 0 0,.string ⟨#[]⟩] 43)
   simpa using h
 generalize (((((w.alloc (.cells #[.slice au n jm,.string sb] 43)).alloc (.cells #[.slice none 0 0,.string ⟨#[]⟩] 43)).alloc (.cells (madeCells #[Value.int .i64 0] n) 3)).alloc (.cells #[] 3)).alloc (.cells #[.slice (some ⟨w.heap.size+1+1+1,0,none⟩) 0 0,.string ⟨#[]⟩] 43))=W0 at *;clear hmk;go_loopw [7,8,18] (λ_ _ ii wr=>∃k vo so,k<=n/\ii=.int .i64 ((k:Nat):Int)/\CQ w wr (.slice au n jm) sb n (nm (cutAt us s e k).1++List.replicate (n-k) 0) vo (cutAt us s e k).2.1 so/\so.data.toList=(cutAt us s e k).2.2) (λ_ _ ii _=>n-(intOf ii).toNat)
 case atStart=>exact⟨0,_,_,az _,rfl,by simpa [cutAt,nm]using hst,rfl⟩
 case round=>
  clear hst;obtain⟨k,vo,so,hk,rfl,hM,hso⟩:=hrel;by_cases hlt:k<n
  .have h1:((k:Nat):Int)<(n:Int):=by omega
   have I:=yw g e k (by omega);have hu:=g.up k (by omega);obtain⟨b,off,rfl,hcell⟩:=hc (by omega);have hal:(nm (cutAt us s e k).1++List.replicate (n-k) (0:Int)).length=n:=(by simp[yY,I.len];omega);have ck:=hM.at_.cellAt k (by omega);rw[bO,ae (by omega),eT]at ck;have fk:=hM.at_.frozenAt k;have hM1:=hM.set k (-1);have cu:=dP hM.ext (hcell k hlt);by_cases hke:k=e
   .subst hke
    have HR:=aI (hM1.dropped I.len hlt hso (.inl rfl));clear hM1 hM;go_wp2
    go_roundw
    case rel=>exact⟨k+1,_,so,by omega,by go_num,HR.out.1,HR.out.2⟩
    case measure=>simp[intOf];omega
   .have e1:((k:Int)== (e:Int))=false:=by simp;omega
    by_cases hu0:0<=dD us k
    .obtain⟨j,hj⟩:∃j:Nat,dD us k=(j:Int):=⟨(dD us k).toNat,by omega⟩
     rw[hj]at cu hu0 hu;have hjk:j<k:=(by omega);have ca:=hM.at_.cellAt j (by omega);rw[bO,bQ (by rw[yY,I.len];omega),RG (by rw[I.len];omega),eT]at ca;have hpl:=I.pl j hjk;by_cases hd:dD (cutAt us s e k).1 j=-2
     .have HR:=aI (hM1.dropped I.len hlt hso (.inr (by rw[hj];exact⟨hu0,by rw[eB];exact hd⟩)))
      rw[if_pos hd]at ca;clear hM1 hM hpl;go_wp2
      go_roundw
      case rel=>exact⟨k+1,_,so,by omega,by go_num,HR.out.1,HR.out.2⟩
      case measure=>simp[intOf];omega
     .rw[if_neg hd]at ca
      have hd1:¬dD (cutAt us s e k).1 j<0:=(by omega);have HD:=aI hd;clear hd hpl hM1;have HC:Hid (cutAt us s e (k+1)=((cutAt us s e k).1++[((cutAt us s e k).2.1.length:Int)],(cutAt us s e k).2.1++[dD (cutAt us s e k).1 j],(cutAt us s e k).2.2++[s.getD k 0])):=by
       have:=yu (us:=us) (s:=s) (e:=e) (k:=k) (by rw[hj,eB];exact λh=>h.elim hke (λh=>HD.out h.2));rw[hj,if_pos hu0,eB]at this;exact this
      clear ck;obtain⟨av,cv,rfl,hcv,_⟩:=bu hM.ou;have c0:=bI wr (w.heap.size+1+1+1+1) 0 _ _ _ hM.out;have ck1:=hM.at_.cellAt k (by omega);rw[bO,ae (by omega),eT]at ck1;have fk1:=hM.at_.frozenAt k;have hM2:=hM.set k ((cutAt us s e k).2.1.length:Int);have hol:=I.le;go_upto_region 9 with(fail)
      generalize wr.setCell ⟨w.heap.size+1+1,k,none⟩ (.int .i64 ((cutAt us s e k).2.1.length:Int))=W2 at *;clear c0 ck1 fk1;have ca:=hM2.at_.cellAt j (by omega);rw[bO,nG (by omega),bQ (by rw[yY,I.len];omega),RG (by rw[I.len];omega),if_neg HD.out,eT]at ca;generalize dD (cutAt us s e k).1 j=X at *;have c0:=bI W2 (w.heap.size+1+1+1+1) 0 _ _ _ hM2.out;have hE2:=hM2.ext.size;go_upto_region 12 with(at_builtin;(refine dm rfl (.tmp 53) (.tmp 55) 41 rfl w.heap.size 3 i0 (.int .i64 0) 1 8 underlying41 hi0 hz0 hz1 hz2 rfl (by decide) (.slice av (cutAt us s e k).2.1.length cv) (cutAt us s e k).2.1.length ((cutAt us s e k).2.1.map (Value.int .i64)) rfl (hM2.ou.alloc _) _ 1 _ [.int .i64 X] rfl rfl (.inr ⟨_,rfl,dA (bY _ _ _)⟩) one_cell (by unfold maxLen;omega) (by omega) (by rw[eX];omega) ?_;intro v5 w5 ji hg5 hl5;obtain⟨a5,c5,rfl,-⟩:=bu ji;obtain⟨oD,Zb,f50⟩:=hM2.put ji hg5 hl5))
      generalize w5.setCell ⟨w.heap.size+1+1+1+1,0,none⟩ (.slice a5 ((cutAt us s e k).2.1.length+1) c5)=W3 at *;have hdr:W3.heap[w.heap.size]?=W3.heap[w.heap.size]?:=rfl;have d0:=bI W3 w.heap.size 1 _ _ _ oD.box;have d1:=bI W3 (w.heap.size+1+1+1+1) 1 _ _ _ oD.out;have f1:=iW W3 (w.heap.size+1+1+1+1) 1 _ _ oD.out;have hkb:k+1<=sb.size:=(by have:=g.len;rw[<-hs]at this;simp at this;rw[hn]at this;have:sb.size=sb.data.size:=rfl;omega);have hsz:so.size<=8:=(by have:=I.same;rw[<-hso]at this;simp at this;have:so.size=so.data.size:=rfl;omega);have hez:(sb.extract k (k+1)).size=1:=(by rw[je];omega);have Ca:so.size+(sb.extract k (k+1)).size<=9223372036854775807:=(by omega);have abk:=λW:World=>run_string_add_sum (P:=prog) (w:=W) so (sb.extract k (k+1)) Ca
      clear hez;clear Zb f50 ji hg5 hl5 hdr c0;have JC:=aI oD;clear oD hM2 hM;have HR:Hid (∀W,CQ w W (.slice (some ⟨b,off,none⟩) n jm) sb n ((nm (cutAt us s e k).1++List.replicate (n-k) (0:Int)).set k ((cutAt us s e k).2.1.length:Int)) (.slice a5 ((cutAt us s e k).2.1.length+1) c5) ((cutAt us s e k).2.1++[X]) (so++sb.extract k (k+1))->CQ w W (.slice (some ⟨b,off,none⟩) n jm) sb n (nm (cutAt us s e (k+1)).1++List.replicate (n-(k+1)) 0) (.slice a5 ((cutAt us s e k).2.1.length+1) c5) (cutAt us s e (k+1)).2.1 (so++sb.extract k (k+1))/\(so++sb.extract k (k+1)).data.toList=(cutAt us s e (k+1)).2.2):=λW h=>by
       rw[qU _ (by rw[yY];exact I.len) hlt]at h;rw[HC.out,KD,if_neg (by omega)];refine⟨h,?_⟩;rw[kG,lU,hso];congr 1;rw[XQ (by omega),hs]
      go_region
      go_wp2_with (fail)
      go_roundw
      case rel=>exact⟨k+1,_,_,by omega,by go_num,(HR.out _ (JC.out.sign _).drew).1,(HR.out _ (JC.out.sign _).drew).2⟩
      case measure=>simp[intOf];omega
    .have hu1:decide (0<=dD us k)=false:=by simpa using hu0
     have HC:Hid (cutAt us s e (k+1)=((cutAt us s e k).1++[((cutAt us s e k).2.1.length:Int)],(cutAt us s e k).2.1++[-1],(cutAt us s e k).2.2++[s.getD k 0])):=by
      have:=yu (us:=us) (s:=s) (e:=e) (k:=k) (λh=>h.elim hke (λh=>hu0 h.1));rw[if_neg hu0]at this;exact this
     have hum:dD us k=-1:=(by omega);rw[hum]at cu;clear hM1 ck hu hu0 hu1;obtain⟨av,cv,rfl,hcv,_⟩:=bu hM.ou;have c0:=bI wr (w.heap.size+1+1+1+1) 0 _ _ _ hM.out;have ck1:=hM.at_.cellAt k (by omega);rw[bO,ae (by omega),eT]at ck1;have fk1:=hM.at_.frozenAt k;have hM2:=hM.set k ((cutAt us s e k).2.1.length:Int);have hol:=I.le;go_upto_region 9 with(fail)
     generalize wr.setCell ⟨w.heap.size+1+1,k,none⟩ (.int .i64 ((cutAt us s e k).2.1.length:Int))=W2 at *;clear c0 ck1 fk1;have c0:=bI W2 (w.heap.size+1+1+1+1) 0 _ _ _ hM2.out;have hE2:=hM2.ext.size;go_upto_region 12 with(at_builtin;(refine dm rfl (.tmp 53) (.tmp 55) 41 rfl w.heap.size 3 i0 (.int .i64 0) 1 8 underlying41 hi0 hz0 hz1 hz2 rfl (by decide) (.slice av (cutAt us s e k).2.1.length cv) (cutAt us s e k).2.1.length ((cutAt us s e k).2.1.map (Value.int .i64)) rfl (hM2.ou.alloc _) _ 1 _ [.int .i64 (-1)] rfl rfl (.inr ⟨_,rfl,dA (bY _ _ _)⟩) one_cell (by unfold maxLen;omega) (by omega) (by rw[eX];omega) ?_;intro v5 w5 ji hg5 hl5;obtain⟨a5,c5,rfl,-⟩:=bu ji;obtain⟨oD,Zb,f50⟩:=hM2.put ji hg5 hl5))
     generalize w5.setCell ⟨w.heap.size+1+1+1+1,0,none⟩ (.slice a5 ((cutAt us s e k).2.1.length+1) c5)=W3 at *;have hdr:W3.heap[w.heap.size]?=W3.heap[w.heap.size]?:=rfl;have d0:=bI W3 w.heap.size 1 _ _ _ oD.box;have d1:=bI W3 (w.heap.size+1+1+1+1) 1 _ _ _ oD.out;have f1:=iW W3 (w.heap.size+1+1+1+1) 1 _ _ oD.out;have hkb:k+1<=sb.size:=(by have:=g.len;rw[<-hs]at this;simp at this;rw[hn]at this;have:sb.size=sb.data.size:=rfl;omega);have hsz:so.size<=8:=(by have:=I.same;rw[<-hso]at this;simp at this;have:so.size=so.data.size:=rfl;omega);have hez:(sb.extract k (k+1)).size=1:=(by rw[je];omega);have Ca:so.size+(sb.extract k (k+1)).size<=9223372036854775807:=(by omega);have abk:=λW:World=>run_string_add_sum (P:=prog) (w:=W) so (sb.extract k (k+1)) Ca
     clear hez;clear Zb f50 ji hg5 hl5 hdr c0;have JC:=aI oD;clear oD hM2 hM;have HR:Hid (∀W,CQ w W (.slice (some ⟨b,off,none⟩) n jm) sb n ((nm (cutAt us s e k).1++List.replicate (n-k) (0:Int)).set k ((cutAt us s e k).2.1.length:Int)) (.slice a5 ((cutAt us s e k).2.1.length+1) c5) ((cutAt us s e k).2.1++[-1]) (so++sb.extract k (k+1))->CQ w W (.slice (some ⟨b,off,none⟩) n jm) sb n (nm (cutAt us s e (k+1)).1++List.replicate (n-(k+1)) 0) (.slice a5 ((cutAt us s e k).2.1.length+1) c5) (cutAt us s e (k+1)).2.1 (so++sb.extract k (k+1))/\(so++sb.extract k (k+1)).data.toList=(cutAt us s e (k+1)).2.2):=λW h=>by
      rw[qU _ (by rw[yY];exact I.len) hlt]at h;rw[HC.out,KD,if_neg (by omega)];refine⟨h,?_⟩;rw[kG,lU,hso];congr 1;rw[XQ (by omega),hs]
     go_region
     go_wp2_with (fail)
     go_roundw
     case rel=>exact⟨k+1,_,_,by omega,by go_num,(HR.out _ (JC.out.sign _).drew).1,(HR.out _ (JC.out.sign _).drew).2⟩
     case measure=>simp[intOf];omega
  .have h1:¬(((k:Nat):Int)<(n:Int)):=by omega
   have c0:=bI wr (w.heap.size+1+1+1+1) 0 _ _ _ hM.out;have c1:=bI wr (w.heap.size+1+1+1+1) 1 _ _ _ hM.out;have r0:=bI wr (w.heap.size+1) 0 _ _ _ hM.res;have r1:=bI wr (w.heap.size+1) 1 _ _ _ hM.res;have f0:=iW wr (w.heap.size+1) 0 _ _ hM.res;have f1:=iW wr (w.heap.size+1) 1 _ _ hM.res;have hke:k=n:=(by omega);subst hke;obtain⟨av,cv,rfl,-⟩:=bu hM.ou;have HM:=aI hM;have hr:=hM.res
   have HH:Hid (((wr.setCell ⟨w.heap.size+1,0,none⟩ (.slice av (cutAt us s e k).2.1.length cv)).setCell ⟨w.heap.size+1,1,none⟩ (.string so)).heap[w.heap.size+1]?=some (.cells #[.slice av (cutAt us s e k).2.1.length cv,.string so] 43 (0,0))):=
    iV _ _ _ _ _ _ (iV _ _ _ _ _ _ hr)
   clear hM hr;go_wp2
   (try simp only[Exit.inBlock,Exit.then]);refine bodyPost_ret (results_cell_row rfl _ _ (w.heap.size+1) 43 #[.slice av (cutAt us s e k).2.1.length cv,.string so] (0,0) _ rfl HH.out underlying43 rfl (by kernel_rfl)) rfl ?_;have hM:=HM.out;have hI:=Ints.dX hM.ou (by have:=(yw g e k (by omega)).le;omega);have hsz:=hM.ou.lt;refine⟨_,so,rfl,?_,?_,λb hb=>⟨by have:=hM.sep b hb;omega,by simp;exact(hsz b hb).2⟩,oG (oG hM.ext (w.heap.size+1) 0 _) (w.heap.size+1) 1 _⟩
   .unfold iJ
    rw[hn];exact hI.keep (λb _ hb=>by rw[jH _ _ _ _ (by have:=hM.sep b hb;simp <;> omega),jH _ _ _ _ (by have:=hM.sep b hb;simp <;> omega)])
   .unfold lW
    rw[hn,hso]
end
section
open Go.RowKit
open aZ (cZ Nd vl Same)
variable {s:List UInt8} {us:List Int} {left:Bool} {k:Nat} {Ts:List (List Int × ByteArray)}
theorem Ec:(prog.info? 43).map (λi=>(i.zero,i.size,i.bytes))=some (some (.agg #[.slice none 0 0,.string ⟨#[]⟩]),2,40):=by kernel_rfl
theorem Dp{a:Option Addr}{n c:Nat}{s:ByteArray}:∀u∈([.slice a n c,.string s]:List Value),u.oneCell'=true:=by
 intro u hu;simp at hu;rcases hu with rfl|rfl <;> rfl
def kE(us:List Int)(s:List UInt8)(left:Bool)(k:Nat)(Ts:List (List Int × ByteArray)):Prop:=Ts.map (λt=>(t.1,t.2.data.toList))=(dU s left k).map λe=>(iJ us s e,lW us s e)
theorem kE.len(h:kE us s left k Ts):Ts.length=(dU s left k).length:=by
 have:=congrArg List.length h;simpa using this
theorem kE.skip(h:kE us s left k Ts)(hc:((s.getD k 0 == 76)== left)=false):kE us s left (k+1) Ts:=by
 unfold kE at *;rw[sU,hc];simpa using h
theorem kE.take(h:kE us s left k Ts)(hc:((s.getD k 0 == 76)== left)=true){so:ByteArray}(hs:so.data.toList=lW us s k):kE us s left (k+1) (Ts++[(iJ us s k,so)]):=by
 unfold kE;rw[sU,hc,if_pos rfl,bz,bz,h];simp[hs]
theorem kE.at{us:List Int}{s:List UInt8}{left:Bool}{k i:Nat}{Ts:List (List Int × ByteArray)}(h:kE us s left k Ts)(hi:i<Ts.length):∃e,(dU s left k)[i]?=some e/\(Ts[i]).1=iJ us s e/\(Ts[i]).2.data.toList=lW us s e:=by
 have hl:=h.len;have h2:=congrArg (λl=>l[i]?) h;simp only[bO,ae hi,ae (show i<(dU s left k).length by omega),eT,bN,Prod.mk.injEq]at h2;exact⟨_,ae (by omega),h2.1,h2.2⟩
def JF(us:List Int)(s:List UInt8)(left:Bool)(w:World)(en:Ending)(w':World):Prop:=
 ∃v Ts,en=.returned v/\Rows Cw 2 (λb=>w.heap.size<=b/\b<w'.heap.size) w' v Ts/\kE us s left us.length Ts/\Ext w w'
theorem Iu(vu:Value)(us:List Int)(sb:ByteArray)(left:Bool)(w:World)(hv:Ints w vu us)(g:GT us sb.data.toList):
 Calls prog 94 #[.agg #[vu,.string sb],.bool left] w (JF us sb.data.toList left w):=by
 obtain⟨i0,hi0,hz0,hz1,hz2⟩:=info_parts Ec;obtain⟨au,jm,rfl,hlc,hcap,hc⟩:=id hv;have Pj:=g.small;generalize hn:us.length=n at *;go_enter Tryz.func94,Tryz.ntmps94
 go_wp2
 have hxb:Ext w (w.alloc (.cells #[.slice au n jm,.string sb] 43)):=by go_grown
 have hbb:=dV w (.cells #[.slice au n jm,.string sb] 43);have Vr:(w.alloc (.cells #[.slice au n jm,.string sb] 43)).heap.size=w.heap.size+1:=by simp
 generalize w.alloc (.cells #[.slice au n jm,.string sb] 43)=W0 at *;have hx0:=hxb.size;have hzb:=bq hbb;have hr0:(W0.alloc (.cells #[] 43)).ownsRow w.heap.size 43 2 (.slice (some ⟨W0.heap.size,0,none⟩) 0 0) 0 []:=World.ownsRow_made W0 #[] 0 (by omega) (by decide) (by simp);rw[Vr]at hr0;clear Vr;have tV:Ext w (W0.alloc (.cells #[] 43)):=bJ hxb _;have hbc:(W0.alloc (.cells #[] 43)).heap[w.heap.size]?=some (.cells #[.slice au n jm,.string sb] 43 (0,0)):=by rw[gI _ _ _ hzb];exact hbb
 go_loopw [5,6] (λov ii wr=>∃k Ts xs,k<=n/\ii=.int .i64 ((k:Nat):Int)/\Ext w wr/\wr.heap[w.heap.size]?=some (.cells #[.slice au n jm,.string sb] 43 (0,0))/\wr.ownsRow w.heap.size 43 2 ov Ts.length xs/\(∀b,ov.ownBlock=some b->w.heap.size<b)/\Items Cw (KS w wr ov) 2 xs Ts wr/\Hid (kE us sb.data.toList left k Ts)) (λ_ ii _=>n-(intOf ii).toNat)
 case atStart=>exact⟨0,[],[],az _,rfl,tV,hbc,hr0,λb hb=>by simp[Value.ownBlock]at hb;omega,Items.nil λb hb=>hb.2.1,by simp[Hid,kE,dU]⟩
 case round=>
  clear hr0 tV hbc hbb hxb;obtain⟨k,Ts,xs,hk,rfl,hE,jk,hown,hsep,hit,HT⟩:=hrel;have c0:=bI wr w.heap.size 0 _ _ _ jk;have c1:=bI wr w.heap.size 1 _ _ _ jk;by_cases hlt:k<n
  .have h1:((k:Nat):Int)<(n:Int):=by omega
   have hsl:k<sb.data.toList.length:=(by have:=g.len;omega);have hkb:k<sb.size:=(by have:sb.size=sb.data.size:=rfl;simp at hsl;omega);have hgd:sb.data.toList.getD k 0=sb[k]:=(by rw[aO,ae hsl];rfl);have Al:(sb.data.toList.getD k 0 == 76)=(((sb[k].toNat:Nat):Int)== 76):=by
    rw[hgd,fV,beq_iff_eq,beq_iff_eq,<-UInt8.toNat_inj];constructor
    .intro h;rw[h];rfl
    .intro h;show sb[k].toNat=76;omega
   cases hcc:(((((sb[k].toNat:Nat):Int)== 76))== left)with
   |false=>
    have HR:=aI (HT.out.skip (by rw[Al];exact hcc));clear Al hgd;go_wp2
    go_roundw
    case rel=>exact⟨k+1,Ts,xs,by omega,by go_num,hE,jk,hown,hsep,hit,HR.out⟩
    case measure=>simp[intOf];omega
   |true=>
    have HR:=λso=>aI (HT.out.take (so:=so) (by rw[Al];exact hcc))
    clear Al hgd;have hlen:=HT.out.len;have hle:=(lV sb.data.toList k);have hTl:Ts.length<=k:=(by rw[hlen];cases left <;> omega);clear hlen hle;obtain⟨ao,co,rfl,hco,_⟩:=bu hown;have hvk:=hv.ext hE
    go_wp2_with (first
     |(go_at_call 137;refine(KP _ us sb k _ hvk g (by omega)).mono ?_;rintro e w1 ⟨vo,so,rfl,hI,hso,hfr,hx1⟩
       obtain⟨av,cv,rfl,-⟩:=id hI;have SN:=hit.ext hx1;have hE1:=ah hE hx1;have hown1:=bW hown hx1;have YI:=hE1.size)
     |(at_builtin;refine dm rfl (.tmp 22) (.tmp 26) 75 rfl w.heap.size 43 i0 (.agg #[.slice none 0 0,.string ⟨#[]⟩]) 2 40 underlying75 hi0 hz0 hz1 hz2 rfl (by decide) (.slice ao Ts.length co) Ts.length xs rfl (hown1.alloc _) _ 1 _ [.slice av (iJ us sb.data.toList k).length cv,.string so] rfl rfl (.inr ⟨_,rfl,Au (w:=w1)⟩) Dp (by unfold maxLen;omega) (by omega) (by rw[eX];omega) ?_;intro v5 w5 ji hg5 hl5))
    go_roundw
    case rel=>
     have zU:Ext w w5:=dw (bJ hE1 _) hg5 (λb hb=>by have:=hsep b hb;omega);have ry:w5.heap[w.heap.size]?=some (.cells #[.slice au n jm,.string sb] 43 (0,0)):=by
      have hb1:=jk;rw[<-hx1.block _ (bq jk)]at hb1;rw[hg5.block _ (by rw[eX];have:=bq hb1;omega) (λe=>by have:=hsep _ e.symm;omega),gI _ _ _ (bq hb1)];exact hb1
     have IQ:∀b,v5.ownBlock=some b->w.heap.size<b:=λb hb=>by
      rcases hl5 with h|⟨q,h,h2⟩
      .exact hsep b (by rw[<-h];exact hb)
      .rw[h]at hb;injection hb with hb;subst hb;rw[eX]at h2;have:=bq jk;have:=hx1.size;omega
     exact⟨k+1,Ts++[(iJ us sb.data.toList k,so)],xs++[.slice av (iJ us sb.data.toList k).length cv,.string so],by omega,by go_num,zU,ry,by rw[aK];exact ji,IQ,Items.push hit hE hx1 hown rfl (nN.mono (hI.sup (S:=λb=>wr.heap.size<=b/\b<w1.heap.size) (λb hb=>hb.2) (λb hb=>hfr b hb)) (λ_ h=>h) (λb hb=>hb.2) (λW hW=>⟨av,cv,rfl,hW⟩)) hg5 hl5,(HR so).out hso⟩
    case measure=>simp[intOf];omega
  .have h1:¬(((k:Nat):Int)<(n:Int)):=by omega
   have hke:k=n:=(by omega);subst hke;have hz:=hE.size;go_wp2
   go_ret
   exact⟨_,Ts,rfl,Rows.dX hown rfl hit (λb hb=>⟨hb.1,hb.2.1⟩) (λb hb=>⟨by have:=hsep b hb;omega,(hown.lt b hb).2⟩) (λb hb=>hb.2),by rw[hn];exact HT.out,hE⟩
end
section
open Go.RowKit
open aZ (cZ Nd vl Same)
theorem TT(vu:Value)(us:List Int)(sb:ByteArray)(left:Bool)(w:World)(hv:Ints w vu us)(g:GT us sb.data.toList):
 Calls prog 46 #[.agg #[vu,.string sb],.bool left] w (JF us sb.data.toList left w):=by
 obtain⟨i0,hi0,hz0,hz1,hz2⟩:=info_parts Ec;obtain⟨au,jm,rfl,hlc,hcap,hc⟩:=id hv;have Pj:=g.small;generalize hn:us.length=n at *;go_enter Tryz.func46,Tryz.ntmps46
 go_wp2
 have hxb:Ext w (w.alloc (.cells #[.slice au n jm,.string sb] 43)):=by go_grown
 have hbb:=dV w (.cells #[.slice au n jm,.string sb] 43);have Vr:(w.alloc (.cells #[.slice au n jm,.string sb] 43)).heap.size=w.heap.size+1:=by simp
 generalize w.alloc (.cells #[.slice au n jm,.string sb] 43)=W0 at *;have hx0:=hxb.size;have hzb:=bq hbb;have hr0:(W0.alloc (.cells #[] 43)).ownsRow w.heap.size 43 2 (.slice (some ⟨W0.heap.size,0,none⟩) 0 0) 0 []:=World.ownsRow_made W0 #[] 0 (by omega) (by decide) (by simp);rw[Vr]at hr0;clear Vr;have tV:Ext w (W0.alloc (.cells #[] 43)):=bJ hxb _;have hbc:(W0.alloc (.cells #[] 43)).heap[w.heap.size]?=some (.cells #[.slice au n jm,.string sb] 43 (0,0)):=by rw[gI _ _ _ hzb];exact hbb
 go_loopw [5,6,11] (λov _ ii wr=>∃k Ts xs,k<=n/\ii=.int .i64 ((k:Nat):Int)/\Ext w wr/\wr.heap[w.heap.size]?=some (.cells #[.slice au n jm,.string sb] 43 (0,0))/\wr.ownsRow w.heap.size 43 2 ov Ts.length xs/\(∀b,ov.ownBlock=some b->w.heap.size<b)/\Items Cw (KS w wr ov) 2 xs Ts wr/\Hid (kE us sb.data.toList left k Ts)) (λ_ _ ii _=>n-(intOf ii).toNat)
 case atStart=>exact⟨0,[],[],az _,rfl,tV,hbc,hr0,λb hb=>by simp[Value.ownBlock]at hb;omega,Items.nil λb hb=>hb.2.1,by simp[Hid,kE,dU]⟩
 case round=>
  clear hr0 tV hbc hbb hxb;obtain⟨k,Ts,xs,hk,rfl,hE,jk,hown,hsep,hit,HT⟩:=hrel;have c0:=bI wr w.heap.size 0 _ _ _ jk;have c1:=bI wr w.heap.size 1 _ _ _ jk;by_cases hlt:k<n
  .have h1:((k:Nat):Int)<(n:Int):=by omega
   have hsl:k<sb.data.toList.length:=(by have:=g.len;omega);have hkb:k<sb.size:=(by have:sb.size=sb.data.size:=rfl;simp at hsl;omega);have hgd:sb.data.toList.getD k 0=sb[k]:=(by rw[aO,ae hsl];rfl);have Al:(sb.data.toList.getD k 0 == 76)=(((sb[k].toNat:Nat):Int)== 76):=by
    rw[hgd,fV,beq_iff_eq,beq_iff_eq,<-UInt8.toNat_inj];constructor
    .intro h;rw[h];rfl
    .intro h;show sb[k].toNat=76;omega
   cases hcc:(((((sb[k].toNat:Nat):Int)== 76))== left)with
   |false=>
    have HR:=aI (HT.out.skip (by rw[Al];exact hcc));clear Al hgd;go_wp2
    go_roundw
    case rel=>exact⟨k+1,Ts,xs,by omega,by go_num,hE,jk,hown,hsep,hit,HR.out⟩
    case measure=>simp[intOf];omega
   |true=>
    have HR:=λso=>aI (HT.out.take (so:=so) (by rw[Al];exact hcc))
    clear Al hgd;have hlen:=HT.out.len;have hle:=(lV sb.data.toList k);have hTl:Ts.length<=k:=(by rw[hlen];cases left <;> omega);clear hlen hle;obtain⟨ao,co,rfl,hco,_⟩:=bu hown;have hvk:=hv.ext hE
    go_wp2_with (first
     |(go_at_call 91;refine(XU _ us sb k _ hvk g (by omega)).mono ?_;rintro e w1 ⟨vo,so,rfl,hI,hso,hfr,hx1⟩
       obtain⟨av,cv,rfl,-⟩:=id hI;have SN:=hit.ext hx1;have hE1:=ah hE hx1;have hown1:=bW hown hx1;have YI:=hE1.size)
     |(at_builtin;refine dm rfl (.tmp 21) (.tmp 25) 75 rfl w.heap.size 43 i0 (.agg #[.slice none 0 0,.string ⟨#[]⟩]) 2 40 underlying75 hi0 hz0 hz1 hz2 rfl (by decide) (.slice ao Ts.length co) Ts.length xs rfl (hown1.alloc _) _ 1 _ [.slice av (iJ us sb.data.toList k).length cv,.string so] rfl rfl (.inr ⟨_,rfl,Au (w:=w1)⟩) Dp (by unfold maxLen;omega) (by omega) (by rw[eX];omega) ?_;intro v5 w5 ji hg5 hl5))
    go_roundw
    case rel=>
     have zU:Ext w w5:=dw (bJ hE1 _) hg5 (λb hb=>by have:=hsep b hb;omega);have ry:w5.heap[w.heap.size]?=some (.cells #[.slice au n jm,.string sb] 43 (0,0)):=by
      have hb1:=jk;rw[<-hx1.block _ (bq jk)]at hb1;rw[hg5.block _ (by rw[eX];have:=bq hb1;omega) (λe=>by have:=hsep _ e.symm;omega),gI _ _ _ (bq hb1)];exact hb1
     have IQ:∀b,v5.ownBlock=some b->w.heap.size<b:=λb hb=>by
      rcases hl5 with h|⟨q,h,h2⟩
      .exact hsep b (by rw[<-h];exact hb)
      .rw[h]at hb;injection hb with hb;subst hb;rw[eX]at h2;have:=bq jk;have:=hx1.size;omega
     exact⟨k+1,Ts++[(iJ us sb.data.toList k,so)],xs++[.slice av (iJ us sb.data.toList k).length cv,.string so],by omega,by go_num,zU,ry,by rw[aK];exact ji,IQ,Items.push hit hE hx1 hown rfl (nN.mono (hI.sup (S:=λb=>wr.heap.size<=b/\b<w1.heap.size) (λb hb=>hb.2) (λb hb=>hfr b hb)) (λ_ h=>h) (λb hb=>hb.2) (λW hW=>⟨av,cv,rfl,hW⟩)) hg5 hl5,(HR so).out hso⟩
    case measure=>simp[intOf];omega
  .have h1:¬(((k:Nat):Int)<(n:Int)):=by omega
   have hke:k=n:=(by omega);subst hke;have hz:=hE.size;go_wp2
   go_ret
   exact⟨_,Ts,rfl,Rows.dX hown rfl hit (λb hb=>⟨hb.1,hb.2.1⟩) (λb hb=>⟨by have:=hsep b hb;omega,(hown.lt b hb).2⟩) (λb hb=>hb.2),by rw[hn];exact HT.out,hE⟩
end
