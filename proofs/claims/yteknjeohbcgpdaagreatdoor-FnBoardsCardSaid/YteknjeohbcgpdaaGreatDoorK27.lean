/-
  Contract of the program's TurnBoard. (6 texts.)
-/
import Derived.Test.YteknjeohbcgpdaaGreatDoorK22
import Derived.Test.YteknjeohbcgpdaaGreatDoorK26
import Derived.WalkSmall
namespace Go.Proofs.YteknjeohbcgpdaaGreatDoor.bO
theorem adb{f:Nat->Nat->Nat × Nat}:∀n {A B:Cs},cnt A<=n->Bd A->Bd B->(∀r c,A r c=true->B (f r c).1 (f r c).2=true)->(∀r c r' c',A r c=true->A r' c'=true->f r c=f r' c'->r=r'/\c=c')->cnt A<=cnt B:=by
 intro n
 induction n with
 |zero=>intro A B hn _ _ _ _;omega
 |succ n ih=>
  intro A B hn hA hB h hi;by_cases h0:cnt A=0
  .omega
  .obtain⟨p,hp,hs⟩:=List.countP_pos_iff.1 (show 0<grid.countP (λp=>A p.1 p.2) from by unfold cnt at h0;omega)
   obtain⟨r,c⟩:=p;simp only at hs;have hs':=h r c hs;have a1:=rM (hA _ _ hs) hs;have a2:=rM (hB _ _ hs') hs';have:=ih (A:=rm A r c) (B:=rm B (f r c).1 (f r c).2) (by omega) (λx y k=>hA x y (kW.1 k).1) (λx y k=>hB x y (kW.1 k).1) (λx y k=>by
    obtain⟨k1,k2⟩:=kW.1 k;exact kW.2 ⟨h x y k1,λe=>k2 (hi x y r c k1 hs (Prod.ext e.1 e.2))⟩) (λx y x' y' k k' e=>hi x y x' y' (kW.1 k).1 (kW.1 k').1 e)
   omega
def swp(S:Cs):Cs:=λr c=>S c r
theorem Bd.swp{S:Cs}(h:Bd S):Bd (swp S):=λr c k=>(h c r k).symm
theorem Pv{S:Cs}(h:Bd S):cnt (swp S)=cnt S:=by
 have key:∀{S:Cs},Bd S->cnt (bO.swp S)<=cnt S:=λ{S} h=>adb (f:=λr c=>(c,r)) _ (ay _) h.swp h (λr c k=>k) (λr c r' c' _ _ e=>by simp only[Prod.mk.injEq]at e;exact⟨e.2,e.1⟩)
 have h1:=key h;have h2:=key h.swp;have e:bO.swp (bO.swp S)=S:=rfl;rw[e]at h2;omega
theorem ZC(left:Bool)(S:Cs)(r c:Nat):can left (swp S) r c=can (!left) S c r:=by cases left <;> rfl
def Wd(w:Nat)(S:Cs):Prop:=∀r c,S r c=true->c<w
theorem Wd.lay{S:Cs}{w:Nat}(h:Wd w S){left:Bool}(r c:Nat):Wd w (lay left S r c):=λx y k=>h x y (lI.1 k).1
end Go.Proofs.YteknjeohbcgpdaaGreatDoor.bO
namespace Go.Proofs.YteknjeohbcgpdaaGreatDoor.bO
variable {α:Type} {i h w r c x y r0 n c0 m:Nat} {b:fw}
theorem getD_at{l:List α}(d:α)(h:i<l.length):l.getD i d=l[i]:=by rw[aj,aa h];rfl
theorem Pg{l:List α}(d:α)(h:l.length<=i):l.getD i d=d:=by rw[aj,ek h];rfl
theorem GB.out(g:GB b h w)(k:h<=r\/w<=c):at_ b r c=0:=by
 unfold at_;by_cases hr:r<b.length
 .rw[getD_at [] hr]
  have:=(g.row _ (ai hr)).1;have:=g.hgt;exact Pg 0 (by omega)
 .rw[Pg [] (by omega)];rfl
theorem GB.rows(g:GB b h w)(hr:r<b.length):(b[r]).length=w:=(g.row _ (ai hr)).1
theorem agK{b':fw}(h:at_ b r c=at_ b' x y):fr b r c=fr b' x y:=by unfold fr;rw[h]
theorem GB.wd(g:GB b h w):Wd w (fr b):=λ_ _ k=>(g.Az k).2
def oz(r0 n c0 m:Nat)(b:fw):fw:=((b.drop r0).take n).map λr=>(r.drop c0).take m
theorem GB.oz{b:fw}{h w r0 n c0 m:Nat}(g:GB b h w)(hn:1<=n)(hr:r0+n<=h)(hm:1<=m)(hc:c0+m<=w):GB (oz r0 n c0 m b) n m:=by
 have h8:=g.h1;have w8:=g.w1;refine⟨by simp[bO.oz,g.hgt];omega,⟨hn,by omega⟩,⟨hm,by omega⟩,λr hr'=>?_⟩;obtain⟨x,hx,rfl⟩:=aH.1 hr';obtain⟨h1,h2⟩:=g.row x (jq (dY hx));exact⟨by rw[dI,iB];omega,λc hc=>h2 c (jq (dY hc))⟩
theorem ZJ(g:GB b h w)(hr:r0+n<=h)(hc:c0+m<=w)(hx:x<n)(hy:y<m):at_ (oz r0 n c0 m b) x y=at_ b (x+r0) (y+c0):=by
 have hh:=g.hgt;have h1:x+r0<b.length:=by omega
 have h2:x<(oz r0 n c0 m b).length:=by simp[oz];omega
 have hw:=g.rows h1;rw[A7 h2,A7 h1];have e:(oz r0 n c0 m b)[x]=((b[x+r0]).drop c0).take m:=by
  simp only[oz,fT,List.getElem_take,rT];have:r0+x=x+r0:=by omega
  simp only[this]
 rw[e,getD_at 0 (by rw[dI,iB];omega),getD_at 0 (by omega),List.getElem_take,rT];have:c0+y=y+c0:=by omega
 simp only[this]
theorem Po(g:GB b h w)(hn:1<=n)(hr:r0+n<=h)(hm:1<=m)(hc:c0+m<=w)(hf:∀r c,fr b r c=true->(r0<=r/\r<r0+n)/\(c0<=c/\c<c0+m))(x y:Nat):fr (oz r0 n c0 m b) x y=fr b (x+r0) (y+c0):=by
 by_cases k:x<n/\y<m
 .exact agK (ZJ g hr hc k.1 k.2)
 .have e1:fr (oz r0 n c0 m b) x y=false:=by
   cases q:fr (oz r0 n c0 m b) x y with
   |false=>rfl
   |true=>exact absurd ((g.oz hn hr hm hc).Az q) k
  have e2:fr b (x+r0) (y+c0)=false:=by
   cases q:fr b (x+r0) (y+c0)with
   |false=>rfl
   |true=>obtain⟨⟨_,a⟩,⟨_,d⟩⟩:=hf _ _ q;exact absurd ⟨by omega,by omega⟩ k
  rw[e1,e2]
def alo:fw:=[[35]]
end Go.Proofs.YteknjeohbcgpdaaGreatDoor.bO
namespace Go.Proofs.YteknjeohbcgpdaaGreatDoor
open Go.RowKit
open bO (fw GB)
variable {w wr:World} {po:Nat} {bx ov:Value} {out:List ByteArray}
structure XA(w wr:World)(po:Nat)(bx ov:Value)(out:List ByteArray):Prop where
 b0:wr.heap[w.heap.size]?=some (.cells #[bx] 31 (0,0))
 b1:wr.heap[w.heap.size+1]?=some (.cells #[.slice none 0 0] 31 (0,0))
 b2:wr.heap[po]?=some (.cells #[ov] 31 (0,0))
 own:wr.ownsRow (po+1) 9 1 ov out.length (out.map Value.string)
 pz:w.heap.size+1<po
 ext:Ext w wr
theorem XA.ext'{w2:World}(m:XA w wr po bx ov out)(hx:Ext wr w2):XA w w2 po bx ov out:=
 ⟨(hx.block _ (bu m.b0)).trans m.b0,(hx.block _ (bu m.b1)).trans m.b1,(hx.block _ (bu m.b2)).trans m.b2,bY m.own hx,m.pz,ax m.ext hx⟩
theorem XA.put{w5:World}{v5:Value}{X:Obj}{s:ByteArray}(m:XA w wr po bx ov out)
 (ho:w5.ownsRow (po+1) 9 1 v5 (out.length+1) (out.map Value.string++[.string s])) (hg:(wr.alloc X).grownBy w5 ov.ownBlock):XA w (w5.setCell ⟨po,0,none⟩ v5) po bx v5 (out++[s])/\w5.cell? ⟨po,0,none⟩=some ov/\w5.frozen? ⟨po,0,none⟩=false:=by
 have hp:=m.pz;obtain⟨q1,q2,q3,q4,q5⟩:=Ih m.b2 (λb hb=>(m.own.lt b hb).1) (lu po) ho hg;have hn:∀b,b<po->¬(b=po\/ov.ownBlock=some b):=λb hb hc=>by
  rcases hc with c|c
  .omega
  .have:=(m.own.lt b c).1;omega
 refine⟨⟨(q5.block _ (bu m.b0) (hn _ (by omega))).trans m.b0,(q5.block _ (bu m.b1) (hn _ (by omega))).trans m.b1,q1,?_,hp,jw m.ext q5 (λb hc=>?_)⟩,q3,q4⟩
 .rw[bG,aK];exact q2
 .rcases hc with c|c
  .omega
  .have:=(m.own.lt b c).1;omega
end Go.Proofs.YteknjeohbcgpdaaGreatDoor
namespace Go.Proofs.YteknjeohbcgpdaaGreatDoor
open Go.RowKit
open bO (fw GB fD fr wS mH rD pK can)
variable {b:fw} {i:Nat} {out:List ByteArray} {w wr w5:World} {bx ov:Value} {X:Obj}
theorem yX(left:Bool)(r c:Nat)(hi:i<b.length):
 (wS left b r c)[i]?=some (if i=r then(if left then(b[i]).set c 35 else((b[i]).set c 35).set (c+1) 35)else if left=true/\i=r+1 then(b[i]).set c 35 else b[i]):=by
 unfold wS mH;rw[eX];cases left with
 |true=>
  simp only[rD,pK,if_true,eO];by_cases h1:r+1=i
  .subst h1
   rw[if_pos rfl,if_pos hi,if_neg (by omega),if_pos (by simp)];simp only[aj,eX,if_neg (show ¬r=r+1 by omega),aa hi,bW]
  .rw[if_neg h1,eX]
   by_cases h2:r=i
   .subst h2
    rw[if_pos rfl,if_pos hi,if_pos rfl];simp only[aj,aa hi,bW]
   .rw[if_neg h2,if_neg (λe=>h2 e.symm),if_neg (λe=>h1 e.2.symm),aa hi]
 |false=>
  simp only[rD,pK,lF,if_false,false_and,eO];by_cases h2:r=i
  .subst h2
   rw[if_pos rfl,if_pos hi,if_pos rfl];simp only[aj,eX,if_true,aa hi,bW,if_pos hi]
  .rw[if_neg h2,if_neg (λe=>h2 e.symm),eX,if_neg h2,aa hi]
theorem Ox(left:Bool)(b:fw)(r c:Nat):(wS left b r c).length=b.length:=by unfold wS mH;simp
theorem PD(out:List ByteArray)(s:ByteArray):bd (out++[s])=bd out++[ll s]:=by unfold bd;rw[bG];rfl
theorem adk(l:List UInt8):ll ⟨l.toArray⟩=l:=by unfold ll;simp
theorem JE{l:List UInt8}(h:bd out=b.take i)(hl:b[i]?=some l):bd (out++[⟨l.toArray⟩])=b.take (i+1):=by
 have hi:=(cK.1 hl).1;rw[PD,adk,h,bg hi,(cK.1 hl).2]
structure WU(w wr:World)(bx ov:Value)(out:List ByteArray):Prop where
 b0:wr.heap[w.heap.size]?=some (.cells #[bx] 31 (0,0))
 b1:wr.heap[w.heap.size+1]?=some (.cells #[.slice none 0 0] 31 (0,0))
 b2:wr.heap[w.heap.size+2]?=some (.cells #[ov] 31 (0,0))
 own:wr.ownsRow w.heap.size 9 1 ov out.length (out.map Value.string)
 sep:∀b,ov.ownBlock=some b->w.heap.size+3<=b
 ext:Ext w wr
theorem WU.ext'{w2:World}(m:WU w wr bx ov out)(hx:Ext wr w2):WU w w2 bx ov out:=
 ⟨(hx.block _ (bu m.b0)).trans m.b0,(hx.block _ (bu m.b1)).trans m.b1,(hx.block _ (bu m.b2)).trans m.b2,bY m.own hx,m.sep,ax m.ext hx⟩
theorem WU.put{w4:World}{v5:Value}{s:ByteArray}(m:WU w wr bx ov out)(hx:Ext wr w4)
 (ho:w5.ownsRow w.heap.size 9 1 v5 (out.length+1) (out.map Value.string++[.string s])) (hg:(w4.alloc X).grownBy w5 ov.ownBlock) (hl:kR (w4.alloc X) ov v5):WU w (w5.setCell ⟨w.heap.size+2,0,none⟩ v5) bx v5 (out++[s]):=by
 have hz:(w4.alloc X).heap.size=w4.heap.size+1:=eQ _ _;have z4:=hx.size;have zg:=hg.size;have h2:=bu m.b2;have hk:dX (λb=>ov.ownBlock=some b) wr w5:=⟨hg.os.trans hx.os,hg.tape.trans hx.tape,hg.output.trans hx.output,by omega,λb hb hn=>by
  rw[hg.block b (by omega) (λe=>hn e.symm),Below.heap_alloc _ _ _ (by omega),hx.block b hb]⟩
 have hsep:∀b,v5.ownBlock=some b->w.heap.size+3<=b:=λb hb=>by
  rcases hl with e|⟨q,e,k⟩
  .exact m.sep b (by rw[<-e];exact hb)
  .rw[e]at hb;injection hb with hb;omega
 have hb:∀b v,b<w.heap.size+3->wr.heap[b]?=some (.cells #[v] 31 (0,0))->w5.heap[b]?=some (.cells #[v] 31 (0,0)):=λb v hb h=>
  (hk.block b (bu h) (λe=>by have:=m.sep b e;omega)).trans h
 refine⟨?_,?_,heap_setCell_same _ _ _ _ _ _ (hb _ _ (by omega) m.b2),?_,hsep,?_⟩
 .rw[heap_setCell_other _ _ _ _ (by show w.heap.size≠w.heap.size+2;omega)];exact hb _ _ (by omega) m.b0
 .rw[heap_setCell_other _ _ _ _ (by show w.heap.size+1≠w.heap.size+2;omega)];exact hb _ _ (by omega) m.b1
 .rw[bG,aK]
  exact bI ho (dV (p:=⟨w.heap.size+2,0,none⟩)) (λb hb e=>by have:=hsep b hb;have:b=w.heap.size+2:=e;omega)
 .exact(jw m.ext hk λb e=>by have:=m.sep b e;omega).setCell (p:=⟨w.heap.size+2,0,none⟩) (by show w.heap.size<=w.heap.size+2;omega) _
theorem pX:(Tryz.prog.info? 9).map (λi=>(i.zero,i.size,i.bytes))=some (some (.string ⟨#[]⟩),1,16):=by kernel_rfl
theorem TJ(m:WU w wr bx ov out)(hg:(wr.alloc X).grownBy w5 ov.ownBlock):w5.heap[w.heap.size+2]?=some (.cells #[ov] 31 (0,0)):=by
 have h:=bu m.b2;rw[hg.block _ (by rw[eQ];omega) (λe=>by have:=m.sep _ e.symm;omega),Below.heap_alloc _ _ _ h];exact m.b2
set_option maxHeartbeats 2000000 in
set_option maxRecDepth 100000 in
theorem Mk(v:Value)(ss:List ByteArray)(hh ww r c:Nat)(left:Bool)(w:World)(h:Strs w v ss)(g:GB (bd ss) hh ww)(hc:can left (fr (bd ss)) r c=true):
 Calls Tryz.prog 150 #[.agg #[v],.int .i64 ((r:Nat):Int),.int .i64 ((c:Nat):Int),.bool left] w λe w'=>∃v' ss',e=.returned (.agg #[v'])/\w'.ownsRow w.heap.size 9 1 v' ss'.length (ss'.map Value.string)/\bd ss'=wS left (bd ss) r c/\Ext w w':=by
 obtain⟨i0,hi0,hz0,hz1,hz2⟩:=info_parts pX;obtain⟨a,cap,rfl,hcap,p8⟩:=h.open;have DT:=(bO.iZ.1 hc);have hrc:=g.Az DT.1;have ajn:=g.Az DT.2;have hh8:=g.h1;have hw8:=g.w1;have hlen:ss.length=hh:=oh g;have HG:=aQ g;have HLEN:=aQ hlen;have hsz:∀s,s∈ss->s.size=ww:=λs hs=>by
  obtain⟨i,hi,rfl⟩:=aW.1 hs;exact og g hi
 have HI8:Hid (ss.length<=8):=aQ (by omega);clear hc DT hlen g;have hxb:Ext w (((w.alloc (.cells #[.slice a ss.length cap] 31)).alloc (.cells #[.slice none 0 0] 31)).alloc (.cells #[.slice none 0 0] 31)):=by go_grown
 have hM0:WU w (((w.alloc (.cells #[.slice a ss.length cap] 31)).alloc (.cells #[.slice none 0 0] 31)).alloc (.cells #[.slice none 0 0] 31)) (.slice a ss.length cap) (.slice none 0 0) []:=by
  refine⟨?_,?_,?_,⟨by simp,.inl ⟨rfl,rfl⟩⟩,λb hb=>by simp[Value.ownBlock]at hb,hxb⟩
  .rw[Below.heap_alloc _ _ _ (by simp;omega),Below.heap_alloc _ _ _ (by simp)];exact heap_alloc_new _ _
  .rw[Below.heap_alloc _ _ _ (by simp)]
   have h:=heap_alloc_new (w.alloc (.cells #[.slice a ss.length cap] 31)) (.cells #[.slice none 0 0] 31);rw[eQ]at h;exact h
  .have h:=heap_alloc_new ((w.alloc (.cells #[.slice a ss.length cap] 31)).alloc (.cells #[.slice none 0 0] 31)) (.cells #[.slice none 0 0] 31);rw[eQ,eQ]at h;exact h
 go_enter Tryz.func150,Tryz.ntmps150
 go_upto_region 2 with fail
 generalize (((w.alloc (.cells #[.slice a ss.length cap] 31)).alloc (.cells #[.slice none 0 0] 31)).alloc (.cells #[.slice none 0 0] 31))=We at *;have c0:=cell_of_row We w.heap.size 0 _ _ _ hM0.b0;simp only[gE]at c0;rw[show w.heap.size+1+1=w.heap.size+2 from rfl];go_wp2
 go_loopw [10,11,12,17] (λ_ _ _ ii wr=>∃(i:Nat) (ov:Value) (out:List ByteArray),ii=.int .i64 ((i:Nat):Int)/\i<=ss.length/\WU w wr (.slice a ss.length cap) ov out/\Hid (bd out=(wS left (bd ss) r c).take i)) (λ_ _ _ ii _=>ss.length-(intOf ii).toNat)
 case atStart=>exact⟨0,_,[],rfl,aJ _,hM0,aQ rfl⟩
 case round=>
  clear hM0 c0 hxb;obtain⟨i,ov,out,rfl,hi,hM,xN⟩:=hrel;by_cases hlt:i<ss.length
  .have hil:((i:Nat):Int)<((ss.length:Nat):Int):=by omega
   obtain⟨b,off,rfl,hcl⟩:=(h.ext hM.ext).at hlt;have ci:=hcl i hlt;have hsi:=hsz _ (ai hlt);have fJ:=aQ hlt;obtain⟨si,rU⟩:∃si:ByteArray,ss[i]'(fJ.out)=si:=⟨_,rfl⟩;rw[rU]at ci hsi;have EU:=aQ rU;have HM:=aQ hM;have Xf:=aQ hsi;have hcs:c<si.size:=(by omega);have hss:si.size<=8:=(by omega);have hcv:=Lib.run_convert_string_bytes (P:=Tryz.prog) wr 9 38 5 si Tryz.underlying9 Tryz.underlying38 Tryz.underlying5;have hX:=Ga (Below.refl _ _:Ext wr wr) si;have hB:=Ck.new wr si;have hbl:(si.data.toList).length=si.size:=jA si;have hi8:=HI8.out;clear hM hlt rU hcl hsi;go_upto_region 6 with fail
   have ebd:si.data.toList=ll si:=rfl;rw[ebd]at hB hbl;clear hcv ebd;by_cases hir:i=r
   case' pos=>
    have N7:=aQ hir;have hq:(((i:Nat):Int)== ((r:Nat):Int))=true:=(by simp[hir]);have hq1:((i:Nat):Int)=((r:Nat):Int):=(by omega);clear hir;have fz:=hB.frozen (k:=c) (by omega);have cz:=hB.cell (k:=c) (by omega);generalize (ll si)[c]'(by omega)=u0 at cz;have hB1:=hB.set (k:=c) (by omega) 35 35 rfl;have hX1:=hX.setCell (p:=⟨wr.heap.size,c,none⟩) (ay _) (.int .u8 35);cases left
    case' true=>
     have hq2:(((i:Nat):Int)== ((r:Nat):Int)+1)=false:=(by have:=N7.out;simp;omega);clear hB hX hq1;have hB:=hB1;have hX:=hX1;clear hB1 hX1;have HQ:∃l Wq,Wq=_/\Ck Wq wr.heap.size l/\Ext wr Wq/\si.size=l.length/\(wS true (bd ss) r c)[i]?=some l:=⟨_,_,rfl,hB,hX,by(try simp only[eO]);omega,by rw[yX true r c (by rw[iy];exact fJ.out),uH fJ.out,EU.out,if_pos N7.out,if_pos rfl]⟩;go_upto_region 12 with fail
    case' false=>
     have hc1:c+1<si.size:=(by have e2:=ajn.2;have e3:=Xf.out;have e4:pK false c=c+1:=rfl;omega);clear hB hX hq1;have fz1:=hB1.frozen (k:=c+1) (by rw[eO];omega);have cz1:=hB1.cell (k:=c+1) (by rw[eO];omega);generalize ((ll si).set c 35)[c+1]'(by rw[eO];omega)=u1 at cz1;have hB:=hB1.set (k:=c+1) (by rw[eO];omega) 35 35 rfl;have hX:=hX1.setCell (p:=⟨wr.heap.size,c+1,none⟩) (ay _) (.int .u8 35);clear hB1 hX1;have HQ:∃l Wq,Wq=_/\Ck Wq wr.heap.size l/\Ext wr Wq/\si.size=l.length/\(wS false (bd ss) r c)[i]?=some l:=⟨_,_,rfl,hB,hX,by(try simp only[eO]);omega,by rw[yX false r c (by rw[iy];exact fJ.out),uH fJ.out,EU.out,if_pos N7.out,if_neg (by simp)]⟩;go_upto_region 12 with fail
   case' neg=>
    have N7:=aQ hir;have hq:(((i:Nat):Int)== ((r:Nat):Int))=false:=(by simp;omega);have hq1:¬(((i:Nat):Int)=((r:Nat):Int)):=(by omega);cases left
    case' true=>
     by_cases YY:i=r+1
     case' pos=>
      have xO:=aQ YY;have hq2:(((i:Nat):Int)== ((r:Nat):Int)+1)=true:=(by simp;omega);have hq3:((i:Nat):Int)=((r:Nat):Int)+1:=(by omega);have fz:=hB.frozen (k:=c) (by omega);have cz:=hB.cell (k:=c) (by omega);generalize (ll si)[c]'(by omega)=u0 at cz;have hB1:=hB.set (k:=c) (by omega) 35 35 rfl;have hX1:=hX.setCell (p:=⟨wr.heap.size,c,none⟩) (ay _) (.int .u8 35);clear hB hX hir YY hq1 hq3;have hB:=hB1;have hX:=hX1;clear hB1 hX1;have HQ:∃l Wq,Wq=_/\Ck Wq wr.heap.size l/\Ext wr Wq/\si.size=l.length/\(wS true (bd ss) r c)[i]?=some l:=⟨_,_,rfl,hB,hX,by(try simp only[eO]);omega,by rw[yX true r c (by rw[iy];exact fJ.out),uH fJ.out,EU.out,if_neg N7.out,if_pos ⟨rfl,xO.out⟩]⟩;go_upto_region 12 with fail
     case' neg=>
      have xO:Hid (¬i=r+1):=aQ YY;have hq2:(((i:Nat):Int)== ((r:Nat):Int)+1)=false:=(by simp;omega);have hq3:¬((i:Nat):Int)=((r:Nat):Int)+1:=(by omega);clear hir YY hq1 hq3;have HQ:∃l Wq,Wq=_/\Ck Wq wr.heap.size l/\Ext wr Wq/\si.size=l.length/\(wS true (bd ss) r c)[i]?=some l:=⟨_,_,rfl,hB,hX,by(try simp only[eO]);omega,by rw[yX true r c (by rw[iy];exact fJ.out),uH fJ.out,EU.out,if_neg N7.out,if_neg (λe=>xO.out e.2)]⟩;go_upto_region 12 with fail
    case' false=>
     clear hir hq1;have HQ:∃l Wq,Wq=_/\Ck Wq wr.heap.size l/\Ext wr Wq/\si.size=l.length/\(wS false (bd ss) r c)[i]?=some l:=⟨_,_,rfl,hB,hX,by(try simp only[eO]);omega,by rw[yX false r c (by rw[iy];exact fJ.out),uH fJ.out,EU.out,if_neg N7.out,if_neg (by simp)]⟩;go_upto_region 12 with fail
   all_goals
    obtain⟨l,Wq,hWq,hB,hX,hlz,hrow⟩:=HQ;rw[<-hWq];have Ld:=aQ hrow;have hbk:=hB.back (n:=si.size) (cap:=grownCap wr si.size 0 5) hlz;have oQ:=HM.out.ext' hX;obtain⟨ao,co,rfl,-,-⟩:=bH oQ.own;have ho:=oQ.own;have hr2:=cell_of_row _ _ 0 _ _ _ oQ.b2;have hzx:=oQ.ext.size;have akl:=bu oQ.b2;have hol:out.length<=8:=(by have:=xN.out;have e:=congrArg List.length this;rw[iy,dI]at e;have:=HI8.out;omega);have X3:=aQ oQ;have HX:=aQ hX;clear hB oQ hX hWq hrow hlz;go_wp2_with (at_builtin;refine dC rfl (.tmp 47) (.tmp 50) 22 rfl w.heap.size 9 i0 (.string ⟨#[]⟩) 1 16 Tryz.underlying22 hi0 hz0 hz1 hz2 rfl (by decide) (.slice ao out.length co) out.length (out.map Value.string) rfl (ho.alloc _) _ 1 _ [.string ⟨l.toArray⟩] rfl rfl (.inr ⟨_,rfl,dJ (dh _ _ _)⟩) (by intro u hu;simp at hu;subst hu;rfl) (by unfold maxLen;omega) (by omega) (by rw[eQ];omega) ?_;intro v5 w5 iT hg5 hl5;obtain⟨a5,c5,rfl,-⟩:=bH iT;have hb5:=TJ X3.out hg5;have g5:=cell_of_row _ _ 0 _ _ _ hb5;have f5:=frozen_of_row _ _ 0 _ _ hb5)
    go_roundw
    case rel=>exact⟨i+1,.slice a5 (out.length+1) c5,out++[⟨l.toArray⟩],by go_num,fJ.out,HM.out.put HX.out iT hg5 hl5,aQ (JE xN.out Ld.out)⟩
    case measure=>have:=fJ.out;simp[intOf];omega
  .have h1:¬(((i:Nat):Int)<((ss.length:Nat):Int)):=by omega
   have hie:i=ss.length:=(by omega);obtain⟨ao,co,rfl,-,-⟩:=bH hM.own;have hr1:=cell_of_row wr (w.heap.size+1) 0 _ _ _ hM.b1;have fr1:=frozen_of_row wr (w.heap.size+1) 0 _ _ hM.b1;have hr2:=cell_of_row wr (w.heap.size+2) 0 _ _ _ hM.b2;simp only[gE]at hr1 hr2;have HH:=aQ (heap_setCell_same wr (w.heap.size+1) 0 _ _ (.slice ao out.length co) hM.b1);have PQ:Hid (bd out=wS left (bd ss) r c):=aQ (by rw[xN.out,hie];exact bU (by rw[Ox,iy];exact ay _));have HO:Hid ((wr.setCell ⟨w.heap.size+1,0,none⟩ (.slice ao out.length co)).ownsRow w.heap.size 9 1 (.slice ao out.length co) out.length (out.map Value.string)):=aQ (bI hM.own (dV (p:=⟨w.heap.size+1,0,none⟩)) (λb hb e=>by have:=hM.sep b hb;have:b=w.heap.size+1:=e;omega));have HE:=aQ (hM.ext.setCell (p:=⟨w.heap.size+1,0,none⟩) (by show w.heap.size<=w.heap.size+1;omega) (.slice ao out.length co));clear hM hie;go_wp2
   (try simp only[Exit.inBlock,Exit.then]);refine bodyPost_ret (results_cell_row rfl _ _ (w.heap.size+1) 31 #[.slice ao out.length co] (0,0) _ rfl HH.out Tryz.underlying31 rfl (by kernel_rfl)) rfl ?_;exact⟨_,rfl,out,HO.out,PQ.out,HE.out⟩
end Go.Proofs.YteknjeohbcgpdaaGreatDoor
namespace Go.Proofs.YteknjeohbcgpdaaGreatDoor
open Go.RowKit
open bO (fw GB fD fr wS mH rD pK can pq iM)
theorem mE(b:fw)(r c:Nat):Hd b ((r:Nat):Int) ((c:Nat):Int)=fr b r c:=by unfold Hd;simp
theorem abO(b:fw)(r c:Nat):Hd b (((r:Nat):Int)+1) ((c:Nat):Int)=fr b (r+1) c:=by
 have:=mE b (r+1) c;rw[<-this];congr 1
theorem abP(b:fw)(r c:Nat):Hd b ((r:Nat):Int) (((c:Nat):Int)+1)=fr b r (c+1):=by
 have:=mE b r (c+1);rw[<-this];congr 1
theorem A9{b:fw}{hh ww:Nat}(g:GB b hh ww){r:List UInt8}(hr:r∈b){c:UInt8}(hc:c∈r):c.toNat<128:=by
 rcases(g.row r hr).2 c hc with e|e <;> rw[e] <;> decide
structure Iz(w wr:World)(kI:Nat)(bx ov:Value)(xs:List Value)(bs:List fw):Prop where
 b0:wr.heap[w.heap.size]?=some (.cells #[bx] 31 (0,0))
 own:wr.ownsRow (w.heap.size+1) 31 1 ov bs.length xs
 it:∃S:Nat->Prop,Items uM S 1 xs bs wr/\∀b,S b->w.heap.size+1<=b/\ov.ownBlock≠some b/\b≠kI
 nk:ov.ownBlock≠some kI
 ext:Ext w wr
section
variable {w wr w2:World} {kI:Nat} {bx ov:Value} {xs:List Value} {bs:List fw}
theorem Iz.ext'(m:Iz w wr kI bx ov xs bs)(hx:Ext wr w2):Iz w w2 kI bx ov xs bs:=by
 obtain⟨S,h1,h2⟩:=m.it;exact⟨(hx.block _ (bu m.b0)).trans m.b0,bY m.own hx,⟨S,h1.ext hx,h2⟩,m.nk,ax m.ext hx⟩
theorem Iz.step(m:Iz w wr kI bx ov xs bs)(hk:w.heap.size<kI)(s:ByteArray)(p:Nat):Iz w (wr.iterAt kI s p) kI bx ov xs bs:=by
 have h:dX (λb=>b=kI) wr (wr.iterAt kI s p):=⟨rfl,rfl,rfl,by rw[Lib.iterAt_size];exact ay _,λk _ hn=>Lib.iterAt_other wr kI k s p hn⟩;obtain⟨S,h1,h2⟩:=m.it;exact⟨(h.block _ (bu m.b0) (by omega)).trans m.b0,bI m.own h (λb hb e=>m.nk (by rw[<-e];exact hb)),⟨S,h1.keep h (λb hb e=>(h2 b hb).2.2 e),h2⟩,m.nk,Lib.below_iterAt m.ext (Nat.le_of_lt hk) s p⟩
theorem Iz.start(m:Iz w wr kI bx ov xs bs)(s:ByteArray):Iz w (wr.iter s 0) wr.heap.size bx ov xs bs:=by
 have hx:Ext wr (wr.iter s 0):=bS (Below.refl _ _) _;obtain⟨S,h1,h2⟩:=(m.ext' hx).it;obtain⟨S0,h3,h4⟩:=m.it;refine⟨(m.ext' hx).b0,(m.ext' hx).own,⟨S0,h3.ext hx,λb hb=>⟨(h4 b hb).1,(h4 b hb).2.1,λe=>by have:=h3.2.1 b hb;omega⟩⟩,λe=>by have:=(m.own.lt _ e).2;omega,(m.ext' hx).ext⟩
theorem Iz.stop(m:Iz w wr kI bx ov xs bs):Iz w wr w.heap.size bx ov xs bs:=by
 obtain⟨S,h1,h2⟩:=m.it;exact⟨m.b0,m.own,⟨S,h1,λb hb=>⟨(h2 b hb).1,(h2 b hb).2.1,λe=>by have:=(h2 b hb).1;omega⟩⟩,λe=>by have:=(m.own.lt _ e).1;omega,m.ext⟩
theorem Iz.push{w4 w5:World}{v' v5:Value}{ss':List ByteArray}{y:fw}{X:Obj}(m:Iz w wr kI bx ov xs bs)(hk:kI<wr.heap.size)(hx:Ext wr w4)
 (hr:w4.ownsRow wr.heap.size 9 1 v' ss'.length (ss'.map Value.string)) (hy:bd ss'=y) (h8:ss'.length<=8)
 (ho:w5.ownsRow (w.heap.size+1) 31 1 v5 (bs.length+1) (xs++[v'])) (hg:(w4.alloc X).grownBy w5 ov.ownBlock) (hl:kR (w4.alloc X) ov v5):Iz w w5 kI bx v5 (xs++[v']) (bs++[y]):=by
 have hz:(w4.alloc X).heap.size=w4.heap.size+1:=eQ _ _;have z4:=hx.size;have zg:=hg.size;have z0:=m.ext.size;have zb:=bu m.b0;obtain⟨S,h1,h2⟩:=m.it;obtain⟨a,c,rfl,-,-⟩:=bH hr;have hkp:dX (λb=>ov.ownBlock=some b) wr w5:=⟨hg.os.trans hx.os,hg.tape.trans hx.tape,hg.output.trans hx.output,by omega,λb hb hn=>by
  rw[hg.block b (by omega) (λe=>hn e.symm),Below.heap_alloc _ _ _ (by omega),hx.block b hb]⟩
 have hn:nN (λb=>wr.heap.size<=b/\b<w4.heap.size) (λW=>uM W [.slice a (List.length ss') c] y) w4:=⟨λb hb=>hb.2,λW hW=>⟨a,c,ss',rfl,by
  have:Strs w4 (.slice a ss'.length c) ss':=Strs.eD hr (by omega);exact lN.keep this λb _ hb=>hW b ⟨(hr.lt b hb).1,(hr.lt b hb).2⟩,hy⟩⟩
 have hk4:dX (λb=>ov.ownBlock=some b) w4 w5:=⟨hg.os,hg.tape,hg.output,by omega,λb hb hn=>by rw[hg.block b (by omega) (λe=>hn e.symm),Below.heap_alloc _ _ _ hb]⟩;have hn5:=hn.keep hk4 (λb hb e=>by have:=(m.own.lt b e).2;omega);have hT:∀b,S b\/(wr.heap.size<=b/\b<w4.heap.size)->b<w5.heap.size:=λb hb=>hb.elim (λk=>by have:=h1.2.1 b k;omega) (λk=>by omega)
 have hov:∀b,b<w4.heap.size->v5.ownBlock=some b->ov.ownBlock=some b:=λb hb e=>by
  rcases hl with k|⟨q,k,k2⟩
  .rw[<-k];exact e
  .rw[k]at e;injection e with e;omega
 refine⟨(hkp.block _ (bu m.b0) (λe=>by have:=(m.own.lt _ e).1;omega)).trans m.b0,by rw[aK];exact ho,⟨λb=>S b\/(wr.heap.size<=b/\b<w4.heap.size),?_,λb hb=>?_⟩,λe=>m.nk (hov _ (by omega) e),jw m.ext hkp λb e=>by have:=(m.own.lt b e).1;omega⟩
 .exact((h1.keep hkp (λb hb e=>(h2 b hb).2.1 e)).mono (λb hb=>.inl hb) hT).snoc rfl (hn5.mono (λb hb=>.inr hb) hT (λ_ h=>h))
 .rcases hb with hb|hb
  .exact⟨(h2 b hb).1,λe=>(h2 b hb).2.1 (hov b (by have:=h1.2.1 b hb;omega) e),(h2 b hb).2.2⟩
  .exact⟨by omega,λe=>by have:=(m.own.lt b (hov b hb.2 e)).2;omega,by omega⟩
end
variable {w:World} {s:ByteArray} {p r c:Nat} {lf:Bool} {b:fw}
theorem mQ{k:Nat}(h:w.heap[k]?=some (.stringIter s p)):k<w.heap.size:=(fB.1 h).1
theorem OQ{wr w4 w5:World}{kI:Nat}{bx ov:Value}{xs:List Value}{bs:List fw}{X:Obj}(m:Iz w wr kI bx ov xs bs)(h:wr.heap[kI]?=some (.stringIter s p))(hx:Ext wr w4)(hg:(w4.alloc X).grownBy w5 ov.ownBlock):w5.heap[kI]?=some (.stringIter s p):=by
 have h1:=mQ h;have h2:=hx.size;rw[hg.block _ (by rw[eQ];omega) (λe=>m.nk e.symm),Below.heap_alloc _ _ _ (by omega),hx.block _ h1];exact h
theorem aaz(h:lf=true):Hd b (((r:Nat):Int)+1) ((c:Nat):Int)=fr b (rD lf r) (pK lf c):=by subst h;exact abO b r c
theorem aaA(h:lf=false):Hd b ((r:Nat):Int) (((c:Nat):Int)+1)=fr b (rD lf r) (pK lf c):=by subst h;exact abP b r c
theorem Qo{left:Bool}(hl:lf=left)(v:Value)(ss:List ByteArray)(hh ww r c:Nat)(w:World)(h:Strs w v ss)(g:GB (bd ss) hh ww)(hc:can lf (fr (bd ss)) r c=true):
 Calls Tryz.prog 150 #[.agg #[v],.int .i64 ((r:Nat):Int),.int .i64 ((c:Nat):Int),.bool left] w λe w'=>∃v' ss',e=.returned (.agg #[v'])/\w'.ownsRow w.heap.size 9 1 v' ss'.length (ss'.map Value.string)/\bd ss'=wS lf (bd ss) r c/\Ext w w':=by
 subst hl;exact Mk v ss hh ww r c lf w h g hc
set_option maxHeartbeats 4000000 in
set_option maxRecDepth 100000 in
theorem Ue(v:Value)(ss:List ByteArray)(hh ww:Nat)(left lf:Bool)(hlf:lf=left)(w:World)(h:Strs w v ss)(g:GB (bd ss) hh ww):
 Calls Tryz.prog 87 #[.agg #[v],.bool left] w (IB lf (bd ss) hh ww w):=by
 have HLF:=aQ hlf;clear hlf;obtain⟨i0,hi0,hz0',hz1',hz2'⟩:=info_parts tZ;obtain⟨a,cap,rfl,hcap,p8⟩:=h.open;have hh8:=g.h1;have hw8:=g.w1;have hlen:ss.length=hh:=oh g;have HG:=aQ g;have uB:Hid (∀s,s∈ss->s.size=ww):=aQ λs hs=>by
  obtain⟨i,hi,rfl⟩:=aW.1 hs;exact og g hi
 have HLEN:=aQ hlen;have Xl:Hid (ss.length<=8):=aQ (by omega);have hfr:∀W,Ext w W->∀r c:Int,(-100<=r/\r<=100)->(-100<=c/\c<=100)->Calls Tryz.prog 109 #[.agg #[.slice a ss.length cap],.int .i64 r,.int .i64 c] W λe w'=>e=.returned (.bool (Hd (bd ss) r c))/\Ext W w':=λW hW r c hr hc=>zO _ ss hh ww r c W (h.ext hW) g hr hc
 have Xr:Hid (∀i (hi:i<ss.length) k (hk:k<(ss[i]).size),((ss[i])[k]).toNat<128):=aQ λi hi k hk=>by
  refine A9 g (r:=ll ss[i]) (aH.2 ⟨ss[i],ai hi,rfl⟩) ?_;exact Array.getElem_mem_toList ..
 have hM0:Iz w (((w.alloc (.cells #[.slice a ss.length cap] 31)).alloc (.cells #[] 31))) w.heap.size (.slice a ss.length cap) (.slice (some ⟨w.heap.size+1,0,none⟩) 0 0) [] []:=by
  have hr0:=World.ownsRow_made (w.alloc (.cells #[.slice a ss.length cap] 31)) (base:=w.heap.size+1) (e:=31) (size:=1) #[] 0 (by rw[eQ];omega) (by decide) (by simp);rw[eQ]at hr0;refine⟨?_,hr0,⟨λ_=>False,Items.nil λb hb=>hb.elim,λb hb=>hb.elim⟩,by simp[Value.ownBlock],by go_grown⟩;rw[Below.heap_alloc _ _ _ (by simp)];exact heap_alloc_new _ _
 clear hlen g;go_enter Tryz.func87,Tryz.ntmps87
 go_upto_region 2 with fail
 generalize ((w.alloc (.cells #[.slice a ss.length cap] 31)).alloc (.cells #[] 31))=We at *;have c0:=cell_of_row We w.heap.size 0 _ _ _ hM0.b0;simp only[gE]at c0;go_wp2
 go_loopw [5,6,7,12] (λov _ _ ii wr=>∃(i:Nat) (xs:List Value) (bs:List fw),ii=.int .i64 ((i:Nat):Int)/\i<=ss.length/\Iz w wr w.heap.size (.slice a ss.length cap) ov xs bs/\Hid (bs=iM lf (bd ss) ww i)) (λ_ _ _ ii _=>ss.length-(intOf ii).toNat)
 case atStart=>exact⟨0,[],[],rfl,aJ _,hM0,aQ rfl⟩
 case round=>
  clear hM0 c0;obtain⟨i,xs,bs,rfl,hi,hM,yI⟩:=hrel;by_cases hlt:i<ss.length
  .have hil:((i:Nat):Int)<((ss.length:Nat):Int):=by omega
   have fJ:=aQ hlt;obtain⟨b,off,rfl,hcl⟩:=(h.ext hM.ext).at hlt;have ci:=hcl i hlt;have cb:=cell_of_row wr w.heap.size 0 _ _ _ hM.b0;simp only[gE]at cb;have hsi:=uB.out _ (ai fJ.out);obtain⟨si,rU⟩:∃si:ByteArray,ss[i]'(fJ.out)=si:=⟨_,rfl⟩;have hasc:∀k (hk:k<si.size),(si[k]).toNat<128:=(by subst rU;exact Xr.out i fJ.out);rw[rU]at ci hsi;have HM:=aQ hM;have Xf:=aQ hsi;have aeW:si.size<=8:=(by omega);have HAS:=aQ hasc;clear hM hlt hcl rU hsi hasc;go_upto_region 6 with fail
   cases left
   all_goals
    have hst:=HM.out.start si;have hit:=World.iter_heap wr si 0;have QS:w.heap.size<wr.heap.size:=bu HM.out.b0;clear HM cb ci;generalize wr.iter si 0=W0 at *;generalize wr.heap.size=kI at *;go_loopw [5,7] (λov _ w3=>∃(k:Nat) (xs:List Value) (bs:List fw),k<=si.size/\Iz w w3 kI (.slice (some ⟨b,off,none⟩) ss.length cap) ov xs bs/\w3.heap[kI]?=some (.stringIter si k)/\Hid (bs=iM lf (bd ss) ww i++pq lf (bd ss) i k)) (λ_ _ w3=>si.size-w3.iterPos kI)
    case atStart=>exact⟨0,xs,bs,aJ _,hst,hit,aQ (by rw[yI.out];simp[pq])⟩
    case round=>
     clear hst hit yI;obtain⟨k,xs,bs,hk,hM,hit,yI⟩:=hrel;have ET:=aQ (iterPos_of hit);by_cases hkl:k<si.size
     .have jl:=aQ hkl
      obtain⟨rn,hnx⟩:∃rn:Int,∀ty,(Instr.next (.pointer (some ⟨kI,0,none⟩)) true ty).run Tryz.prog wr=.ok (.tuple #[.bool true,.int .i64 ((k:Nat):Int),.int .i32 rn]) (wr.iterAt kI si (k+1)):=⟨_,λty=>Lib.run_next_ascii_at (P:=Tryz.prog) wr kI si k ty hit hkl (HAS.out k hkl)⟩;have hMs:=hM.step QS si (k+1);have hit2:=Lib.iterAt_heap wr kI si k (k+1) hit;clear hM hit;go_upto_region 8 with fail
      clear hnx hkl;generalize wr.iterAt kI si (k+1)=W1 at *;have cb:=cell_of_row W1 w.heap.size 0 _ _ _ hMs.b0;simp only[gE]at cb;have hE1:=hMs.ext;have hi8:=Xl.out;have HIT:=aQ hit2;have Rz:=aQ hMs;clear hMs hit2;cases hf0:fr (bd ss) i k with
      |false=>
       have HN:=aQ (wY (left:=lf) (b:=bd ss) (r:=i) (k:=k) (by unfold can;rw[hf0];rfl));go_wp2_with (go_at_call 109;refine(hfr _ hE1 _ _ (by omega) (by omega)).mono ?_;rintro e w2 ⟨he,hx2⟩;rw[mE,hf0]at he;subst he)
       go_roundw
       case rel=>exact⟨k+1,xs,bs,jl.out,Rz.out.ext' hx2,(hx2.block _ (mQ HIT.out)).trans HIT.out,aQ (by rw[yI.out,HN.out])⟩
       case measure=>have:=iterPos_of ((hx2.block _ (mQ HIT.out)).trans HIT.out);have:=ET.out;have:=jl.out;omega
      |true=>
       cases hf1:fr (bd ss) (rD lf i) (pK lf k)with
       |false=>
        have HN:=aQ (wY (left:=lf) (b:=bd ss) (r:=i) (k:=k) (by unfold can;rw[hf0,xB];exact hf1))
        go_wp2_with (first
         |(go_at_call 109;refine(hfr _ (ax hE1 hx2) _ _ (by omega) (by omega)).mono ?_;rintro e w2b ⟨he,hx3⟩;(first|rw[aaz HLF.out,hf1]at he|rw[aaA HLF.out,hf1]at he);subst he)
         |(go_at_call 109;refine(hfr _ hE1 _ _ (by omega) (by omega)).mono ?_;rintro e w2 ⟨he,hx2⟩;rw[mE,hf0]at he;subst he;have Wp:=(hx2.cell (lt_of_cell cb)).trans cb))
        go_roundw
        case rel=>exact⟨k+1,xs,bs,jl.out,Rz.out.ext' (ax hx2 hx3),((ax hx2 hx3).block _ (mQ HIT.out)).trans HIT.out,aQ (by rw[yI.out,HN.out])⟩
        case measure=>have:=iterPos_of (((ax hx2 hx3).block _ (mQ HIT.out)).trans HIT.out);have:=ET.out;have:=jl.out;omega
       |true=>
        have DT:can lf (fr (bd ss)) i k=true:=(by unfold can;rw[hf0,xB];exact hf1);have HN:=aQ (Du (left:=lf) (b:=bd ss) (r:=i) (k:=k) DT)
        go_upto_region 9 with(first
         |(go_at_call 109;refine(hfr _ (ax hE1 hx2) _ _ (by omega) (by omega)).mono ?_;rintro e w2b ⟨he,hx3⟩;(first|rw[aaz HLF.out,hf1]at he|rw[aaA HLF.out,hf1]at he);subst he)
         |(go_at_call 109;refine(hfr _ hE1 _ _ (by omega) (by omega)).mono ?_;rintro e w2 ⟨he,hx2⟩;rw[mE,hf0]at he;subst he;have Wp:=(hx2.cell (lt_of_cell cb)).trans cb))
        have yK:=Rz.out.ext' (ax hx2 hx3);have hit3:=((ax hx2 hx3).block _ (mQ HIT.out)).trans HIT.out;have acg:=mQ hit3;have cb3:=cell_of_row w2b w.heap.size 0 _ _ _ yK.b0;simp only[gE]at cb3;have hpl:=Qo HLF.out (.slice (some ⟨b,off,none⟩) ss.length cap) ss hh ww i k w2b (h.ext yK.ext) HG.out DT;obtain⟨ao,co,rfl,-,-⟩:=bH yK.own;have ho3:=yK.own;have hz3:=yK.ext.size;have hbl:bs.length<=100:=by
         rw[yI.out,aK];have l1:=bO.vw lf (bd ss) ww i;have l2:=bO.zq lf (bd ss) i k;have l3:=gu (show i<=8 by omega) hw8.2;omega
        have X4:=aQ (And.intro yK (And.intro hit3 acg));clear yK hit3 acg hx2 hx3 cb Wp hE1 hf0 hf1 DT;generalize hW2:w2b=W2 at *;clear hW2
        go_wp2_with (first
         |(at_builtin;refine dC rfl (.tmp 49) (.tmp 55) 57 rfl (w.heap.size+1) 31 i0 (.agg #[.slice none 0 0]) 1 24 Tryz.underlying57 hi0 hz0' hz1' hz2' rfl (by decide) (.slice ao bs.length co) bs.length xs rfl (yJ.alloc _) _ 1 _ [.slice ab sb.length cb4] rfl rfl (.inr ⟨_,rfl,dJ (dh _ _ _)⟩) mD (by unfold maxLen;omega) (by omega) (by rw[eQ];omega) ?_;intro v6 w6 OZ Km YX)
         |(go_at_call 150;refine hpl.mono ?_;rintro e w4 ⟨v4,sb,rfl,afd,hb4,hx4⟩;obtain⟨ab,cb4,rfl,-,-⟩:=bH afd;have yJ:=bY ho3 hx4;have EL:=hx4.size))
        go_roundw
        case rel=>exact⟨k+1,_,_,jl.out,X4.out.1.push X4.out.2.2 hx4 afd rfl (by have:=congrArg List.length hb4;rw[iy,Ox,iy]at this;omega) OZ Km YX,OQ X4.out.1 X4.out.2.1 hx4 Km,aQ (by rw[yI.out,HN.out,dA,hb4])⟩
        case measure=>have:=iterPos_of (OQ X4.out.1 X4.out.2.1 hx4 Km);have:=ET.out;have:=jl.out;omega
     .have hkw:k=ww:=by have:=Xf.out;omega
      have hnx:=λty=>Lib.run_next_end_at (P:=Tryz.prog) wr kI si k ty hit hkl
      have ams:Hid (bs=iM lf (bd ss) ww (i+1)):=aQ (by rw[yI.out,bO.su,hkw]);have X3:=aQ hM.stop;clear hM yI hkw;go_wp2
      go_roundw
      case rel=>exact⟨i+1,xs,bs,by go_num,fJ.out,X3.out,ams⟩
      case measure=>have:=fJ.out;simp[intOf];omega
  .have h1:¬(((i:Nat):Int)<((ss.length:Nat):Int)):=by omega
   have hie:i=hh:=(by have:=HLEN.out;omega);have HR:Hid (Rows uM 1 (λb=>w.heap.size<=b/\b<wr.heap.size) wr u5 (iM lf (bd ss) ww hh)):=aQ (by
    obtain⟨S,s1,s2⟩:=hM.it;rw[yI.out,hie]at s1;exact Rows.eD hM.own (by rw[yI.out,hie]) s1 (λb hb=>⟨by have:=(s2 b hb).1;omega,s1.2.1 b hb⟩) (λb hb=>⟨by have:=(hM.own.lt b hb).1;omega,(hM.own.lt b hb).2⟩) (λb hb=>hb.2))
   have HE:=aQ hM.ext;clear hM hie;go_wp2
   go_ret
   exact⟨_,rfl,HR.out,HE.out⟩
theorem Qy(v:Value)(ss:List ByteArray)(hh ww:Nat)(left:Bool)(w:World)(h:Strs w v ss)(g:GB (bd ss) hh ww):
 Calls Tryz.prog 87 #[.agg #[v],.bool left] w (IB left (bd ss) hh ww w):=Ue v ss hh ww left left rfl w h g
end Go.Proofs.YteknjeohbcgpdaaGreatDoor
namespace Go.Proofs.YteknjeohbcgpdaaGreatDoor
open Go.RowKit
open bO (fw GB iG)
def wid(b:fw):Nat:=(b.headD []).length
theorem _root_.Go.Proofs.YteknjeohbcgpdaaGreatDoor.bO.GB.wid{b:fw}{h w:Nat}(g:GB b h w):wid b=w:=by
 have h1:=g.h1;have h2:=g.hgt;cases b with
 |nil=>simp at h2;omega
 |cons r b=>exact(g.row r (by simp)).1
theorem XA.at_{w wr:World}{po kI:Nat}{bx ov:Value}{out:List ByteArray}(m:XA w wr po bx ov out)(hk:po<kI)(nk:ov.ownBlock≠some kI)(s:ByteArray)(p:Nat):XA w (wr.iterAt kI s p) po bx ov out:=by
 have h:dX (λb=>b=kI) wr (wr.iterAt kI s p):=⟨rfl,rfl,rfl,by rw[Lib.iterAt_size];exact ay _,λk _ hn=>Lib.iterAt_other wr kI k s p hn⟩;have hp:=m.pz;exact⟨(h.block _ (bu m.b0) (by omega)).trans m.b0,(h.block _ (bu m.b1) (by omega)).trans m.b1,(h.block _ (bu m.b2) (by omega)).trans m.b2,bI m.own h (λb hb e=>nk (by rw[<-e];exact hb)),m.pz,Lib.below_iterAt m.ext (by omega) s p⟩
end Go.Proofs.YteknjeohbcgpdaaGreatDoor