/-
  Plain laws of the sorted lists of the reference: members, rising, births. (3 texts.)
-/
import Derived.Test.YteknjeohbcgpdaaGreatDoorK2
import Derived.Test.YteknjeohbcgpdaaGreatDoorK4
set_option maxRecDepth 100000
namespace Go.Proofs.YteknjeohbcgpdaaGreatDoor
open Tryz
section
open Go.RowKit
def jD(l:List Int):List Int:=l.foldl qz []
theorem xI(l:List Int)(x:Int):jD (l++[x])=qz (jD l) x:=by simp[jD]
theorem Rt(l:List Int)(x:Int):(qz l x).length<=l.length+1:=by
 unfold qz;split
 .omega
 .have:putAt l x<=l.length:=(List.takeWhile_sublist _).length_le
  simp;omega
theorem q9(l:List Int):(jD l).length<=l.length:=by
 have main:∀(l acc:List Int),(l.foldl qz acc).length<=acc.length+l.length:=by
  intro l
  induction l with
  |nil=>intro acc;simp
  |cons x l ih=>intro acc;have:=ih (qz acc x);have:=Rt acc x;simp;omega
 have:=main l []
 simpa [jD]using this
theorem rA{N:Nat}{w w':World}{v v':Value}(h:∀b,v.ownBlock=some b->N<=b/\b<w.heap.size)(hN:N<=w.heap.size)(hs:w.heap.size<=w'.heap.size)(hn:UN w w' v v'):∀b,v'.ownBlock=some b->N<=b/\b<w'.heap.size:=by
 intro b hb;rcases hn b hb with h1|h1
 .have:=h b h1;omega
 .omega
set_option maxHeartbeats 400000 in
theorem yM(v:Value)(l:List Int)(w:World)(h:Ints w v l)(hsz:l.length<=1000000000):
 Calls prog 178 #[v] w λe w'=>∃v',e=.returned v'/\Ints w' v' (jD l)/\Ext w w'/\(∀b,v'.ownBlock=some b->w.heap.size<=b/\b<w'.heap.size):=by
 obtain⟨a,cap,rfl,hlc,hcap,hc⟩:=h;go_enter Tryz.func178,Tryz.ntmps178
 go_wp2
 go_loopw [3,4] (λo i wr=>∃k:Nat,k<=l.length/\i=.int .i64 k/\Ints wr o (jD (l.take k))/\Ext w wr/\Hid (∀b,o.ownBlock=some b->w.heap.size<=b/\b<wr.heap.size)) (λ_ i _=>l.length-(intOf i).toNat)
 case atStart=>exact⟨0,az _,rfl,Ints.nil _ _ _,(Below.refl _ _).alloc (ai _) _,λb hb=>by simp[Value.ownBlock]at hb;subst hb;simp⟩
 case round=>
  obtain⟨k,hk,rfl,hI,jE,HF⟩:=hrel;by_cases hlt:k<l.length
  .obtain⟨b,off,rfl,hcell⟩:=hc (by omega)
   have hck:=hcell k hlt;have nz:=(jE.cell (lt_of_cell hck)).trans hck;have hlen:(jD (l.take k)).length<=1000000000:=(by have:=q9 (l.take k);have:=List.length_take_le k l;omega);have hsn:jD (l.take (k+1))=qz (jD (l.take k)) (jv l k):=(by rw[qb hlt,xI]);have HS:=aH hsn;clear hcell hc hck hsn;go_wp2_with (go_at_call 180;refine(rF _ _ _ _ hI hlen).mono ?_;rintro e w1 ⟨v1,rfl,hI1,hx1,hn1⟩)
   go_roundw
   case rel=>exact⟨k+1,by omega,by go_num,by rw[HS.out];exact hI1,ay jE hx1,rA HF.out jE.size hx1.size hn1⟩
   case measure=>simp[intOf];omega
  .go_wp2
   go_ret
   have e:k=l.length:=(by omega);subst e;rw[dz]at hI;exact⟨_,rfl,hI,jE,HF.out⟩
def Hz(l p:List Int)(k:Nat):List Int:=((List.range k).filter λ(i:Nat)=>!mO p (i:Int)).map (jv l)
def qa(l p:List Int):List Int:=Hz l p l.length
theorem QC(l p:List Int)(k:Nat)(h:mO p (k:Int)=true):Hz l p (k+1)=Hz l p k:=by
 simp[Hz,wV,List.filter_append,h]
theorem MQ(l p:List Int)(k:Nat)(h:mO p (k:Int)=false):Hz l p (k+1)=Hz l p k++[jv l k]:=by
 simp[Hz,wV,List.filter_append,h]
theorem yf(l p:List Int)(k:Nat):(Hz l p k).length<=k:=by
 have:=jQ (λ(i:Nat)=>!mO p (i:Int)) (List.range k);simp[Hz]at this ⊢;exact this
set_option maxHeartbeats 400000 in
theorem xh(v u:Value)(l p:List Int)(w:World)(h:Ints w v l)(g:Ints w u p)(hsz:l.length<=1000000000):
 Calls prog 175 #[v,u] w λe w'=>∃v',e=.returned v'/\Ints w' v' (qa l p)/\Ext w w'/\(∀b,v'.ownBlock=some b->w.heap.size<=b/\b<w'.heap.size):=by
 obtain⟨a,cap,rfl,hlc,hcap,hc⟩:=h;obtain⟨i0,hi,hz0,hz1,hz2⟩:=info_parts iy;go_enter Tryz.func175,Tryz.ntmps175
 go_wp2
 go_loopw [5,6] (λo i wr=>∃k:Nat,k<=l.length/\i=.int .i64 k/\wr.ownsRow w.heap.size 3 1 o (Hz l p k).length ((Hz l p k).map (Value.int .i64))/\Ext w wr) (λ_ i _=>l.length-(intOf i).toNat)
 case atStart=>exact⟨0,az _,rfl,fC w _ (ai _) _,(Below.refl _ _).alloc (ai _) _⟩
 case round=>
  obtain⟨k,hk,rfl,hown,jE⟩:=hrel;by_cases hlt:k<l.length
  .obtain⟨b,off,rfl,hcell⟩:=hc (by omega)
   have hck:=hcell k hlt;have nz:=(jE.cell (lt_of_cell hck)).trans hck;have hwl:=yf l p k;have gw:=g.ext jE;clear hcell hc hck;by_cases hin:mO p (k:Int)=true
   .have HW:=aH (QC l p k hin)
    go_wp2_with (go_at_call 207;refine(pY _ _ _ _ gw).mono ?_;rintro e w1 ⟨rfl,nn,rfl⟩)
    go_roundw
    case rel=>exact⟨k+1,by omega,by go_num,by rw[HW.out];exact own_drewN hown _,fZ jE _⟩
    case measure=>simp[intOf];omega
   .have hin':mO p (k:Int)=false:=by simpa using hin
    have HW:=aH (MQ l p k hin');clear hin
    go_wp2_with (first
     |(go_at_call 207;refine(pY _ _ _ _ gw).mono ?_;rintro e w1 ⟨rfl,nn,rfl⟩)
     |(at_builtin;refine bQ rfl _ _ 80 rfl w.heap.size 3 i0 (.int .i64 0) 1 8 underlying80 hi hz0 hz1 hz2 rfl (by decide) _ _ _ rfl ((own_drewN hown nn).alloc _) _ 1 _ [Value.int .i64 (jv l k)] rfl rfl (.inr ⟨_,rfl,cK (bP _ _ _)⟩) one_cell (by unfold maxLen;omega) (by omega) (by have:=jE.size;simp;omega) ?_;intro v1 w1 ho1 hg1 _))
    go_roundw
    case rel=>
     refine⟨k+1,by omega,by go_num,?_,zb (fZ jE nn) hown hg1⟩;rw[HW.out]
     simpa using ho1
    case measure=>simp[intOf];omega
  .go_wp2
   go_ret
   have e:k=l.length:=(by omega);subst e;exact⟨_,rfl,Ints.eO (l:=Hz l p l.length) hown (by have:=yf l p l.length;omega),jE,λb hb=>hown.lt b hb⟩
end
section
open Go.RowKit
open bz
variable {l:List Nat} {w:World} {B size n pb:Nat} {e:TypeId} {v vn vb:Value} {xs:List Value} {D:dC}
def dx(l:List Nat):List Int:=l.map λ(n:Nat)=>(n:Int)
theorem bu(l:List Nat):(dx l).length=l.length:=by simp[dx]
theorem fT{k:Nat}(h:k<l.length):jv (dx l) k=(l[k]:Int):=by
 rw[o6 (by rw[bu];exact h)];simp[dx]
theorem ni{x:Int}(h:x∈dx l):∃n,n∈l/\x=(n:Int):=by
 obtain⟨n,hn,rfl⟩:=aI.1 h;exact⟨n,hn,rfl⟩
structure fe(F:Nat->Prop)(w w':World):Prop where
 os:w'.os=w.os
 tape:w'.tape=w.tape
 output:w'.output=w.output
 size:w.heap.size<=w'.heap.size
 block:∀k,k<w.heap.size->¬F k->w'.heap[k]?=w.heap[k]?
theorem fV{F:Nat->Prop}{w':World}(h:Ext w w'):fe F w w':=⟨h.os,h.tape,h.output,h.size,λk hk _=>h.block k hk⟩
theorem fe.trans{F G:Nat->Prop}{a b c:World}(h:fe F a b)(k:fe G b c)(hG:∀x,x<a.heap.size->G x->F x):fe F a c:=
 ⟨k.os.trans h.os,k.tape.trans h.tape,k.output.trans h.output,bU h.size k.size,λx hx hf=>
  (k.block x (aQ hx h.size) (λg=>hf (hG x hx g))).trans (h.block x hx hf)⟩
theorem fe.refl(F:Nat->Prop)(w:World):fe F w w:=⟨rfl,rfl,rfl,ai _,λ_ _ _=>rfl⟩
theorem iB(h:w.ownsRow B e size v n xs)(hn:0<n):
 ∃g cap,v=.slice (some ⟨g,0,none⟩) n cap/\n<=cap/\cap<=maxLen/\∀j,j<n*size->w.cell? ⟨g,j,none⟩=xs[j]?:=by
 rcases h.2 with⟨rfl,h0⟩|⟨g,cap,cur,rfl,hb,hg,hnc,hcm,hcs,ht⟩
 .omega
 .exact⟨g,cap,rfl,hnc,hcm,λj hj=>World.ownsRow.cellAt h j hj⟩
theorem bD(h:w.ownsRow B e size v n xs):
 ∃a cap,v=.slice a n cap/\n<=cap/\cap<=maxLen:=by
 rcases h.2 with⟨rfl,h0⟩|⟨g,cap,cur,rfl,hb,hg,hnc,hcm,hcs,ht⟩
 .exact⟨none,0,by rw[h0],by omega,by simp[maxLen]⟩
 .exact⟨_,cap,rfl,hnc,hcm⟩
def kR(pb:Nat)(vn vb:Value)(b:Nat):Prop:=b=pb\/vn.ownBlock=some b\/vb.ownBlock=some b
structure eD(w:World)(pb:Nat)(vn vb:Value)(D:dC):Prop where
 good:bz.Good D
 small:D.length<=1000000
 cells:∃t,w.heap[pb]?=some (.cells #[vn,vb] t (0,0))
 born:w.ownsRow 0 3 1 vb D.length ((D.mapIdx λi _=>(born (vl D i):Int)).map (Value.int .i64))
 nodes:∃xs,w.ownsRow 0 89 2 vn D.length xs/\∀i (h:i<D.length),∃L R,xs[2*i]?=some L/\xs[2*i+1]?=some R/\Ints w L (dx (D[i]).1)/\Ints w R (dx (D[i]).2)/\
  (∀b,L.ownBlock=some b->¬kR pb vn vb b/\b<w.heap.size)/\(∀b,R.ownBlock=some b->¬kR pb vn vb b/\b<w.heap.size)
 kX:vn.ownBlock≠some pb
 mQ:vb.ownBlock≠some pb
 mP:∀b,vn.ownBlock=some b->vb.ownBlock≠some b
theorem eD.ext{w w':World}{pb:Nat}{vn vb:Value}{D:dC}(h:eD w pb vn vb D)(hx:Ext w w'):eD w' pb vn vb D:=by
 obtain⟨t,ht⟩:=h.cells;obtain⟨xs,ho,hn⟩:=h.nodes;refine⟨h.good,h.small,⟨t,?_⟩,dn h.born hx,⟨xs,dn ho hx,λi hi=>?_⟩,h.kX,h.mQ,h.mP⟩
 .rw[hx.block pb (fH.1 ht).1];exact ht
 .obtain⟨L,R,h1,h2,h3,h4,h5,h6⟩:=hn i hi
  exact⟨L,R,h1,h2,h3.ext hx,h4.ext hx,λb hb=>⟨(h5 b hb).1,aQ (h5 b hb).2 hx.size⟩,λb hb=>⟨(h6 b hb).1,aQ (h6 b hb).2 hx.size⟩⟩
theorem eD.cell0(h:eD w pb vn vb D):w.cell? ⟨pb,0,none⟩=some vn:=by
 obtain⟨t,ht⟩:=h.cells;rw[cell_of_row w pb 0 _ _ _ ht];rfl
theorem eD.cell1(h:eD w pb vn vb D):w.cell? ⟨pb,1,none⟩=some vb:=by
 obtain⟨t,ht⟩:=h.cells;rw[cell_of_row w pb 1 _ _ _ ht];rfl
theorem eD.free(h:eD w pb vn vb D)(o:Nat):w.frozen? ⟨pb,o,none⟩=false:=by
 obtain⟨t,ht⟩:=h.cells;exact frozen_of_row w pb o _ _ ht
theorem eD.lt(h:eD w pb vn vb D):pb<w.heap.size:=by
 obtain⟨t,ht⟩:=h.cells;exact(fH.1 ht).1
end
section
open Go.RowKit
open bz (dC Nd vl Asc)
variable {l:List Int} {n y:Int} {x:Nat}
theorem Qx(h:l.Pairwise (· < ·)){i j:Nat}(hij:i<j)(hj:j<l.length):jv l i<jv l j:=by
 rw[o6 (by omega),o6 hj];exact dh.1 h i j (by omega) hj hij
theorem DT(l:List Int)(n:Int):∀y,y∈l.take (putAt l n)->y<n:=by
 intro y hy;unfold putAt at hy;rw[<-List.takeWhile_append_dropWhile (p:=λx=>decide (x<n)) (l:=l)]at hy;simp at hy
 induction l with
 |nil=>simp at hy
 |cons a l ih=>
  by_cases ha:a<n
  .simp[ha]at hy
   rcases hy with rfl|hy
   .exact ha
   .exact ih hy
  .simp[ha]at hy
theorem qW(h:l.Pairwise (· < ·)):∀y,y∈l.drop (putAt l n)->n<=y:=by
 induction l with
 |nil=>intro y hy;simp at hy
 |cons a l ih=>
  intro y hy;have hl:=p8.1 h;by_cases ha:a<n
  .have e:putAt (a :: l) n=putAt l n+1:=by simp[putAt,ha]
   rw[e]at hy;exact ih hl.2 y (by simpa using hy)
  .have e:putAt (a :: l) n=0:=by simp[putAt,ha]
   rw[e]at hy;simp at hy;rcases hy with rfl|hy
   .omega
   .have:=hl.1 y hy;omega
theorem Ct:y∈qz l n↔y∈l\/y=n:=by
 unfold qz;split
 .rename_i hp
  constructor
  .exact .inl
  .rintro(h|rfl)
   .exact h
   .obtain⟨hk,he⟩:=hp
    rw[o6 hk]at he;rw[<-he];exact ah hk
 .have:y∈l↔y∈l.take (putAt l n)\/y∈l.drop (putAt l n):=by
   rw[<-aK,iZ]
  rw[this];simp;constructor
  .rintro(h|h|h)
   .exact .inl (.inl h)
   .exact .inr h
   .exact .inl (.inr h)
  .rintro((h|h)|h)
   .exact .inl h
   .exact .inr (.inr h)
   .exact .inr (.inl h)
theorem IM(h:l.Pairwise (· < ·)):(qz l n).Pairwise (· < ·):=by
 unfold qz;split
 .exact h
 .rename_i hp
  rw[show l.take (putAt l n)++[n]++l.drop (putAt l n)=l.take (putAt l n)++n :: l.drop (putAt l n) by simp,sG];refine⟨h.sublist (List.take_sublist _ _),p8.2 ⟨?_,h.sublist (List.drop_sublist _ _)⟩,?_⟩
  .intro y hy
   have h1:=qW h y hy;have h2:y≠n:=by
    rintro rfl;apply hp;obtain⟨i,hi,e⟩:=aO.1 hy;simp at hi;have h0:=qW (n:=y) h (jv l (putAt l y)) (by
     rw[o6 (by omega)];have:(l.drop (putAt l y))[0]'(by simp;omega)=l[putAt l y]:=(by simp);rw[<-this];exact ah _)
    refine⟨by omega,?_⟩;by_cases hi0:i=0
    .subst hi0
     rw[o6 (by omega)];simpa using e
    .have h3:=Qx h (i:=putAt l y) (j:=putAt l y+i) (by omega) (by omega)
     rw[List.getElem_drop]at e;rw[o6 (k:=putAt l y+i) (by omega),e]at h3;omega
   omega
  .intro a ha b hb
   have h1:=DT l n a ha;rcases dD.1 hb with rfl|hb
   .exact h1
   .have:=qW h b hb
    omega
theorem Ex:y∈jD l↔y∈l:=by
 have main:∀(l acc:List Int),y∈l.foldl qz acc↔y∈acc\/y∈l:=by
  intro l
  induction l with
  |nil=>intro acc;simp
  |cons x l ih=>intro acc;simp only[List.foldl_cons,ih,Ct,dD];exact or_assoc
 have:=main l []
 simpa [jD]using this
theorem Ov(l:List Int):(jD l).Pairwise (· < ·):=by
 have main:∀(l acc:List Int),acc.Pairwise (· < ·)->(l.foldl qz acc).Pairwise (· < ·):=by
  intro l
  induction l with
  |nil=>intro acc h;exact h
  |cons x l ih=>intro acc h;exact ih _ (IM h)
 exact main l [] List.Pairwise.nil
def bE(l:List Nat):List Nat:=(jD (dx l)).map Int.toNat
theorem kI(l:List Nat):jD (dx l)=dx (bE l):=by
 unfold bE
 conv=>rhs;rw[dx,jC]
 conv=>lhs;rw[<-List.map_id (jD (dx l))]
 refine dP λx hx=>?_
 obtain⟨n,_,rfl⟩:=ni (Ex.1 hx);simp
theorem MS{a b:List Nat}(h:dx a=dx b):a=b:=by
 have:=congrArg (List.map Int.toNat) h
 simpa [dx,jC,Function.comp_def]using this
theorem sU{l:List Nat}:(x:Int)∈dx l↔x∈l:=by
 constructor
 .intro h;obtain⟨n,hn,e⟩:=ni h;have:x=n:=by omega
  rw[this];exact hn
 .intro h;exact aI.2 ⟨x,h,rfl⟩
theorem bZ{l:List Nat}:x∈bE l↔x∈l:=by
 rw[<-sU,<-kI,Ex,sU]
theorem jw(l:List Nat):Asc (bE l):=by
 have h:=Ov (dx l);rw[kI]at h;unfold dx at h;rw[jl]at h;exact h.imp λh=>by omega
theorem pW(l:List Nat):(bE l).length<=l.length:=by
 have:=q9 (dx l);rw[kI,bu,bu]at this;exact this
theorem Iq{l:List Nat}(h:Asc l):bE l=l:=bz.tQ (jw l) h λ_=>bZ
end
end Go.Proofs.YteknjeohbcgpdaaGreatDoor