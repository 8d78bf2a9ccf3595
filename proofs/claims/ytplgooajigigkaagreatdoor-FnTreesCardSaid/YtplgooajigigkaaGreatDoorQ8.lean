/- 8 -/
import Derived.Test.YtplgooajigigkaaGreatDoorQ6
import Derived.Test.YtplgooajigigkaaGreatDoorQ7
import Derived.Deep.DeepCutAuto
import Derived.Deep.CutBlock
set_option maxRecDepth 100000
set_option maxHeartbeats 4000000
namespace Go.Proofs.YtplgooajigigkaaGreatDoor
open Tryz
section
open Go.RowKit
def jf(l:List Int):List Int:=l.foldl qp []
theorem wP(l:List Int)(x:Int):jf (l++[x])=qp (jf l) x:=by simp[jf]
theorem Rh(l:List Int)(x:Int):(qp l x).length<=l.length+1:=by
 unfold qp;split
 .omega
 .have:putAt l x<=l.length:=(List.takeWhile_sublist _).length_le
  simp;omega
theorem qR(l:List Int):(jf l).length<=l.length:=by
 have main:∀(l acc:List Int),(l.foldl qp acc).length<=acc.length+l.length:=by
  intro l
  induction l with
  |nil=>intro acc;simp
  |cons x l ih=>intro acc;have:=ih (qp acc x);have:=Rh acc x;simp;omega
 have:=main l []
 simpa [jf]using this
theorem qX{N:Nat}{w w':World}{v v':Value}(h:∀b,v.ownBlock=some b->N<=b/\b<w.heap.size)(hN:N<=w.heap.size)(hs:w.heap.size<=w'.heap.size)(hn:UM w w' v v'):∀b,v'.ownBlock=some b->N<=b/\b<w'.heap.size:=by
 intro b hb;rcases hn b hb with h1|h1
 .have:=h b h1;omega
 .omega
theorem xY(v:Value)(l:List Int)(w:World)(h:Ints w v l)(hsz:l.length<=1000000000):
 Calls prog 120 #[v] w λe w'=>∃v',e=.returned v'/\Ints w' v' (jf l)/\Ext w w'/\(∀b,v'.ownBlock=some b->w.heap.size<=b/\b<w'.heap.size):=by
 obtain⟨a,cap,rfl,hlc,hcap,hc⟩:=h;go_enter Tryz.func120,Tryz.ntmps120
 go_wp2
 go_loopw [3,4] (λo i wr=>∃k:Nat,k<=l.length/\i=.int .i64 k/\Ints wr o (jf (l.take k))/\Ext w wr/\Hid (∀b,o.ownBlock=some b->w.heap.size<=b/\b<wr.heap.size)) (λ_ i _=>l.length-(intOf i).toNat)
 case atStart=>exact⟨0,az _,rfl,Ints.nil _ _ _,(fJ _ _).alloc (ax _) _,λb hb=>by simp[Value.ownBlock]at hb;subst hb;simp⟩
 case round=>
  obtain⟨k,hk,rfl,hI,jh,HF⟩:=hrel;by_cases hlt:k<l.length
  .obtain⟨b,off,rfl,hcell⟩:=hc (by omega)
   have hck:=hcell k hlt;have lK:=dP jh hck;have hlen:(jf (l.take k)).length<=1000000000:=(by have:=qR (l.take k);have:=List.length_take_le k l;omega);have hsn:jf (l.take (k+1))=qp (jf (l.take k)) (dD l k):=(by rw[mX hlt,wP]);have HS:=aI hsn;clear hcell hc hck hsn;go_wp2_with (go_at_call 161;refine(q8 _ _ _ _ hI hlen).mono ?_;rintro e w1 ⟨v1,rfl,hI1,hx1,hn1⟩)
   go_roundw
   case rel=>exact⟨k+1,by omega,by go_num,by rw[HS.out];exact hI1,ah jh hx1,qX HF.out jh.size hx1.size hn1⟩
   case measure=>simp[intOf];omega
  .go_wp2
   go_ret
   have e:k=l.length:=(by omega);subst e;rw[cO]at hI;exact⟨_,rfl,hI,jh,HF.out⟩
def Gs(l p:List Int)(k:Nat):List Int:=((List.range k).filter λ(i:Nat)=>!l7 p (i:Int)).map (dD l)
def pO(l p:List Int):List Int:=Gs l p l.length
theorem Qz(l p:List Int)(k:Nat)(h:l7 p (k:Int)=true):Gs l p (k+1)=Gs l p k:=by
 simp[Gs,nA,jF,h]
theorem MB(l p:List Int)(k:Nat)(h:l7 p (k:Int)=false):Gs l p (k+1)=Gs l p k++[dD l k]:=by
 simp[Gs,nA,jF,h]
theorem xz(l p:List Int)(k:Nat):(Gs l p k).length<=k:=by
 have:=List.length_filter_le (λ(i:Nat)=>!l7 p (i:Int)) (List.range k);simp[Gs]at this ⊢;exact this
theorem wB(v u:Value)(l p:List Int)(w:World)(h:Ints w v l)(g:Ints w u p)(hsz:l.length<=1000000000):
 Calls prog 117 #[v,u] w λe w'=>∃v',e=.returned v'/\Ints w' v' (pO l p)/\Ext w w'/\(∀b,v'.ownBlock=some b->w.heap.size<=b/\b<w'.heap.size):=by
 obtain⟨a,cap,rfl,hlc,hcap,hc⟩:=h;obtain⟨i0,hi,hz0,hz1,hz2⟩:=info_parts fB;go_enter Tryz.func117,Tryz.ntmps117
 go_wp2
 go_loopw [5,6] (λo i wr=>∃k:Nat,k<=l.length/\i=.int .i64 k/\wr.ownsRow w.heap.size 3 1 o (Gs l p k).length ((Gs l p k).map (Value.int .i64))/\Ext w wr) (λ_ i _=>l.length-(intOf i).toNat)
 case atStart=>exact⟨0,az _,rfl,gG w _ (ax _) _,(fJ _ _).alloc (ax _) _⟩
 case round=>
  obtain⟨k,hk,rfl,hown,jh⟩:=hrel;by_cases hlt:k<l.length
  .obtain⟨b,off,rfl,hcell⟩:=hc (by omega)
   have hck:=hcell k hlt;have lK:=dP jh hck;have hwl:=xz l p k;have gw:=g.ext jh;clear hcell hc hck;by_cases hin:l7 p (k:Int)=true
   .have HW:=aI (Qz l p k hin)
    go_wp2_with (go_at_call 164;refine(pF _ _ _ _ gw).mono ?_;rintro e w1 ⟨rfl,nn,rfl⟩)
    go_roundw
    case rel=>exact⟨k+1,by omega,by go_num,by rw[HW.out];exact own_drewN hown _,dG jh _⟩
    case measure=>simp[intOf];omega
   .have hin':l7 p (k:Int)=false:=by simpa using hin
    have HW:=aI (MB l p k hin');clear hin
    go_wp2_with (first
     |(go_at_call 164;refine(pF _ _ _ _ gw).mono ?_;rintro e w1 ⟨rfl,nn,rfl⟩)
     |(at_builtin;refine dm rfl _ _ 41 rfl w.heap.size 3 i0 (.int .i64 0) 1 8 underlying41 hi hz0 hz1 hz2 rfl (by decide) _ _ _ rfl ((own_drewN hown nn).alloc _) _ 1 _ [Value.int .i64 (dD l k)] rfl rfl (.inr ⟨_,rfl,dA (bY _ _ _)⟩) one_cell (by unfold maxLen;omega) (by omega) (by have:=jh.size;simp;omega) ?_;intro v1 w1 ho1 hg1 _))
    go_roundw
    case rel=>
     refine⟨k+1,by omega,by go_num,?_,AL (dG jh nn) hown hg1⟩;rw[HW.out]
     simpa using ho1
    case measure=>simp[intOf];omega
  .go_wp2
   go_ret
   have e:k=l.length:=(by omega);subst e;exact⟨_,rfl,Ints.dX (l:=Gs l p l.length) hown (by have:=xz l p l.length;omega),jh,λb hb=>hown.lt b hb⟩
end
section
open Go.RowKit
open aZ
variable {l:List Nat} {w:World} {B size n pb:Nat} {e:TypeId} {v vn vb:Value} {xs:List Value} {D:cZ}
def bV(l:List Nat):List Int:=l.map λ(n:Nat)=>(n:Int)
theorem aP(l:List Nat):(bV l).length=l.length:=by simp[bV]
theorem fD{k:Nat}(h:k<l.length):dD (bV l) k=(l[k]:Int):=by
 rw[kW (by rw[aP];exact h)];simp[bV]
theorem mo{x:Int}(h:x∈bV l):∃n,n∈l/\x=(n:Int):=by
 obtain⟨n,hn,rfl⟩:=ay.1 h;exact⟨n,hn,rfl⟩
structure dW(F:Nat->Prop)(w w':World):Prop where
 os:w'.os=w.os
 tape:w'.tape=w.tape
 output:w'.output=w.output
 size:w.heap.size<=w'.heap.size
 block:∀k,k<w.heap.size->¬F k->w'.heap[k]?=w.heap[k]?
theorem iM{F:Nat->Prop}{w':World}(h:Ext w w'):dW F w w':=⟨h.os,h.tape,h.output,h.size,λk hk _=>h.block k hk⟩
theorem dW.trans{F G:Nat->Prop}{a b c:World}(h:dW F a b)(k:dW G b c)(hG:∀x,x<a.heap.size->G x->F x):dW F a c:=
 ⟨k.os.trans h.os,k.tape.trans h.tape,k.output.trans h.output,df h.size k.size,λx hx hf=>
  (k.block x (aJ hx h.size) (λg=>hf (hG x hx g))).trans (h.block x hx hf)⟩
theorem gY(h:w.ownsRow B e size v n xs)(hn:0<n):
 ∃g cap,v=.slice (some ⟨g,0,none⟩) n cap/\n<=cap/\cap<=maxLen/\∀j,j<n*size->w.cell? ⟨g,j,none⟩=xs[j]?:=by
 rcases h.2 with⟨rfl,h0⟩|⟨g,cap,cur,rfl,hb,hg,hnc,hcm,hcs,ht⟩
 .omega
 .exact⟨g,cap,rfl,hnc,hcm,λj hj=>World.ownsRow.cellAt h j hj⟩
theorem bu(h:w.ownsRow B e size v n xs):
 ∃a cap,v=.slice a n cap/\n<=cap/\cap<=maxLen:=by
 rcases h.2 with⟨rfl,h0⟩|⟨g,cap,cur,rfl,hb,hg,hnc,hcm,hcs,ht⟩
 .exact⟨none,0,by rw[h0],by omega,by simp[maxLen]⟩
 .exact⟨_,cap,rfl,hnc,hcm⟩
def kM(pb:Nat)(vn vb:Value)(b:Nat):Prop:=b=pb\/vn.ownBlock=some b\/vb.ownBlock=some b
structure dK(w:World)(pb:Nat)(vn vb:Value)(D:cZ):Prop where
 good:aZ.Good D
 small:D.length<=1000000
 cells:∃t,w.heap[pb]?=some (.cells #[vn,vb] t (0,0))
 born:w.ownsRow 0 3 1 vb D.length ((D.mapIdx λi _=>(born (vl D i):Int)).map (Value.int .i64))
 nodes:∃xs,w.ownsRow 0 91 2 vn D.length xs/\∀i (h:i<D.length),∃L R,xs[2*i]?=some L/\xs[2*i+1]?=some R/\Ints w L (bV (D[i]).1)/\Ints w R (bV (D[i]).2)/\
  (∀b,L.ownBlock=some b->¬kM pb vn vb b/\b<w.heap.size)/\(∀b,R.ownBlock=some b->¬kM pb vn vb b/\b<w.heap.size)
 kD:vn.ownBlock≠some pb
 mJ:vb.ownBlock≠some pb
 mI:∀b,vn.ownBlock=some b->vb.ownBlock≠some b
theorem dK.ext{w w':World}{pb:Nat}{vn vb:Value}{D:cZ}(h:dK w pb vn vb D)(hx:Ext w w'):dK w' pb vn vb D:=by
 obtain⟨t,ht⟩:=h.cells;obtain⟨xs,ho,hn⟩:=h.nodes;refine⟨h.good,h.small,⟨t,?_⟩,bW h.born hx,⟨xs,bW ho hx,λi hi=>?_⟩,h.kD,h.mJ,h.mI⟩
 .rw[hx.block pb (fC.1 ht).1];exact ht
 .obtain⟨L,R,h1,h2,h3,h4,h5,h6⟩:=hn i hi
  exact⟨L,R,h1,h2,h3.ext hx,h4.ext hx,λb hb=>⟨(h5 b hb).1,aJ (h5 b hb).2 hx.size⟩,λb hb=>⟨(h6 b hb).1,aJ (h6 b hb).2 hx.size⟩⟩
theorem dK.cell0(h:dK w pb vn vb D):w.cell? ⟨pb,0,none⟩=some vn:=by
 obtain⟨t,ht⟩:=h.cells;rw[bI w pb 0 _ _ _ ht];rfl
theorem dK.cell1(h:dK w pb vn vb D):w.cell? ⟨pb,1,none⟩=some vb:=by
 obtain⟨t,ht⟩:=h.cells;rw[bI w pb 1 _ _ _ ht];rfl
theorem dK.free(h:dK w pb vn vb D)(o:Nat):w.frozen? ⟨pb,o,none⟩=false:=by
 obtain⟨t,ht⟩:=h.cells;exact iW w pb o _ _ ht
theorem dK.lt(h:dK w pb vn vb D):pb<w.heap.size:=by
 obtain⟨t,ht⟩:=h.cells;exact(fC.1 ht).1
end
section
open Go.RowKit
open aZ (cZ Nd vl Asc)
variable {l:List Int} {n y:Int} {x:Nat}
theorem Qs(h:l.Pairwise (· < ·)){i j:Nat}(hij:i<j)(hj:j<l.length):dD l i<dD l j:=by
 rw[kW (by omega),kW hj];exact bP.1 h i j (by omega) hj hij
theorem CR(l:List Int)(n:Int):∀y,y∈l.take (putAt l n)->y<n:=by
 intro y hy;unfold putAt at hy;rw[<-List.takeWhile_append_dropWhile (p:=λx=>decide (x<n)) (l:=l)]at hy;simp at hy
 induction l with
 |nil=>simp at hy
 |cons a l ih=>
  by_cases ha:a<n
  .simp[ha]at hy
   rcases hy with rfl|hy
   .exact ha
   .exact ih hy
  .simp[ha]at hy
theorem qO(h:l.Pairwise (· < ·)):∀y,y∈l.drop (putAt l n)->n<=y:=by
 induction l with
 |nil=>intro y hy;simp at hy
 |cons a l ih=>
  intro y hy;have hl:=mE.1 h;by_cases ha:a<n
  .have e:putAt (a :: l) n=putAt l n+1:=by simp[putAt,ha]
   rw[e]at hy;exact ih hl.2 y (by simpa using hy)
  .have e:putAt (a :: l) n=0:=by simp[putAt,ha]
   rw[e]at hy;simp at hy;rcases hy with rfl|hy
   .omega
   .have:=hl.1 y hy;omega
theorem Bh:y∈qp l n↔y∈l\/y=n:=by
 unfold qp;split
 .rename_i hp
  constructor
  .exact .inl
  .rintro(h|rfl)
   .exact h
   .obtain⟨hk,he⟩:=hp
    rw[kW hk]at he;rw[<-he];exact aj hk
 .have:y∈l↔y∈l.take (putAt l n)\/y∈l.drop (putAt l n):=by
   rw[<-aM,jw]
  rw[this];simp;constructor
  .rintro(h|h|h)
   .exact .inl (.inl h)
   .exact .inr h
   .exact .inl (.inr h)
  .rintro((h|h)|h)
   .exact .inl h
   .exact .inr (.inr h)
   .exact .inr (.inl h)
theorem Hg(h:l.Pairwise (· < ·)):(qp l n).Pairwise (· < ·):=by
 unfold qp;split
 .exact h
 .rename_i hp
  rw[show l.take (putAt l n)++[n]++l.drop (putAt l n)=l.take (putAt l n)++n :: l.drop (putAt l n) by simp,rM];refine⟨h.sublist (List.take_sublist _ _),mE.2 ⟨?_,h.sublist (List.drop_sublist _ _)⟩,?_⟩
  .intro y hy
   have h1:=qO h y hy;have h2:y≠n:=by
    rintro rfl;apply hp;obtain⟨i,hi,e⟩:=aH.1 hy;simp at hi;have h0:=qO (n:=y) h (dD l (putAt l y)) (by
     rw[kW (by omega)];have:(l.drop (putAt l y))[0]'(by simp;omega)=l[putAt l y]:=(by simp);rw[<-this];exact aj _)
    refine⟨by omega,?_⟩;by_cases hi0:i=0
    .subst hi0
     rw[kW (by omega)];simpa using e
    .have h3:=Qs h (i:=putAt l y) (j:=putAt l y+i) (by omega) (by omega)
     rw[List.getElem_drop]at e;rw[kW (k:=putAt l y+i) (by omega),e]at h3;omega
   omega
  .intro a ha b hb
   have h1:=CR l n a ha;rcases dZ.1 hb with rfl|hb
   .exact h1
   .have:=qO h b hb
    omega
theorem Dw:y∈jf l↔y∈l:=by
 have main:∀(l acc:List Int),y∈l.foldl qp acc↔y∈acc\/y∈l:=by
  intro l
  induction l with
  |nil=>intro acc;simp
  |cons x l ih=>intro acc;simp only[List.foldl_cons,ih,Bh,dZ];exact or_assoc
 have:=main l []
 simpa [jf]using this
theorem Og(l:List Int):(jf l).Pairwise (· < ·):=by
 have main:∀(l acc:List Int),acc.Pairwise (· < ·)->(l.foldl qp acc).Pairwise (· < ·):=by
  intro l
  induction l with
  |nil=>intro acc h;exact h
  |cons x l ih=>intro acc h;exact ih _ (Hg h)
 exact main l [] List.Pairwise.nil
def aS(l:List Nat):List Nat:=(jf (bV l)).map Int.toNat
theorem jL(l:List Nat):jf (bV l)=bV (aS l):=by
 unfold aS
 conv=>rhs;rw[bV,eP]
 conv=>lhs;rw[<-o6 (jf (bV l))]
 refine bE λx hx=>?_
 obtain⟨n,_,rfl⟩:=mo (Dw.1 hx);simp
theorem MH{a b:List Nat}(h:bV a=bV b):a=b:=by
 have:=congrArg (List.map Int.toNat) h
 simpa [bV,eP,Function.comp_def]using this
theorem sD{l:List Nat}:(x:Int)∈bV l↔x∈l:=by
 constructor
 .intro h;obtain⟨n,hn,e⟩:=mo h;have:x=n:=by omega
  rw[this];exact hn
 .intro h;exact ay.2 ⟨x,h,rfl⟩
theorem bU{l:List Nat}:x∈aS l↔x∈l:=by
 rw[<-sD,<-jL,Dw,sD]
theorem iP(l:List Nat):Asc (aS l):=by
 have h:=Og (bV l);rw[jL]at h;unfold bV at h;rw[gP]at h;exact h.imp λh=>by omega
theorem o9(l:List Nat):(aS l).length<=l.length:=by
 have:=qR (bV l);rw[jL,aP,aP]at this;exact this
theorem GL{l:List Nat}(h:Asc l):aS l=l:=aZ.tC (iP l) h λ_=>bU
end
section
open Go.RowKit
variable {w0 w:World} {pc k:Nat} {cv:Value} {us:List Nat}
def wJ(us:List Nat):List Value:=us.map λu=>.int .u8 ((u:Nat):Int)
structure uk(w0 w:World)(pc:Nat)(cv:Value)(us:List Nat)(k:Nat):Prop where
 code:nX w0 cv (wJ us)
 small:∀u,u∈us->u<256
 ext:Ext w0 w
 Zy:w0.heap.size<=pc
 blk:∃s:Int,w.heap[pc]?=some (.cells #[cv,.int .i64 ((k:Nat):Int),.int .u64 s] 69 (0,0))
theorem uk.open(h:uk w0 w pc cv us k):∃a cap,cv=.slice a us.length cap/\us.length<=1152921504606846976/\∀i (hi:i<us.length),∃b off,a=some ⟨b,off,none⟩/\w.cell? ⟨b,off+i,none⟩=some (.int .u8 ((us[i]:Nat):Int)):=by
 obtain⟨a,cap,e,hcap,yH,hcl⟩:=h.code.ext h.ext;have hz:(wJ us).length=us.length:=by simp[wJ]
 refine⟨a,cap,by rw[e,hz],by omega,λi hi=>?_⟩;obtain⟨b,off,e,hc⟩:=hcl (by omega);refine⟨b,off,e,?_⟩;rw[hc i (by omega)];simp[wJ]
def mh(w0 w w':World)(pc:Nat)(cv:Value)(us:List Nat)(k n:Nat):Prop:=(∃k',k'<=k+n/\uk w0 w' pc cv us k')/\dW (λb=>b=pc) w w'
theorem RP(x:Int)(h0:0<=x)(h1:x<18446744073709551616):∃n:Nat,n<256/\wrap64 (bits BinOp.and IntKind.u64 x 255)=((n:Nat):Int):=by
 have h:=bits_mask .u64 64 (by decide) (λn h0 h1=>by rw[IntKind.wrap_u64];omega) 8 (by decide) x h0 (by omega);have e:bits BinOp.and IntKind.u64 x 255=x % 256:=by simpa using h
 refine⟨(x % 256).toNat,by omega,?_⟩;rw[e];unfold wrap64;omega
theorem uk.go{w':World}{s:Int}(h:uk w0 w pc cv us k)(hb:w'.heap[pc]?=some (.cells #[cv,.int .i64 (((k:Nat):Int)+1),.int .u64 s] 69 (0,0)))(hk:dW (λb=>b=pc) w w'):mh w0 w w' pc cv us k 1:=
 ⟨⟨k+1,ax _,h.code,h.small,⟨hk.os.trans h.ext.os,hk.tape.trans h.ext.tape,hk.output.trans h.ext.output,df h.ext.size hk.size,λb hb=>(hk.block b (aJ hb h.ext.size) (λe=>by have:=h.Zy;omega)).trans (h.ext.block b hb)⟩,h.Zy,s,by rw[hb,fU]⟩,hk⟩
def MR:List Row:=[⟨0,[],5,[0]⟩,⟨1,[0],6,[4]⟩,⟨2,[1],7,[5]⟩,⟨3,[2],8,[6]⟩,⟨4,[],9,[0]⟩,⟨5,[4],10,[8]⟩,⟨6,[5],11,[9]⟩,⟨7,[6],12,[10]⟩,⟨8,[7],13,[11]⟩,⟨9,[3,8],14,[7,12]⟩]
def V9:List Row:=[⟨0,[],15,[0]⟩,⟨1,[0],16,[14]⟩,⟨2,[1],17,[15]⟩,⟨3,[2],18,[16]⟩,⟨4,[],19,[0]⟩,⟨5,[4],20,[18]⟩,⟨6,[5],21,[19]⟩,⟨7,[6],22,[20]⟩,⟨8,[3,7],23,[17,21]⟩,⟨9,[8],24,[22]⟩,⟨10,[9],25,[23]⟩,⟨11,[10,0,1,2,3,4,5,6,7,8,9,10],4,[24]⟩]
def MQ:List Row:=[⟨0,[],45,[0]⟩,⟨1,[0],46,[44]⟩,⟨2,[1],47,[45]⟩,⟨3,[2],48,[46]⟩,⟨4,[],49,[0]⟩,⟨5,[4],50,[48]⟩,⟨6,[5],51,[49]⟩,⟨7,[6],52,[50]⟩,⟨8,[7],53,[51]⟩,⟨9,[3,8],54,[47,52]⟩]
theorem RL(h:uk w0 w pc cv us k)(hk:k<=1000000):
 Calls prog 132 #[.pointer (some ⟨pc,0,none⟩)] w λe w'=>∃x:Nat,x<256/\e=.returned (.int .i64 ((x:Nat):Int))/\mh w0 w w' pc cv us k 1:=by
 obtain⟨s,hb⟩:=h.blk;obtain⟨a,cap,rfl,yH,hcl⟩:=h.open;have c0:=bI w pc 0 _ _ _ hb;have c1:=bI w pc 1 _ _ _ hb;have c2:=bI w pc 2 _ _ _ hb;simp only[gE]at c0 c1 c2;have H:=aI h;go_enter Tryz.func132,Tryz.ntmps132
 have f1:=iW w pc 1 _ _ hb;have f2:=iW w pc 2 _ _ hb;by_cases hlt:k<us.length
 .obtain⟨b,off,rfl,hu⟩:=hcl k hlt
  have hu8:=h.small _ (aj hlt);generalize us[k]=u at hu hu8;have hli:((k:Nat):Int)<((us.length:Nat):Int):=by omega
  have hwu:IntKind.i64.wrap ((u:Nat):Int)=((u:Nat):Int):=(oo _).trans (by unfold wrap64;omega);clear hcl hlt;go_upto_region 2 with fail
  refine mQ (λV=>V.cell? ⟨pc,0,none⟩=some (.slice (some ⟨b,off,none⟩) us.length cap)/\V.cell? ⟨pc,1,none⟩=some (.int .i64 ((k:Nat):Int))) [] MR ⟨c0,c1⟩ (λai aa=>?_);(refine bg 0 ai aa ?_;refine bg 1 ai aa ?_;refine bg 2 ai aa ?_;refine bg 3 ai aa ?_;refine bg 4 ai aa ?_;refine bg 5 ai aa ?_;refine bg 6 ai aa ?_;refine bg 7 ai aa ?_;refine bg 8 ai aa ?_;refine bg 9 ai aa ?_);refine mM ai [] [] ?_ (hm:=rfl);clear ai aa;go_upto_region 3 with fail
  refine mQ (λV=>V.cell? ⟨pc,0,none⟩=some (.slice (some ⟨b,off,none⟩) us.length cap)/\V.cell? ⟨pc,1,none⟩=some (.int .i64 ((k:Nat):Int))/\V.cell? ⟨b,off+k,none⟩=some (.int .u8 ((u:Nat):Int))) [] V9 ⟨c0,c1,hu⟩ (λai aa=>?_);(refine bg 0 ai aa ?_;refine bg 1 ai aa ?_;refine bg 2 ai aa ?_;refine bg 3 ai aa ?_;refine bg 4 ai aa ?_;refine bg 5 ai aa ?_;refine bg 6 ai aa ?_;refine bg 7 ai aa ?_;refine bg 8 ai aa ?_;refine bg 9 ai aa ?_;refine bg 10 ai aa ?_;refine bg 11 ai aa ?_);refine mM ai [] [] ?_ (hm:=rfl);clear ai aa;go_upto_region 5 with fail
  have hb1:((w.setCell ⟨pc,1,none⟩ (.int .i64 (((k:Nat):Int)+1))).drew.drew).heap[pc]?=some (.cells #[.slice (some ⟨b,off,none⟩) us.length cap,.int .i64 (((k:Nat):Int)+1),.int .u64 s] 69 (0,0)):=by
   have:=iV w pc 1 _ _ (.int .i64 (((k:Nat):Int)+1)) hb;simp only[nE]at this;exact this
  have hk1:dW (λx=>x=pc) w ((w.setCell ⟨pc,1,none⟩ (.int .i64 (((k:Nat):Int)+1))).drew.drew):=⟨rfl,rfl,rfl,by simp,λx _ hn=>jH _ _ _ _ (λe=>hn e)⟩;generalize ((w.setCell ⟨pc,1,none⟩ (.int .i64 (((k:Nat):Int)+1))).drew.drew)=W1 at *;clear c0 c1 c2 f1 f2;have c2:=bI W1 pc 2 _ _ _ hb1;simp only[gE]at c2;have f2:=iW W1 pc 2 _ _ hb1;go_upto_region 6 with fail
  generalize IntKind.u64.wrap (IntKind.u64.wrap (IntKind.u64.wrap (s*6364136223846793005)+((u:Nat):Int))+868868)=s2 at *;have hb2:(W1.setCell ⟨pc,2,none⟩ (.int .u64 s2)).heap[pc]?=some (.cells #[.slice (some ⟨b,off,none⟩) us.length cap,.int .i64 (((k:Nat):Int)+1),.int .u64 s2] 69 (0,0)):=by
   have:=iV W1 pc 2 _ _ (.int .u64 s2) hb1;simp only[nE]at this;exact this
  have hk2:dW (λx=>x=pc) w (W1.setCell ⟨pc,2,none⟩ (.int .u64 s2)):=hk1.trans ⟨rfl,rfl,rfl,by simp,λx _ hn=>jH _ _ _ _ (λe=>hn e)⟩ (λ_ _ h=>h);generalize W1.setCell ⟨pc,2,none⟩ (.int .u64 s2)=W2 at *;clear c2 f2 hb1 hk1;have c0:=bI W2 pc 0 _ _ _ hb2;have c1:=bI W2 pc 1 _ _ _ hb2;simp only[gE]at c0 c1;have hle:((k:Nat):Int)+1<=((us.length:Nat):Int):=by omega
  refine mQ (λV=>V.cell? ⟨pc,0,none⟩=some (.slice (some ⟨b,off,none⟩) us.length cap)/\V.cell? ⟨pc,1,none⟩=some (.int .i64 (((k:Nat):Int)+1))) [] MQ ⟨c0,c1⟩ (λai aa=>?_);(refine bg 0 ai aa ?_;refine bg 1 ai aa ?_;refine bg 2 ai aa ?_;refine bg 3 ai aa ?_;refine bg 4 ai aa ?_;refine bg 5 ai aa ?_;refine bg 6 ai aa ?_;refine bg 7 ai aa ?_;refine bg 8 ai aa ?_;refine bg 9 ai aa ?_);refine mM ai [] [] ?_ (hm:=rfl);clear ai aa;go_wp2
  go_ret
  exact⟨u,hu8,rfl,H.out.go hb2 ⟨hk2.os,hk2.tape,hk2.output,hk2.size,hk2.block⟩⟩
 .have hli:¬(((k:Nat):Int)<((us.length:Nat):Int)):=by omega
  clear hcl hlt;go_upto_region 2 with fail
  refine mQ (λV=>V.cell? ⟨pc,0,none⟩=some (.slice a us.length cap)/\V.cell? ⟨pc,1,none⟩=some (.int .i64 ((k:Nat):Int))) [] MR ⟨c0,c1⟩ (λai aa=>?_);(refine bg 0 ai aa ?_;refine bg 1 ai aa ?_;refine bg 2 ai aa ?_;refine bg 3 ai aa ?_;refine bg 4 ai aa ?_;refine bg 5 ai aa ?_;refine bg 6 ai aa ?_;refine bg 7 ai aa ?_;refine bg 8 ai aa ?_;refine bg 9 ai aa ?_);refine mM ai [] [] ?_ (hm:=rfl);clear ai aa;go_upto_region 5 with fail
  have hb1:((w.setCell ⟨pc,1,none⟩ (.int .i64 (((k:Nat):Int)+1))).drew).heap[pc]?=some (.cells #[.slice a us.length cap,.int .i64 (((k:Nat):Int)+1),.int .u64 s] 69 (0,0)):=by
   have:=iV w pc 1 _ _ (.int .i64 (((k:Nat):Int)+1)) hb;simp only[nE]at this;exact this
  have hk1:dW (λx=>x=pc) w ((w.setCell ⟨pc,1,none⟩ (.int .i64 (((k:Nat):Int)+1))).drew):=⟨rfl,rfl,rfl,by simp,λx _ hn=>jH _ _ _ _ (λe=>hn e)⟩;generalize ((w.setCell ⟨pc,1,none⟩ (.int .i64 (((k:Nat):Int)+1))).drew)=W1 at *;clear c0 c1 c2 f1 f2;have c2:=bI W1 pc 2 _ _ _ hb1;simp only[gE]at c2;have f2:=iW W1 pc 2 _ _ hb1;go_upto_region 6 with fail
  obtain⟨s2,hs2,hs3⟩:∃s2,IntKind.u64.wrap (IntKind.u64.wrap (IntKind.u64.wrap (s*6364136223846793005))+868868)=s2/\0<=s2/\s2<18446744073709551616:=⟨_,rfl,by rw[IntKind.wrap_u64];omega,by rw[IntKind.wrap_u64];omega⟩;rw[hs2];have hb2:(W1.setCell ⟨pc,2,none⟩ (.int .u64 s2)).heap[pc]?=some (.cells #[.slice a us.length cap,.int .i64 (((k:Nat):Int)+1),.int .u64 s2] 69 (0,0)):=by
   have:=iV W1 pc 2 _ _ (.int .u64 s2) hb1;simp only[nE]at this;exact this
  have hk2:dW (λx=>x=pc) w (W1.setCell ⟨pc,2,none⟩ (.int .u64 s2)):=hk1.trans ⟨rfl,rfl,rfl,by simp,λx _ hn=>jH _ _ _ _ (λe=>hn e)⟩ (λ_ _ h=>h);generalize W1.setCell ⟨pc,2,none⟩ (.int .u64 s2)=W2 at *;have HS3:=aI hs3;clear c2 f2 hb1 hk1 hs2 hs3;have c0:=bI W2 pc 0 _ _ _ hb2;have c1:=bI W2 pc 1 _ _ _ hb2;have c2:=bI W2 pc 2 _ _ _ hb2;simp only[gE]at c0 c1 c2;have hle:¬(((k:Nat):Int)+1<=((us.length:Nat):Int)):=by omega
  refine mQ (λV=>V.cell? ⟨pc,0,none⟩=some (.slice a us.length cap)/\V.cell? ⟨pc,1,none⟩=some (.int .i64 (((k:Nat):Int)+1))) [] MQ ⟨c0,c1⟩ (λai aa=>?_);(refine bg 0 ai aa ?_;refine bg 1 ai aa ?_;refine bg 2 ai aa ?_;refine bg 3 ai aa ?_;refine bg 4 ai aa ?_;refine bg 5 ai aa ?_;refine bg 6 ai aa ?_;refine bg 7 ai aa ?_;refine bg 8 ai aa ?_;refine bg 9 ai aa ?_);refine mM ai [] [] ?_ (hm:=rfl);clear ai aa;go_wp2
  have hm:=RP (s2 / 1099511627776) (by have:=HS3.out;omega) (by have:=HS3.out;omega);generalize wrap64 (bits BinOp.and IntKind.u64 (s2 / 1099511627776) 255)=x at *;obtain⟨n,hn,rfl⟩:=hm;go_ret
  exact⟨n,hn,rfl,H.out.go hb2 ⟨hk2.os,hk2.tape,hk2.output,hk2.size,hk2.block⟩⟩
end
section
open Go.RowKit
variable {w0 w:World} {pc k:Nat} {cv:Value} {us:List Nat}
theorem mh.refl{w0 w w':World}{pc:Nat}{cv:Value}{us:List Nat}{k n:Nat}(h:uk w0 w pc cv us k)(e:dW (λb=>b=pc) w w')(hh:w'.heap=w.heap):mh w0 w w' pc cv us k n:=
 ⟨⟨k,by omega,h.code,h.small,⟨e.os.trans h.ext.os,e.tape.trans h.ext.tape,e.output.trans h.ext.output,df h.ext.size e.size,λb hb=>by rw[hh];exact h.ext.block b hb⟩,h.Zy,by rw[hh];exact h.blk⟩,e⟩
theorem mh.drew{w':World}{n:Nat}(h:mh w0 w w' pc cv us k n)(m:Nat):mh w0 w (w'.drewN m) pc cv us k n:=by
 obtain⟨⟨k',h1,c⟩,e⟩:=h;exact⟨⟨k',h1,c.code,c.small,⟨c.ext.os,c.ext.tape,c.ext.output,c.ext.size,c.ext.block⟩,c.Zy,c.blk⟩,⟨e.os,e.tape,e.output,e.size,e.block⟩⟩
theorem uk.drew(c:uk w0 w pc cv us k)(m:Nat):uk w0 (w.drewN m) pc cv us k:=⟨c.code,c.small,⟨c.ext.os,c.ext.tape,c.ext.output,c.ext.size,c.ext.block⟩,c.Zy,c.blk⟩
theorem lD(h:uk w0 w pc cv us k)(hk:k<=1000000)(n:Nat)(hn:n<=200):
 Calls prog 83 #[.pointer (some ⟨pc,0,none⟩),.int .i64 ((n:Nat):Int)] w λe w'=>∃x:Nat,(x=0\/x<n)/\e=.returned (.int .i64 ((x:Nat):Int))/\mh w0 w w' pc cv us k 1:=by
 have H:=aI h;clear h;by_cases hn1:n<=1
 .have h1:((n:Nat):Int)<=1:=by omega
  go_enter Tryz.func83,Tryz.ntmps83
  go_wp2
  go_ret
  exact⟨0,.inl rfl,rfl,mh.refl H.out ⟨rfl,rfl,rfl,ax _,λ_ _ _=>rfl⟩ rfl⟩
 .have h1:¬(((n:Nat):Int)<=1):=by omega
  have h2:¬(200<((n:Nat):Int)):=by omega
  have h3:((n:Nat):Int)≠0:=by omega
  go_enter Tryz.func83,Tryz.ntmps83
  go_wp2_with (go_at_call 132;refine(RL H.out hk).mono ?_;rintro e w1 ⟨x,hx,rfl,hg⟩)
  go_ret
  exact⟨x % n,.inr (Nat.mod_lt _ (by omega)),rfl,hg⟩
theorem EZ(h:uk w0 w pc cv us k)(hk:k<=1000000)(n:Nat)(hn:n<=200):
 Calls prog 84 #[.pointer (some ⟨pc,0,none⟩),.int .i64 ((n:Nat):Int)] w λe w'=>∃b:Bool,e=.returned (.bool b)/\mh w0 w w' pc cv us k 1:=by
 have H:=aI h;clear h;go_enter Tryz.func84,Tryz.ntmps84
 go_wp2_with (go_at_call 83;refine(lD H.out hk n hn).mono ?_;rintro e w1 ⟨x,hx,rfl,hg⟩)
 go_ret
 exact⟨_,rfl,hg⟩
theorem Uu{w1:World}{b off cap x:Nat}{l:List Int}(hv:Ints w (.slice (some ⟨b,off,none⟩) l.length cap) l)(hne:∀g,Value.ownBlock (.slice (some ⟨b,off,none⟩) l.length cap)=some g->g≠pc)(hl:0<l.length)(hg:mh w0 w w1 pc cv us k 1)(hx:x=0\/x<l.length):x<l.length/\((x:Nat):Int)<((l.length:Nat):Int)/\w1.cell? ⟨b,off+x,none⟩=some (.int .i64 (dD l x)):=by
 have hx':x<l.length:=by omega
 have hn:l≠[]:=by intro e;simp[e]at hl
 have hv1:Ints w1 (.slice (some ⟨b,off,none⟩) l.length cap) l:=hv.keep λg _ hg'=>hg.2.block g (hv.blk hn hg') (hne g hg')
 obtain⟨a,c,e,_,_,hc⟩:=hv1;obtain⟨b',off',e',hcl⟩:=hc hl;simp only[gz]at e;obtain⟨rfl,-,-⟩:=e;simp only[bN,Addr.mk.injEq,and_true]at e';obtain⟨rfl,rfl⟩:=e';exact⟨hx',by omega,hcl x hx'⟩
theorem Ew(h:uk w0 w pc cv us k)(hk:k<=1000000)(v:Value)(l:List Int)(hv:Ints w v l)(hl:0<l.length/\l.length<=200)(hne:∀b,v.ownBlock=some b->b≠pc):
 Calls prog 41 #[.pointer (some ⟨pc,0,none⟩),v] w λe w'=>∃z:Int,z∈l/\e=.returned (.int .i64 z)/\mh w0 w w' pc cv us k 1:=by
 have H:=aI h;obtain⟨a,cap,rfl,hcap,yH,hc⟩:=id hv;obtain⟨b,off,rfl,hcl⟩:=hc hl.1;have HL:=aI hl;have HV:=jW hv hne;clear h hc hv hne hl hcl;go_enter Tryz.func41,Tryz.ntmps41
 go_wp2_with (go_at_call 83;refine(lD H.out hk l.length HL.out.2).mono ?_;rintro e w1 ⟨x,hx,rfl,hg⟩;obtain⟨hx',hx2,hc1⟩:=Uu HV.out.1 HV.out.2 HL.out.1 hg hx)
 go_ret
 exact⟨_,EC hx',rfl,hg⟩
end
section
open Go.RowKit
def V8:List Row:=[⟨0,[],29,[1]⟩,⟨1,[],30,[7]⟩,⟨2,[0,1],31,[28,29]⟩,⟨3,[],32,[8]⟩,⟨4,[2,3],33,[30,31]⟩,⟨5,[],34,[1]⟩,⟨6,[],35,[7]⟩,⟨7,[5,6],36,[33,34]⟩,⟨8,[4,7],37,[32,35]⟩,⟨9,[8,0,1,2,3,4,5,6,7,8],7,[36]⟩]
def V7:List Row:=[⟨0,[],40,[1]⟩,⟨1,[],41,[7]⟩,⟨2,[0,1],42,[39,40]⟩,⟨3,[],43,[8]⟩,⟨4,[2,3],44,[41,42]⟩,⟨5,[],45,[1]⟩,⟨6,[],46,[7]⟩,⟨7,[6],47,[45]⟩,⟨8,[5,7],48,[44,46]⟩,⟨9,[4,8],49,[43,47]⟩,⟨10,[9,0,1,2,3,4,5,6,7,8,9],7,[48]⟩]
def QW:List Row:=[⟨0,[],50,[1]⟩,⟨1,[],51,[7]⟩,⟨2,[0,1],52,[49,50]⟩,⟨3,[],53,[1]⟩,⟨4,[],54,[7]⟩,⟨5,[4],55,[53]⟩,⟨6,[3,5],56,[52,54]⟩,⟨7,[2,6],57,[51,55]⟩,⟨8,[7,0,1,2,3,4,5,6,7],7,[56]⟩]
theorem A9{w0 w:World}{pc:Nat}{cv:Value}{us:List Nat}{k:Nat}(h:uk w0 w pc cv us k)(hk:k<=900000)(t u:ByteArray)(hu:u.size=3)(ht:t.size<=200):
 Calls prog 86 #[.pointer (some ⟨pc,0,none⟩),.string t,.string u] w λe w'=>∃t':ByteArray,t'.size<=t.size+1/\e=.returned (.string t')/\mh w0 w w' pc cv us k 3:=by
 have H:=aI h;clear h;have hu1:(1:Int)<=((u.size:Nat):Int):=by omega
 cases hE:t.toList.isEmpty with
 |true=>
  go_enter Tryz.func86,Tryz.ntmps86
  go_wp2
  go_ret
  exact⟨_,by rw[je];omega,rfl,mh.refl H.out ⟨rfl,rfl,rfl,ax _,λ_ _ _=>rfl⟩ rfl⟩
 |false=>
  have ht1:0<t.size:=by
   rcases pM t.size with e|e
   .have:t=⟨#[]⟩:=ByteArray.ext (Array.eq_empty_of_size_eq_zero (by simpa using e))
    subst this;exact absurd hE (by simp)
   .exact e
  go_enter Tryz.func86,Tryz.ntmps86
  go_upto_region 4 with(go_at_call 83;refine(lD H.out (by omega) t.size ht).mono ?_;rintro e w1 ⟨x,hx,rfl,hg⟩)
  have hx1:x<t.size:=by omega
  have hxi:((x:Nat):Int)<=((t.size:Nat):Int):=by omega
  obtain⟨⟨k1,hk1,h1⟩,e1⟩:=hg;have E1:=aI e1;clear e1 hx;go_upto_region 5 with(go_at_call 83;refine(lD h1 (by omega) 3 (by omega)).mono ?_;rintro e w2 ⟨y,hy,rfl,hg⟩;have hy1:((y:Nat):Int)<=((u.size:Nat):Int):=(by omega))
  obtain⟨s8,hs8⟩:∃s8:ByteArray,s8=(u.extract y 3).extract 0 1:=⟨_,rfl⟩;rw[<-hs8];have hz8:s8.size<=1:=by rw[hs8,je];omega
  obtain⟨⟨k2,hk2,h2⟩,e2⟩:=hg;have E2:=aI (E1.out.trans e2 λ_ _ h=>h);have hxj:((x:Nat):Int)+1<=((t.size:Nat):Int):=by omega
  have hwx:wrap64 (((x:Nat):Int)+1)=((x:Nat):Int)+1:=by unfold wrap64;omega
  clear hs8 e2 hE hy hy1 E1 h1;have key:∀w3,mh w0 w2 w3 pc cv us k2 1->∀m,mh w0 w (w3.drewN m) pc cv us k 3:=λw3 hg m=>by
   obtain⟨⟨k3,hk3,h3⟩,e3⟩:=hg;exact mh.drew ⟨⟨k3,by omega,h3⟩,E2.out.trans e3 λ_ _ h=>h⟩ m
  have KEY:=aI key;clear key;go_upto_region 6 with(go_at_call 83;refine(lD h2 (by omega) 3 (by omega)).mono ?_;rintro e w3 ⟨z,hz,rfl,hg⟩)
  have HG:=aI hg;have hz3:z=0\/z=1\/z=2:=by omega
  clear hg hz;have hA:¬(9223372036854775807<min x t.size+s8.size):=by omega
  have hB:¬(9223372036854775807<min x t.size+s8.size+(t.size-x)):=by omega
  have hC:¬(9223372036854775807<min x t.size+(t.size-(x+1))):=by omega
  have hD:¬(9223372036854775807<min x t.size+s8.size+(t.size-(x+1))):=by omega
  have hwi:IntKind.i64.wrap (((x:Nat):Int)+1)=((x:Nat):Int)+1:=(oo _).trans hwx;have htn:(((x:Nat):Int)+1).toNat=x+1:=by omega
  have h0x:(0:Int)<=((x:Nat):Int)+1:=by omega
  rcases hz3 with rfl|rfl|rfl
  .go_upto_region 7 with fail
   refine mQ (λ_=>True) [] V8 trivial (λai aa=>?_);(refine bg 0 ai aa ?_;refine bg 1 ai aa ?_;refine bg 2 ai aa ?_;refine bg 3 ai aa ?_;refine bg 4 ai aa ?_;refine bg 5 ai aa ?_;refine bg 6 ai aa ?_;refine bg 7 ai aa ?_;refine bg 8 ai aa ?_;refine bg 9 ai aa ?_);refine mM ai [] [] ?_ (hm:=rfl);clear ai aa;go_wp2
   go_ret
   exact⟨_,by simp only[ig,je];omega,rfl,KEY.out _ HG.out 1⟩
  .go_upto_region 9 with fail
   refine mQ (λ_=>True) [] V7 trivial (λai aa=>?_);(refine bg 0 ai aa ?_;refine bg 1 ai aa ?_;refine bg 2 ai aa ?_;refine bg 3 ai aa ?_;refine bg 4 ai aa ?_;refine bg 5 ai aa ?_;refine bg 6 ai aa ?_;refine bg 7 ai aa ?_;refine bg 8 ai aa ?_;refine bg 9 ai aa ?_;refine bg 10 ai aa ?_);refine mM ai [] [] ?_ (hm:=rfl);clear ai aa;go_wp2
   go_ret
   exact⟨_,by simp only[ig,je];omega,rfl,KEY.out _ HG.out 1⟩
  .go_upto_region 10 with fail
   refine mQ (λ_=>True) [] QW trivial (λai aa=>?_);(refine bg 0 ai aa ?_;refine bg 1 ai aa ?_;refine bg 2 ai aa ?_;refine bg 3 ai aa ?_;refine bg 4 ai aa ?_;refine bg 5 ai aa ?_;refine bg 6 ai aa ?_;refine bg 7 ai aa ?_;refine bg 8 ai aa ?_);refine mM ai [] [] ?_ (hm:=rfl);clear ai aa;go_wp2
   go_ret
   exact⟨_,by simp only[ig,je];omega,rfl,KEY.out _ HG.out 1⟩
end
