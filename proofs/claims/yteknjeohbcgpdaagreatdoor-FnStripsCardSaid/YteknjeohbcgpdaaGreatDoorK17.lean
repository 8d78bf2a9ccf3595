/-
  Plain law: rows joined, split and trimmed; no condition. (10 texts.)
-/
import Derived.Test.YteknjeohbcgpdaaGreatDoorK13
import Derived.Test.YteknjeohbcgpdaaGreatDoorK14
import Derived.Test.YteknjeohbcgpdaaGreatDoorK16
set_option maxRecDepth 100000
namespace Go.Proofs.YteknjeohbcgpdaaGreatDoor
open Tryz
section
open Go.RowKit
open bz (dC Nd vl Same)
theorem R9{w:World}{base e g n cap:Nat}{l:List Int}(h:w.ownsRow base e 1 (.slice (some ⟨g,0,none⟩) n cap) n (l.map (Value.int .i64))){k:Nat}(hk:k<n):w.cell? ⟨g,k,none⟩=some (.int .i64 (jv l k)):=by
 have hl:=h.1;rw[h.cellAt k (by omega)];have:k<l.length:=by rw[aJ]at hl;omega
 simp[jv,this]
end
section
open Go.RowKit
open bz (dC Nd vl Same)
variable {w w':World} {B n:Nat} {v:Value} {sl:Nat->Value} {ls:Nat->List Int}
structure FO(w:World)(B:Nat)(v:Value)(n:Nat)(sl:Nat->Value)(ls:Nat->List Int):Prop where
 row:∃xs,w.ownsRow B 89 2 v n xs/\∀j,j<2*n->xs[j]?=some (sl j)
 own:∀j,j<2*n->w.ownsRow B 3 1 (sl j) (ls j).length ((ls j).map (Value.int .i64))
 ap:∀i j,i<2*n->j<2*n->i≠j->∀b,(sl i).ownBlock=some b->(sl j).ownBlock≠some b
 ap0:∀j,j<2*n->∀b,(sl j).ownBlock=some b->v.ownBlock≠some b
theorem FO.ext(h:FO w B v n sl ls)(hx:Ext w w'):FO w' B v n sl ls:=by
 obtain⟨xs,h1,h2⟩:=h.row;exact⟨⟨xs,dn h1 hx,h2⟩,λj hj=>dn (h.own j hj) hx,h.ap,h.ap0⟩
theorem FO.set(h:FO w B v n sl ls){j:Nat}(hj:j<2*n){l:List Int}(hk:fe (λb=>(sl j).ownBlock=some b) w w')(ho:w'.ownsRow B 3 1 (sl j) l.length (l.map (Value.int .i64))):FO w' B v n sl (λq=>if q=j then l else ls q):=by
 obtain⟨xs,h1,h2⟩:=h.row;refine⟨⟨xs,bO h1 hk (λb hb e=>h.ap0 j hj b e hb),h2⟩,λq hq=>?_,h.ap,h.ap0⟩;by_cases c:q=j
 .subst c;simp only[if_true];exact ho
 .simp only[c,if_false];exact bO (h.own q hq) hk (λb hb e=>h.ap q j hq hj c b hb e)
theorem FO.cell{w:World}{B:Nat}{v:Value}{n:Nat}{sl:Nat->Value}{ls:Nat->List Int}(h:FO w B v n sl ls){i:Nat}(hi:i<n):∃g cap,v=.slice (some ⟨g,0,none⟩) n cap/\n<=cap/\w.cell? ⟨g,i*2,none⟩=some (sl (2*i))/\w.cell? ⟨g,i*2+1,none⟩=some (sl (2*i+1)):=by
 obtain⟨xs,h1,h2⟩:=h.row;obtain⟨g,cap,rfl,hc,_,hcell⟩:=iB h1 (by omega);exact⟨g,cap,rfl,hc,by rw[hcell _ (by omega),jk];exact h2 _ (by omega),by rw[hcell _ (by omega),jk];exact h2 _ (by omega)⟩
theorem FO.slice{w:World}{B:Nat}{v:Value}{n:Nat}{sl:Nat->Value}{ls:Nat->List Int}(h:FO w B v n sl ls){j:Nat}(hj:j<2*n):∃a c,sl j=.slice a (ls j).length c:=by
 obtain⟨a,c,e,_⟩:=bD (h.own j hj);exact⟨a,c,e⟩
def Lists(n:Nat)(sl:Nat->Value)(b:Nat):Prop:=∃j,j<2*n/\(sl j).ownBlock=some b
def o9(F:dC)(j:Nat):List Int:=if j % 2=0 then dx (F.getD (j / 2) ([],[])).1 else dx (F.getD (j / 2) ([],[])).2
theorem FO.xm{G:Nat->Prop}(h:FO w B v n sl ls)(hk:fe G w w')(hG:∀b,G b->b<B):FO w' B v n sl ls:=by
 obtain⟨xs,h1,h2⟩:=h.row;exact⟨⟨xs,bO h1 hk (λb hb g=>by have:=hG b g;have:=(h1.lt b hb).1;omega),h2⟩,λj hj=>bO (h.own j hj) hk (λb hb g=>by have:=hG b g;have:=((h.own j hj).lt b hb).1;omega),h.ap,h.ap0⟩
theorem FO.lists(h:FO w B v n sl ls){b:Nat}(hb:Lists n sl b):B<=b/\b<w.heap.size:=by
 obtain⟨j,hj,e⟩:=hb;exact(h.own j hj).lt b e
theorem FO.top(h:FO w B v n sl ls):∃a c,v=.slice a n c:=by
 obtain⟨xs,h1,_⟩:=h.row;obtain⟨a,c,h,_⟩:=bD h1;exact⟨a,c,h⟩
theorem FO.nodes{F:dC}(h:FO w B v F.length sl (o9 F))(hs:∀j,j<2*F.length->(o9 F j).length<=1152921504606846976)(hl:F.length<=maxLen):eX w 0 v F:=by
 obtain⟨xs,h1,h2⟩:=h.row;refine eX.eO (K:=λ_=>False) (CB h1 (az _)) (λi hi=>?_);have g:F.getD i ([],[])=F[i]:=by rw[aV,aa hi];rfl
 have e0:o9 F (2*i)=dx (F[i]).1:=by unfold o9;rw[if_pos (by omega),show 2*i / 2=i by omega,g]
 have e1:o9 F (2*i+1)=dx (F[i]).2:=by unfold o9;rw[if_neg (by omega),show(2*i+1) / 2=i by omega,g]
 have o0:=h.own (2*i) (by omega);have o1:=h.own (2*i+1) (by omega);have s0:=hs (2*i) (by omega);have s1:=hs (2*i+1) (by omega);rw[e0]at o0 s0;rw[e1]at o1 s1;exact⟨sl (2*i),sl (2*i+1),by rw[jk];exact h2 _ (by omega),by rw[jk];exact h2 _ (by omega),Ints.eO o0 s0,Ints.eO o1 s1,λb hb=>⟨az _,(o0.lt b hb).2,id⟩,λb hb=>⟨az _,(o1.lt b hb).2,id⟩⟩
theorem dY{P:Program}{fn:Func}{p u:Tmp}{ty:TypeId}(h:fn.results=#[.cell p ty,.tmp u])(tmps:Array Value)(w:World)(g:Nat)(t:TypeId)(cs:Array Value)(fr:Nat × Nat)(d:TypeDesc)
 (hp:tmps.getD p undef=.pointer (some ⟨g,0,none⟩)) (hg:w.heap[g]?=some (.cells cs t fr))
 (hu:P.underlying ty=some d) (hd:(match d with | .struct _ | .array _ _=>true|_=>false)=true) (hi:(P.info? ty).map (·.size)=some cs.size) (hv:tmps.getD u undef=v):
 (results fn tmps).run P w=.ok (.tuple #[.agg cs,v]) w:=by
 have hp':tmps[p]?.getD undef=.pointer (some ⟨g,0,none⟩):=by simpa using hp
 subst hv;rw[results_cell_tmp h];simp[hp',asAddr,run_loadVar_row w g t ty cs fr d hg hu hd hi]
end
section
open Go.RowKit
variable {w w':World} {v:Value} {xs:List Value}
def lS(w:World)(v:Value)(xs:List Value):Prop:=
 ∃a cap,v=.slice a xs.length cap/\xs.length<=cap/\xs.length<=1152921504606846976/\(0<xs.length->∃b off,a=some ⟨b,off,none⟩/\∀i (h:i<xs.length),w.cell? ⟨b,off+i,none⟩=some xs[i])
theorem lS.nil(w:World)(a:Option Addr)(cap:Nat):lS w (.slice a 0 cap) []:=⟨a,cap,rfl,az _,az _,λh=>absurd h (by simp)⟩
theorem lS.keep(h:lS w v xs)(hk:∀b,0<xs.length->v.ownBlock=some b->w'.heap[b]?=w.heap[b]?):lS w' v xs:=by
 obtain⟨a,cap,rfl,h1,h2,h3⟩:=h;refine⟨a,cap,rfl,h1,h2,λh0=>?_⟩;obtain⟨b,off,rfl,hc⟩:=h3 h0;refine⟨b,off,rfl,λi hi=>?_⟩;rw[World.cell?_of_block (w:=w) (hk b h0 rfl)];exact hc i hi
theorem lS.blk(h:lS w v xs){b:Nat}(hl:0<xs.length)(hb:v.ownBlock=some b):b<w.heap.size:=by
 obtain⟨a,cap,rfl,h1,h2,h3⟩:=h;obtain⟨b',off,rfl,hc⟩:=h3 hl;simp[Value.ownBlock]at hb;subst hb;exact lt_of_cell (hc 0 hl)
theorem lS.ext(h:lS w v xs)(hk:Ext w w'):lS w' v xs:=h.keep λb hl hb=>hk.block b (h.blk hl hb)
theorem lS.eO{B:Nat}{e:TypeId}{n:Nat}(h:w.ownsRow B e 1 v n xs)(hn:xs.length<=1152921504606846976):lS w v xs:=by
 obtain⟨hlen,h⟩:=h;simp at hlen;rcases h with⟨rfl,hn0⟩|⟨g,cap,cur,rfl,_,hg,hnc,hcm,hcs,ht⟩
 .subst hn0
  have:xs=[]:=fE (by omega);subst this;exact lS.nil _ _ _
 .subst hlen
  refine⟨_,cap,rfl,hnc,hn,λh0=>⟨g,0,rfl,λi hi=>?_⟩⟩;rw[cell_of_row w g (0+i) cur e (0,0) hg];have e1:cur.toList[0+i]?=xs[i]?:=by
   conv=>rhs;rw[<-ht]
   rw[lI,if_pos (by omega)];simp
  rw[iD]at e1;rw[e1,aa hi]
theorem lS.sup(h:lS w v xs){S:Nat->Prop}(hv:∀b,0<xs.length->v.ownBlock=some b->S b):∀w',(∀b,S b->w'.heap[b]?=w.heap[b]?)->lS w' v xs:=
 λ_ h2=>h.keep λb h0 hb=>h2 b (hv b h0 hb)
def Strs(w:World)(v:Value)(ss:List ByteArray):Prop:=lS w v (ss.map Value.string)
theorem Strs.ext{w w':World}{v:Value}{ss:List ByteArray}(h:Strs w v ss)(hk:Ext w w'):Strs w' v ss:=lS.ext h hk
theorem Strs.open{ss:List ByteArray}(h:Strs w v ss):∃a cap,v=.slice a ss.length cap/\ss.length<=cap/\ss.length<=1152921504606846976:=by
 obtain⟨a,cap,rfl,h1,h2,_⟩:=h;simp only[aJ]at h1 h2;exact⟨a,cap,by rw[aJ],h1,h2⟩
theorem Strs.at{w:World}{a:Option Addr}{n cap:Nat}{ss:List ByteArray}(h:Strs w (.slice a n cap) ss){i:Nat}(hi:i<ss.length):∃b off,a=some ⟨b,off,none⟩/\∀j (hj:j<ss.length),w.cell? ⟨b,off+j,none⟩=some (.string ss[j]):=by
 obtain⟨a',cap',e,h1,h2,h3⟩:=h;simp only[Value.slice.injEq]at e;obtain⟨rfl,-,rfl⟩:=e;obtain⟨b,off,rfl,hc⟩:=h3 (by simp;omega);exact⟨b,off,rfl,λj hj=>by rw[hc j (by simpa using hj)];simp⟩
theorem Strs.eO{w:World}{B:Nat}{e:TypeId}{v:Value}{n:Nat}{ss:List ByteArray}(h:w.ownsRow B e 1 v n (ss.map Value.string))(hn:ss.length<=1152921504606846976):Strs w v ss:=lS.eO h (by simpa using hn)
end
section
open Go.RowKit
open bz (dC Nd)
structure St(w W:World)(bs:List (Value × List ByteArray))(fs:List (Value × dC))(l:List (Nat × Value × TypeId)):Prop where
 ext:Ext w W
 box:∀x,x∈l->W.heap[x.1]?=some (.cells #[x.2.1] x.2.2 (0,0))
 brd:∀x,x∈bs->x.2.length<=1000000->Strs W x.1 x.2
 frm:∀x,x∈fs->eX W 0 x.1 x.2
section
variable {w W W':World} {bs:List (Value × List ByteArray)} {fs:List (Value × dC)} {l:List (Nat × Value × TypeId)}
theorem St.go(h:St w W bs fs l)(e:Ext W W'):St w W' bs fs l:=
 ⟨ay h.ext e,λx hx=>(e.block _ (bG (h.box x hx))).trans (h.box x hx),λx hx hl=>(h.brd x hx hl).ext e,λx hx=>(h.frm x hx).ext e⟩
theorem St.XC(h:St w W bs fs l)(e:Ext W W'){v:Value}{F:dC}(hb:eX W' 0 v F)(t:TypeId):St w (W'.alloc (.cells #[v] t)) bs ((v,F):: fs) ((W'.heap.size,v,t):: l):=by
 have hx:Ext W' (W'.alloc (.cells #[v] t)):=bK (Below.refl _ _) _;have k:=(h.go e).go hx;refine⟨k.ext,λx hx'=>?_,k.brd,λx hx'=>?_⟩
 .rcases dD.1 hx' with rfl|hx'
  .exact heap_alloc_new _ _
  .exact k.box x hx'
 .rcases dD.1 hx' with rfl|hx'
  .exact hb.ext hx
  .exact k.frm x hx'
theorem St.cell(h:St w W bs fs l){p:Nat}{v:Value}{t:TypeId}(hm:(p,v,t)∈l):W.cell? ⟨p,0,none⟩=some v:=by
 have:=cell_of_row W p 0 _ _ _ (h.box _ hm)
 simpa using this
end
theorem St.aba{w W W':World}{bs:List (Value × List ByteArray)}{fs:List (Value × dC)}{l:List (Nat × Value × TypeId)}(h:St w W bs fs l)(e:Ext W W')(v:Value)(t:TypeId):St w (W'.alloc (.cells #[v] t)) bs fs ((W'.heap.size,v,t):: l):=by
 have hx:Ext W' (W'.alloc (.cells #[v] t)):=bK (Below.refl _ _) _;have k:=(h.go e).go hx;refine⟨k.ext,λx hx'=>?_,k.brd,k.frm⟩;rcases dD.1 hx' with rfl|hx'
 .exact heap_alloc_new _ _
 .exact k.box x hx'
theorem Fe{F:dC}(h:gQ F=true):F.length<=1000000/\∀i (hi:i<F.length),(F[i]).1.length<=1000000/\(F[i]).2.length<=1000000:=by
 unfold gQ at h;obtain⟨_,f2,f3⟩:=of_decide_eq_true h;exact⟨by omega,λi hi=>by have:=f3 i hi;omega⟩
end
section
open Go.RowKit
open bz (rZ GB TL rowOk)
def bH(s:ByteArray):List UInt8:=s.data.toList
def bd(ss:List ByteArray):rZ:=ss.map bH
theorem GA(s:ByteArray):(bH s).length=s.size:=by simp[bH]
end
section
open Go.RowKit
open bz (Cs ZV)
variable {w:World} {B e n:Nat} {xs:List Value}
theorem Ry{g cap k:Nat}(h:w.ownsRow B e 1 (.slice (some ⟨g,0,none⟩) n cap) n xs)(_hk:k<n)(x:Value):
 (w.setCell ⟨g,k,none⟩ x).ownsRow B e 1 (.slice (some ⟨g,0,none⟩) n cap) n (xs.set k x):=by
 obtain⟨hl,h2⟩:=h;refine⟨by simpa using hl,?_⟩;rcases h2 with⟨e1,_⟩|⟨g',cap',cur,e1,hb,hg,hnc,hcm,hcs,ht⟩
 .simp at e1
 .simp only[Value.slice.injEq,bJ,Addr.mk.injEq,and_true,true_and]at e1
  obtain⟨rfl,rfl⟩:=e1;refine .inr ⟨g,cap,cur.setIfInBounds k x,rfl,hb,heap_setCell_same _ _ _ _ _ _ hg,hnc,hcm,by simp[hcs],?_⟩;rw[Array.toList_setIfInBounds,<-ht,List.take_set]
theorem qd{C size:Nat}{v:Value}(h:w.ownsRow B e size v n xs)(hC:C<=B):w.ownsRow C e size v n xs:=by
 obtain⟨hl,h2⟩:=h;refine⟨hl,?_⟩;rcases h2 with h2|⟨g,cap,cur,e1,hb,rest⟩
 .exact .inl h2
 .exact .inr ⟨g,cap,cur,e1,bU hC hb,rest⟩
abbrev Cl:=List (List Bool)
def pR(cl:Cl)(r c:Nat):Bool:=(cl.getD r []).getD c false
end
section
open Go.RowKit
open bz (rZ GB qM Cs)
theorem Lx:(prog.info? 4).map (λi=>(i.zero,i.size,i.bytes))=some (some (.bool false),1,1):=by kernel_rfl
theorem OV{a:Option Addr}{n c:Nat}:∀u∈([Value.slice a n c]:List Value),u.oneCell'=true:=by
 intro u hu;simp at hu;subst hu;rfl
end
section
open Go.RowKit
open bz (rZ GB qM Cs)
theorem Ny(i:Int)(n:Nat):DJ i 0 ((n:Int)-1)=decide (0<=i/\i<(n:Int)):=by
 unfold DJ;rw[iW];simp;omega
theorem lF(a b:Int)(w:World):Calls prog 159 #[.int .i64 a,.int .i64 b] w λe w'=>e=.returned (.int .i64 (if a<b then a else b))/\w'=w:=by
 by_cases h:a<b
 .rw[if_pos h]
  go_enter Tryz.func159,Tryz.ntmps159
  go_wp2
  go_ret
  trivial
 .rw[if_neg h]
  go_enter Tryz.func159,Tryz.ntmps159
  go_wp2
  go_ret
  trivial
end
section
open Go.RowKit
open bz (Stp pk mU qh)
theorem bN(s:ByteArray):(bH s).length=s.size:=by unfold bH;simp
theorem jT{s:ByteArray}{i:Nat}(h:i<s.size):(bH s)[i]?=some (s[i]'h):=by
 unfold bH;rw[iD,jG (by simpa using h)];rfl
theorem Gz(a:UInt8)(n:Nat)(hn:n<256):(((a.toNat:Nat):Int)== ((n:Nat):Int))=(a == UInt8.ofNat n):=by
 rw[iW];simp only[beq_iff_eq];constructor
 .intro h
  have:a.toNat=n:=by omega
  rw[<-this];simp
 .rintro rfl
  have:=UInt8.toNat_ofNat_of_lt' (n:=n) (by simpa using hn);omega
def xY(s:ByteArray)(i:Int)(c:UInt8):Bool:=decide (pk (bH s) i=some c)
set_option maxHeartbeats 1000000 in
theorem j6(s:ByteArray)(hs:s.size<=maxLen)(i:Int)(c:UInt8)(w:World):Calls prog 194 #[.string s,.int .i64 i,.int .u8 ((c.toNat:Nat):Int)] w λe w'=>e=.returned (.bool (xY s i c))/\RD w w':=by
 have hw:wrap64 (((s.size:Nat):Int)-1)=((s.size:Nat):Int)-1:=by unfold maxLen at hs;unfold wrap64;omega
 by_cases hi:0<=i/\i<(s.size:Int)
 .have e1:DJ i 0 ((s.size:Int)-1)=true:=by rw[Ny];exact decide_eq_true hi
  obtain⟨n,rfl⟩:∃n:Nat,i=(n:Int):=⟨i.toNat,by omega⟩;have hn:n<s.size:=by omega
  have hv:xY s (n:Int) c=((((s[n]'hn).toNat:Nat):Int)== ((c.toNat:Nat):Int)):=by
   rw[Gz _ _ (by simpa using c.toNat_lt),xY,bz.Cv,jT hn,iW];simp
  have hnl:((n:Nat):Int)<((s.size:Nat):Int):=by omega
  rw[hv];clear hv hi;go_enter Tryz.func194,Tryz.ntmps194
  go_wp2_with (go_at_call 60;refine(jr _ _ _ _).mono ?_;rintro e w2 ⟨he,n,rfl⟩;rw[e1]at he;subst he)
  go_ret
  exact⟨rfl,(by first|exact su _|exact xc _ _|exact wY _ _ _|exact wW _ _ _ _)⟩
 .have e1:DJ i 0 ((s.size:Int)-1)=false:=by rw[Ny];exact decide_eq_false hi
  have hv:xY s i c=false:=by
   refine decide_eq_false λh=>?_
   obtain⟨n,rfl,h2⟩:=bz.jA.1 h;have:=bz.fU h2;rw[bN]at this;omega
  rw[hv];clear hv hi;go_enter Tryz.func194,Tryz.ntmps194
  go_wp2_with (go_at_call 60;refine(jr _ _ _ _).mono ?_;rintro e w2 ⟨he,n,rfl⟩;rw[e1]at he;subst he)
  go_ret
  exact⟨rfl,(by first|exact su _|exact xc _ _|exact wY _ _ _|exact wW _ _ _ _)⟩
def Vv:List Row:=[⟨0,[],8,[0]⟩,⟨1,[],9,[1]⟩,⟨2,[0,1],10,[7,8]⟩,⟨3,[],11,[2]⟩,⟨4,[2,3],12,[9,10]⟩,⟨5,[],13,[0]⟩,⟨6,[],14,[1]⟩,⟨7,[6],15,[13]⟩,⟨8,[5,7],16,[12,14]⟩,⟨9,[4,8],17,[11,15]⟩,⟨10,[9,0,1,2,3,4,5,6,7,8,9],7,[16]⟩]
set_option maxHeartbeats 1000000 in
theorem jy(s t:ByteArray)(hs:s.size<=100)(i:Nat)(hi:i<s.size)(c:UInt8)(ht:bH t=[c])(w:World):Calls prog 195 #[.string s,.int .i64 ((i:Nat):Int),.string t] w λe w'=>∃u,e=.returned (.string u)/\bH u=(bH s).set i c/\RD w w':=by
 have ht1:t.size=1:=by rw[<-bN,ht];rfl
 have hil:((i:Nat):Int)<=((s.size:Nat):Int):=by omega
 have alM:((i:Nat):Int)+1<=((s.size:Nat):Int):=by omega
 have TK:(0:Int)<=((i:Nat):Int)+1:=by omega
 have Sl:IntKind.i64.wrap (((i:Nat):Int)+1)=((i:Nat):Int)+1:=(Go.IntWalk.i64_left _).trans (by unfold wrap64;omega);have htn:(((i:Nat):Int)+1).toNat=i+1:=by omega
 have hA:¬(9223372036854775807<min i s.size+t.size):=by omega
 have hB:¬(9223372036854775807<min i s.size+t.size+(s.size-(i+1))):=by omega
 have key:bH (s.extract 0 i++t++s.extract (i+1) s.size)=(bH s).set i c:=by
  have:bH (s.extract 0 i++t++s.extract (i+1) s.size)=(bH s).take i++[c]++(bH s).drop (i+1):=by
   rw[<-ht];unfold bH;simp[ByteArray.data_append,ByteArray.data_extract];exact cO (by rw[mV,Array.length_toList];exact ai _)
  rw[this,List.set_eq_take_append_cons_drop,if_pos (by rw[bN];exact hi)];simp
 clear ht1;go_enter Tryz.func195,Tryz.ntmps195
 go_upto_region 1 with fail
 refine bW (λ_=>True) [] Vv (by kernel_rfl) ⟨by kernel_rfl,by kernel_rfl,by kernel_rfl⟩ trivial (λax ae=>?_);(refine bT 0 ax ae ?_;refine bT 1 ax ae ?_;refine bT 2 ax ae ?_;refine bT 3 ax ae ?_;refine bT 4 ax ae ?_;refine bT 5 ax ae ?_;refine bT 6 ax ae ?_;refine bT 7 ax ae ?_;refine bT 8 ax ae ?_;refine bT 9 ax ae ?_;refine bT 10 ax ae ?_);refine ow ax [] [] ?_ (hm:=rfl);clear ax ae;go_wp2
 go_ret
 exact⟨_,rfl,key,(by first|exact su _|exact xc _ _|exact wY _ _ _|exact wW _ _ _ _)⟩
end
section
open Go.RowKit
open bz (rZ GB TL rowOk qM)
variable {c:UInt8} {a:List UInt8}
theorem xn{c:UInt8}:∀{a:List UInt8} (r:List UInt8),c ∉ a->Lib.indexByte (a++c :: r) c=(a.length:Int)
 |[],r,_=>by simp[Lib.indexByte]
 |b :: a,r,h=>by
  have hb:(b == c)=false:=by rw[beq_eq_false_iff_ne];rintro rfl;exact h (List.mem_cons_self ..)
  have ih:=xn (a:=a) r (λe=>h (sI _ e));rw[List.cons_append,Lib.indexByte,hb,ih];have:((a.length:Int)== -1)=false:=by simp
  simp[this]
theorem Az(h:c ∉ a):Lib.splitK [c] 0 (Lib.count a [c]) a=[a]:=by
 rw[Lib.count_one,List.count_eq_zero.2 h];rfl
theorem Io{r:List UInt8}(h:c ∉ a):Lib.splitK [c] 0 (Lib.count (a++c :: r) [c]) (a++c :: r)=a :: Lib.splitK [c] 0 (Lib.count r [c]) r:=by
 have e:Lib.count (a++c :: r) [c]=Lib.count r [c]+1:=by
  rw[Lib.count_one,Lib.count_one,List.count_append,List.count_eq_zero.2 h,List.count_cons_self];omega
 rw[e,Lib.splitK,Lib.index_one,xn r h];have:((a.length:Int)== -1)=false:=by simp
 rw[this];simp
theorem Mk{p:UInt8->Bool}:∀{L:List UInt8},(∀x,x∈L.dropWhile p->p x=true)->∀x,x∈L->p x=true
 |[],_,x,hx=>by cases hx
 |a :: t,h,x,hx=>by
  cases ha:p a with
  |true=>
   rw[List.dropWhile_cons_of_pos ha]at h;rcases dD.1 hx with rfl|hx
   .exact ha
   .exact Mk h x hx
  |false=>
   rw[List.dropWhile_cons_of_neg (by simp[ha])]at h;exact h x hx
theorem T9{p:UInt8->Bool}:∀{L:List UInt8},(∀x,x∈L->p x=true)->L.dropWhile p=[]
 |[],_=>rfl
 |a :: t,h=>by rw[List.dropWhile_cons_of_pos (h a (by simp))];exact T9 λx hx=>h x (by simp[hx])
theorem Oj(l cs:List UInt8):Lib.trimS l cs=[]↔∀c,c∈l->cs.contains c=true:=by
 unfold Lib.trimS Lib.trimLeftS Lib.trimRightS;constructor
 .intro h
  have h1:∀c,c∈(l.reverse.dropWhile (cs.contains ·))->cs.contains c=true:=λc hc=>by
   refine Mk (L:=(l.reverse.dropWhile (cs.contains ·)).reverse) (p:=(cs.contains ·)) (λx hx=>by rw[h]at hx;cases hx) c (by simpa using hc)
  exact λc hc=>Mk h1 c (by simpa using hc)
 .intro h
  rw[T9 (L:=l.reverse) λc hc=>h c (by simpa using hc)];rfl
end
end Go.Proofs.YteknjeohbcgpdaaGreatDoor