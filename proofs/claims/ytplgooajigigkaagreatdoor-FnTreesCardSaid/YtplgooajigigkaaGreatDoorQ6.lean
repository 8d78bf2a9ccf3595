/- 6 -/
import Derived.Test.YtplgooajigigkaaGreatDoorQ5
import Derived.Deep.RegionLaw
import Derived.Handy
set_option maxRecDepth 100000
set_option maxHeartbeats 4000000
namespace Go.Proofs.YtplgooajigigkaaGreatDoor
open Tryz
section
open Go.RowKit
variable {a w w' W wr w1:World} {b B n size:Nat} {v:Value} {l:List Int} {e:TypeId} {xs:List Value} {o:Option Nat} {A C D E:Prop}
abbrev Ext(w w':World):Prop:=Below w.heap.size w w'
theorem ah{b c:World}(h:Ext a b)(k:Ext b c):Ext a c:=h.trans (k.mono h.size)
theorem dz(h:RD w w'):Ext w w':=by obtain⟨n,rfl⟩:=h;exact⟨rfl,rfl,rfl,ax _,λ_ _=>rfl⟩
theorem Uq(h:Below B a w)(n:Nat):Below B a (w.drewN n):=⟨h.os,h.tape,h.output,h.size,h.block⟩
theorem Ints.nil(w:World)(a:Option Addr)(cap:Nat):Ints w (.slice a 0 cap) []:=
 ⟨a,cap,rfl,az _,az _,λh=>absurd h (by simp)⟩
theorem lt_of_cell{a:Addr}(h:w.cell? a=some v):a.block<w.heap.size:=World.block_lt_of_cell? w a h
theorem Ints.keep(h:Ints w v l)(hk:∀b,l≠[]->v.ownBlock=some b->w'.heap[b]?=w.heap[b]?):Ints w' v l:=by
 obtain⟨a,cap,rfl,h1,h2,h3⟩:=h;refine⟨a,cap,rfl,h1,h2,λh0=>?_⟩;obtain⟨b,off,rfl,hc⟩:=h3 h0;refine⟨b,off,rfl,λi hi=>?_⟩;rw[World.cell?_of_block (w:=w) (hk b (by intro e;simp[e]at h0) rfl)];exact hc i hi
theorem Ints.blk(h:Ints w v l)(hl:l≠[])(hb:v.ownBlock=some b):b<w.heap.size:=by
 obtain⟨a,cap,rfl,h1,h2,h3⟩:=h;obtain⟨b',off,rfl,hc⟩:=h3 (lT.2 hl);simp[Value.ownBlock]at hb;subst hb;exact lt_of_cell (hc 0 (lT.2 hl))
theorem Ints.ext(h:Ints w v l)(hk:Ext w w'):Ints w' v l:=
 h.keep λb hl hb=>hk.block b (h.blk hl hb)
theorem Ints.dX(h:w.ownsRow B e 1 v n (l.map (Value.int .i64)))(hn:l.length<=1152921504606846976):Ints w v l:=by
 obtain⟨hlen,h⟩:=h;simp at hlen;rcases h with⟨rfl,hn0⟩|⟨g,cap,cur,rfl,_,hg,hnc,hcm,hcs,ht⟩
 .subst hn0
  have:l=[]:=cz (by omega);subst this;exact Ints.nil _ _ _
 .subst hlen
  refine⟨_,cap,rfl,hnc,hn,λh0=>⟨g,0,rfl,λi hi=>?_⟩⟩;rw[cell_of_row w g (0+i) cur e (0,0) hg];have e1:cur.toList[0+i]?=(l.map (Value.int .i64))[i]?:=by
   rw[<-ht,kK,if_pos (by omega)];simp
  rw[ik]at e1;rw[e1];simp[hi,dD]
theorem bW(h:w.ownsRow B e size v n xs)(hk:Ext w w'):w'.ownsRow B e size v n xs:=
 h.kept (row:=none) ⟨hk.os,hk.tape,hk.output,hk.size,λk hk' _=>hk.block k hk'⟩ (by cases v.ownBlock <;> simp)
theorem own_drewN(h:w.ownsRow B e size v n xs)(k:Nat):(w.drewN k).ownsRow B e size v n xs:=h
theorem fB:(prog.info? 3).map (λi=>(i.zero,i.size,i.bytes))=some (some (.int .i64 0),1,8):=by kernel_rfl
theorem AL{o:Value}{x:Obj}(jh:Ext W wr)(hown:wr.ownsRow W.heap.size e size o n xs)(hg:(wr.alloc x).grownBy w1 o.ownBlock):Ext W w1:=
 (jh.alloc jh.size x).grown hg (by have:=jh.size;simp;omega) (λk hk=>(hown.lt k hk).1)
theorem gG(w:World)(B:Nat)(hB:B<=w.heap.size)(e:TypeId):(w.alloc (.cells #[] e)).ownsRow B e 1 (.slice (some ⟨w.heap.size,0,none⟩) 0 0) 0 []:=
 World.ownsRow_made w #[] 0 hB (by decide) (by simp)
theorem lF(w:World)(X:Obj)(B:Nat)(hB:B<=w.heap.size)(e:TypeId):((w.alloc X).alloc (.cells #[] e)).ownsRow B e 1 (.slice (some ⟨w.heap.size+1,0,none⟩) 0 0) 0 []:=by
 have:=gG (w.alloc X) B (by simp;omega) e
 simpa using this
theorem J5{off:Nat}(hc:∀i,i<l.length->w.cell? ⟨b,off+i,none⟩=some (.int .i64 (dD l i)))(hE:Ext w W)(s m:Nat)(hsm:s+m<=l.length):
 ∀j u,(((l.drop s).take m).map (Value.int .i64))[j]?=some u->W.cell? ((⟨b,off+s,none⟩:Addr).add j)=some u:=by
 intro j u hu;rw[bO,kK]at hu;split at hu
 .rename_i hj
  rw[List.getElem?_drop]at hu;have hlt:s+j<l.length:=by omega
  rw[ae hlt]at hu;simp at hu;have h0:=hc (s+j) hlt;have e:((⟨b,off+s,none⟩:Addr).add j)=⟨b,off+(s+j),none⟩:=by
   unfold Addr.add;split <;> simp_all [Nat.add_assoc]
  rw[e,hE.cell (lt_of_cell h0),h0,kW hlt,hu]
 .simp at hu
theorem dA(h:W.cell? ⟨B,0,none⟩=some v):∀j u,([v]:List Value)[j]?=some u->W.cell? ((⟨B,0,none⟩:Addr).add j)=some u:=by
 intro j u hj;cases j with
 |zero=>simp at hj;subst hj;simpa [Addr.add]using h
 |succ j=>simp at hj
theorem one_cell{k:IntKind}{n:Int}:∀u∈([Value.int k n]:List Value),u.oneCell'=true:=by
 intro u hu;simp at hu;subst hu;rfl
theorem bY(w:World)(v:Value)(e:TypeId):(w.alloc (.cells #[v] e)).cell? ⟨w.heap.size,0,none⟩=some v:=by
 rw[World.cell?_alloc_at _ _ _ _ rfl];rfl
theorem vE(w:World)(v:Value)(e:TypeId)(X:Obj):((w.alloc (.cells #[v] e)).alloc X).cell? ⟨w.heap.size,0,none⟩=some v:=by
 rw[World.cell?_alloc_past _ _ _ (by simp)];exact bY _ _ _
theorem vz(w:World)(v:Value)(e:TypeId)(X:Obj):((w.alloc X).alloc (.cells #[v] e)).cell? ⟨w.heap.size+1,0,none⟩=some v:=by
 have h:=bY (w.alloc X) v e;rw[eX]at h;exact h
theorem sQ(hg:w.grownBy w1 o)(h:w.cell? ⟨B,0,none⟩=some v)(ho:some B≠o):w1.cell? ⟨B,0,none⟩=some v:=
 hg.cell h ho
theorem jP(l:List Int):∀u∈l.map (Value.int .i64),u.oneCell'=true:=by
 intro u hu;obtain⟨x,_,rfl⟩:=ay.1 hu;rfl
theorem dw(jh:Ext W wr)(hg:wr.grownBy w1 o)(ho:∀k,o=some k->W.heap.size<=k):Ext W w1:=
 jh.grown hg jh.size ho
theorem bJ(jh:Ext W wr)(x:Obj):Ext W (wr.alloc x):=jh.alloc jh.size x
theorem dG(jh:Ext W wr)(n:Nat):Ext W (wr.drewN n):=Uq jh n
theorem kY{o:Obj}(hx:Ext w w')(h:w.heap[b]?=some o):w'.heap[b]?=some o:=(hx.block b (fC.1 h).1).trans h
theorem dP{p:Addr}(hx:Ext w w')(h:w.cell? p=some v):w'.cell? p=some v:=(hx.cell (World.block_lt_of_cell? w p h)).trans h
theorem oG(hx:Ext w w')(b i:Nat)(v:Value)(h:w.heap.size<=b:=by omega):Ext w (w'.setCell ⟨b,i,none⟩ v):=hx.setCell (p:=⟨b,i,none⟩) h v
theorem eu{α:Sort _}(a:α):∃x,x=a:=⟨a,rfl⟩
theorem jW{B:Prop}(a:A)(b:B):Hid (A/\B):=aI ⟨a,b⟩
theorem yD{B:Prop}(a:A)(b:B)(c:C):Hid (A/\B/\C):=aI ⟨a,b,c⟩
theorem JM{B:Prop}(a:A)(b:B)(c:C)(d:D):Hid (A/\B/\C/\D):=aI ⟨a,b,c,d⟩
theorem Hi5{B:Prop}(a:A)(b:B)(c:C)(d:D)(e:E):Hid (A/\B/\C/\D/\E):=aI ⟨a,b,c,d,e⟩
theorem Hi6{B F:Prop}(a:A)(b:B)(c:C)(d:D)(e:E)(f:F):Hid (A/\B/\C/\D/\E/\F):=aI ⟨a,b,c,d,e,f⟩
theorem bI:type_of% @cell_of_row:=@cell_of_row
theorem dV:type_of% @heap_alloc_new:=@heap_alloc_new
theorem iV:type_of% @heap_setCell_same:=@heap_setCell_same
theorem jH:type_of% @heap_setCell_other:=@heap_setCell_other
theorem iW:type_of% @frozen_of_row:=@frozen_of_row
theorem gI:type_of% @Below.heap_alloc:=@Below.heap_alloc
theorem fJ:type_of% @Below.refl:=@Below.refl
theorem lh:type_of% @World.cell?_of_block:=@World.cell?_of_block
theorem gz:type_of% @Value.slice.injEq:=@Value.slice.injEq
end
section
open Go.RowKit
variable {P:Program} {w:World} {o:Oper} {a:Act} {K:Act->World->Prop} {Q:Exit->Act->World->Prop} {ops:Array Oper}
def lY(w:World)(v v':Value):Prop:=v'.ownBlock=v.ownBlock\/∃g,v'.ownBlock=some g/\w.heap.size<=g
theorem X7(w:World)(base:Nat)(t ty e:TypeId)(i:TypeInfo)(z:Value)(size bytes:Nat)(ht:P.underlying t=some (.slice e))(hi:P.info? e=some i)(hz:i.zero=some z)
 (hsize:i.size=size) (hby:i.bytes=bytes) (hzs:z.cells.size=size) (hsz:0<size)
 (v:Value) (n:Nat) (xs:List Value) (hown:w.ownsRow base e size v n xs)
 (ao:Option Addr) (m c:Nat) (news:List Value) (hl:news.length=m*size) (hsrc:m=0\/∃ad,ao=some ad/\∀j u,news[j]?=some u->w.cell? (ad.add j)=some u) (h1:∀u∈news,u.oneCell'=true)
 (h63:n+m<=maxLen) (hbytes:(n+m)*bytes<=140737488355328) (hbase:base<=w.heap.size):
 ∃v' w',(Builtin.append_ #[t,t] ty #[v,.slice ao m c]).run P w=.ok v' w'/\w'.ownsRow base e size v' (n+m) (xs++news)/\w.grownBy w' v.ownBlock/\lY w v v':=by
 subst hsize;subst hby
 by_cases hm:m=0
 .subst hm
  have hn:news=[]:=cz (by simpa using hl);subst hn;refine⟨v,w,?_,by simpa using hown,⟨rfl,rfl,rfl,ax _,λ_ _ _=>rfl⟩,.inl rfl⟩;rcases hown.2 with⟨rfl,h0⟩|⟨g,cap,cur,rfl,hbg,hg,hnc,hcm,hcs,htake⟩
  .subst h0
   cases ao <;> simp[Builtin.append_,run_underlying ht,sizeOf,typeInfo,hi,Builtin.lenOf,Builtin.firstCells,loadCells,loadCellsFrom]
  .cases ao <;> simp[Builtin.append_,run_underlying ht,sizeOf,typeInfo,hi,Builtin.lenOf,Builtin.firstCells,loadCells,loadCellsFrom,hnc,storeCells]
 .obtain⟨ad,rfl,hnews⟩:=hsrc.resolve_left hm
  obtain⟨v',w',hr,h2,h3,h4⟩:=run_append_own (P:=P) w base t ty e i z i.size i.bytes ht hi hz rfl rfl hzs hsz v n xs hown ad m c news hl hnews h1 h63 hbytes hbase;refine⟨v',w',hr,h2,h3,?_⟩;have yH:maxLen=9223372036854775807:=by simp[maxLen]
  rcases hown.2 with⟨rfl,h0⟩|⟨g,cap,cur,rfl,hbg,hg,hnc,hcm,hcs,htake⟩
  .subst h0
   have hr2:=run_append_nil (P:=P) (w:=w) t ty e i z ht hi hz ad m c news hl hnews (by omega) (by omega) (by simp only[gQ]at hbytes;omega);rw[hr]at hr2;injection hr2 with hv hw;subst hv;exact .inr ⟨_,rfl,ax _⟩
  .by_cases hroom:n+m<=cap
   .have hfit:n*i.size+news.length<=cur.size:=by rw[hl,hcs,<-rJ];exact kV _ hroom
    have hr2:=run_append_room (P:=P) (w:=w) t ty e i ht hi g n cap cur hg ad m c news hl hnews h1 hroom hfit;rw[hr]at hr2;injection hr2 with hv hw;subst hv;exact .inl rfl
   .have hr2:=run_append_grow (P:=P) (w:=w) t ty e i z ht hi hz ⟨g,0,none⟩ n cap xs hown.1 (hown.cells (g:=g) rfl) ad m c news hl hnews (by omega) (by omega) (growslice_fits (by omega) hbytes)
    rw[hr]at hr2;injection hr2 with hv hw;subst hv;exact .inr ⟨_,rfl,ax _⟩
theorem Ut(s x:Operand)(t:TypeId)
 (ho:o.op=.call { callee:=.builtin .append,args:=#[s,x],argTypes:=#[t,t] })
 (base:Nat) (e:TypeId) (i:TypeInfo) (z:Value) (size bytes:Nat) (ht:P.underlying t=some (.slice e)) (hi:P.info? e=some i) (hz:i.zero=some z)
 (hsize:i.size=size) (hby:i.bytes=bytes) (hzs:z.cells.size=size) (hsz:0<size)
 (v:Value) (n:Nat) (xs:List Value) (hs:a.eval s=v) (hown:w.ownsRow base e size v n xs)
 (ao:Option Addr) (m c:Nat) (news:List Value) (hx:a.eval x=.slice ao m c) (hl:news.length=m*size) (hsrc:m=0\/∃ad,ao=some ad/\∀j u,news[j]?=some u->w.cell? (ad.add j)=some u) (h1:∀u∈news,u.oneCell'=true)
 (h63:n+m<=maxLen) (hbytes:(n+m)*bytes<=140737488355328) (hbase:base<=w.heap.size)
 (h:∀v' w',w'.ownsRow base e size v' (n+m) (xs++news)->w.grownBy w' v.ownBlock->lY w v v'->K (a.put o.dst v') w'):o.wp P a w K Q:=by
 obtain⟨v',w',hr,h2,h3,h4⟩:=X7 (P:=P) w base t o.type e i z size bytes ht hi hz hsize hby hzs hsz v n xs hown ao m c news hl hsrc h1 h63 hbytes hbase;unfold Oper.wp execOp;simp only[ho,resolve,invoke,builtin,Sem.run_bind,Sem.run_pure,Result.andThen_ok,List.map_toArray,eF,List.map_nil,hs,hx,hr];exact h v' w' h2 h3 h4
theorem dm{rest:List Oper}(hgd:o.guard=none)(s x:Operand)(t:TypeId)
 (ho:o.op=.call { callee:=.builtin .append,args:=#[s,x],argTypes:=#[t,t] })
 (base:Nat) (e:TypeId) (i:TypeInfo) (z:Value) (size bytes:Nat) (ht:P.underlying t=some (.slice e)) (hi:P.info? e=some i) (hz:i.zero=some z)
 (hsize:i.size=size) (hby:i.bytes=bytes) (hzs:z.cells.size=size) (hsz:0<size)
 (v:Value) (n:Nat) (xs:List Value) (hs:a.eval s=v) (hown:w.ownsRow base e size v n xs)
 (ao:Option Addr) (m c:Nat) (news:List Value) (hx:a.eval x=.slice ao m c) (hl:news.length=m*size) (hsrc:m=0\/∃ad,ao=some ad/\∀j u,news[j]?=some u->w.cell? (ad.add j)=some u) (h1:∀u∈news,u.oneCell'=true)
 (h63:n+m<=maxLen) (hbytes:(n+m)*bytes<=140737488355328) (hbase:base<=w.heap.size)
 (h:∀v' w',w'.ownsRow base e size v' (n+m) (xs++news)->w.grownBy w' v.ownBlock->lY w v v'->wpList P ops Q rest (a.put o.dst v') w'):wpList P ops Q (o :: rest) a w:=
 wpList_plain hgd λ_ hK=>Ut s x t ho base e i z size bytes ht hi hz hsize hby hzs hsz v n xs hs hown ao m c news hx hl hsrc h1 h63 hbytes hbase λv' w' h2 h3 h4=>hK _ _ (h v' w' h2 h3 h4)
theorem gu{E:Prop}(hgd:o.guard=none)(s x:Operand)(t:TypeId)
 (ho:o.op=.call { callee:=.builtin .append,args:=#[s,x],argTypes:=#[t,t] })
 (base:Nat) (e:TypeId) (i:TypeInfo) (z:Value) (size bytes:Nat) (ht:P.underlying t=some (.slice e)) (hi:P.info? e=some i) (hz:i.zero=some z)
 (hsize:i.size=size) (hby:i.bytes=bytes) (hzs:z.cells.size=size) (hsz:0<size)
 (v:Value) (n:Nat) (xs:List Value) (hs:a.eval s=v) (hown:w.ownsRow base e size v n xs)
 (ao:Option Addr) (m c:Nat) (news:List Value) (hx:a.eval x=.slice ao m c) (hl:news.length=m*size) (hsrc:m=0\/∃ad,ao=some ad/\∀j u,news[j]?=some u->w.cell? (ad.add j)=some u) (h1:∀u∈news,u.oneCell'=true)
 (h63:n+m<=maxLen) (hbytes:(n+m)*bytes<=140737488355328) (hbase:base<=w.heap.size)
 (h:∀v' w',w'.ownsRow base e size v' (n+m) (xs++news)->w.grownBy w' v.ownBlock->lY w v v'->K (a.put o.dst v') w'):if Region.wanted o (yielded ops a.tmps)=true then Oper.wp P o a w K Q else E:=by
 have hw:Region.wanted o (yielded ops a.tmps)=true:=by simp[Region.wanted,hgd]
 rw[if_pos hw];exact Ut s x t ho base e i z size bytes ht hi hz hsize hby hzs hsz v n xs hs hown ao m c news hx hl hsrc h1 h63 hbytes hbase h
end
section
open Go.RowKit
def Ql(at_ l:List Int):List Int:=l.map λx=>dD at_ x.toNat
theorem Us(at_:List Int){l:List Int}{k:Nat}(h:k<l.length):Ql at_ (l.take (k+1))=Ql at_ (l.take k)++[dD at_ (dD l k).toNat]:=by
 rw[mX h];simp[Ql]
theorem FX(at_ l:List Int):(Ql at_ l).length=l.length:=by simp[Ql]
theorem qZ(v u:Value)(t l:List Int)(w:World)(h:Ints w v t)(g:Ints w u l)(hb:∀x,x∈l->0<=x/\x<t.length)(hsz:l.length<=1000000000):
 Calls prog 69 #[v,u] w λe w'=>∃v',e=.returned v'/\Ints w' v' (Ql t l)/\Ext w w':=by
 obtain⟨a,cap,rfl,hlc,hcap,hc⟩:=h;obtain⟨a',cap',rfl,Xg,Nt,hc'⟩:=g;obtain⟨i0,hi,hz0,hz1,hz2⟩:=info_parts fB;go_enter Tryz.func69,Tryz.ntmps69
 go_wp2
 go_loopw [5,6] (λo i wr=>∃k:Nat,k<=l.length/\i=.int .i64 k/\wr.ownsRow w.heap.size 3 1 o k ((Ql t (l.take k)).map (Value.int .i64))/\Ext w wr) (λ_ i _=>l.length-(intOf i).toNat)
 case atStart=>exact⟨0,az _,rfl,gG w _ (ax _) _,(fJ _ _).alloc (ax _) _⟩
 case round=>
  obtain⟨k,hk,rfl,hown,jh⟩:=hrel;by_cases hlt:k<l.length
  .obtain⟨b',off',rfl,hcell'⟩:=hc' (by omega)
   have hx:=hb _ (EC hlt);obtain⟨b,off,rfl,hcell⟩:=hc (by omega);have Xq:=hcell' k hlt;have hck:=hcell (dD l k).toNat (by omega);have lK:=dP jh Xq;have I9:=dP jh hck;clear hcell hc hcell' hc' hck Xq hb;go_wp2_with (at_builtin;refine wpList_append_own _ rfl _ _ 41 rfl w.heap.size 3 i0 (.int .i64 0) 1 8 underlying41 hi hz0 hz1 hz2 rfl (by decide) _ _ _ rfl (hown.alloc _) ⟨wr.heap.size,0,none⟩ 1 1 [.int .i64 (dD t (dD l k).toNat)] rfl rfl ?c1 ?c2 ?c3 ?c4 ?c5 ?_)
   case c1=>
    intro j u hj
    match j,hj with
    | 0,hj=>simp at hj;subst hj;simp[Addr.add]
   case c2=>intro u hu;simp at hu;subst hu;rfl
   case c3=>unfold maxLen;omega
   case c4=>omega
   case c5=>have:=jh.size;simp;omega
   intro v' w1 hown' hgrow _;have hx1:=AL jh hown hgrow;have hs:=Us t hlt;have ho1:w1.ownsRow w.heap.size 3 1 v' (k+1) ((Ql t (l.take (k+1))).map (Value.int .i64)):=by
    rw[hs];simpa using hown'
   clear hown' hgrow hown jh hs;go_wp2
   go_roundw
   case rel=>exact⟨k+1,by omega,by go_num,ho1,hx1⟩
   case measure=>simp[intOf];omega
  .go_wp2
   go_ret
   have e:k=l.length:=(by omega);subst e;rw[cO]at hown;exact⟨_,rfl,Ints.dX hown (by rw[FX];omega),jh⟩
end
section
open Go.RowKit
variable {l:List Int} {n:Int} {k:Nat}
def putAt(l:List Int)(n:Int):Nat:=(l.takeWhile λx=>decide (x<n)).length
def qp(l:List Int)(n:Int):List Int:=
 if putAt l n<l.length/\dD l (putAt l n)=n then l else l.take (putAt l n)++[n]++l.drop (putAt l n)
theorem Hl(hk:k<=l.length)(h1:∀i,i<k->dD l i<n)(h2:k<l.length->n<=dD l k):putAt l n=k:=by
 induction l generalizing k with
 |nil=>simp at hk;subst hk;rfl
 |cons x l ih=>
  cases k with
  |zero=>
   have:=h2 (by simp);simp[dD]at this;simp[putAt,List.takeWhile_cons];omega
  |succ k=>
   have h0:=h1 0 (by omega);simp[dD]at h0;have e:=ih (k:=k) (by simpa using hk) (λi hi=>by have:=h1 (i+1) (by omega);simpa [dD]using this) (λh=>by have:=h2 (by simpa using h);simpa [dD]using this);simp[putAt,h0]at e ⊢;exact e
def UM(w w':World)(v v':Value):Prop:=∀b,v'.ownBlock=some b->v.ownBlock=some b\/(w.heap.size<=b/\b<w'.heap.size)
theorem xL{W:World}{B:Nat}{e:TypeId}{v:Value}{N:Nat}(hk:k<=l.length)(h1:∀i,i<k->dD l i<n)(h2:k<l.length->n<dD l k)(hsz:l.length<=1000000000)
 (ho:W.ownsRow B e 1 v N (((((l.drop 0).take k).map (Value.int .i64))++[Value.int .i64 n])++((l.drop k).take (l.length-k)).map (Value.int .i64))):Ints W v (qp l n):=by
 have ea:=Hl hk h1 (λh=>by have:=h2 h;omega);have ep:qp l n=l.take k++[n]++l.drop k:=by
  rw[qp,ea,if_neg (λh=>by have:=h2 h.1;omega)]
 rw[ep];refine Ints.dX (B:=B) (e:=e) (n:=N) ?_ (by simp;omega);have e1:(l.drop k).take (l.length-k)=l.drop k:=dH (by simp);rw[e1]at ho
 simpa using ho
theorem q8(v:Value)(l:List Int)(n:Int)(w:World)(h:Ints w v l)(hsz:l.length<=1000000000):
 Calls prog 161 #[v,.int .i64 n] w λe w'=>∃v',e=.returned v'/\Ints w' v' (qp l n)/\Ext w w'/\UM w w' v v':=by
 obtain⟨a,cap,rfl,hlc,hcap,hc⟩:=h;obtain⟨i0,hi,hz0,hz1,hz2⟩:=info_parts fB;go_enter Tryz.func161,Tryz.ntmps161
 go_wp2
 go_loop [5] (λi=>∃k:Nat,k<=l.length/\i=.int .i64 k/\Hid (∀i,i<k->dD l i<n)) (λi=>l.length-(intOf i).toNat)
 case atStart=>exact⟨0,az _,rfl,λi h=>absurd h (by omega)⟩
 case round=>
  obtain⟨k,hk,rfl,HN⟩:=hrel;by_cases hlt:k<l.length
  .obtain⟨b,off,rfl,hcell⟩:=hc (by omega)
   have hck:=hcell k hlt;by_cases Pk:dD l k<n
   .clear hcell hc
    go_wp2
    go_round
    case rel=>exact⟨k+1,by omega,by go_num,λi hi=>by
     rcases fe i k with h|h
     .exact HN.out i h
     .rw[show i=k by omega];exact Pk⟩
    case measure=>simp[intOf];omega
   .by_cases heq:dD l k=n
    .have hb:(dD l k == n)=true:=by simp[heq]
     have hd:decide (dD l k<n)=false:=(by simpa using Pk);have HE:=aI heq;clear heq;go_wp2
     go_ret
     refine⟨_,rfl,?_,fJ _ _,λb hb=>.inl hb⟩;have e:=Hl hk HN.out (λ_=>by have:=HE.out;omega);rw[qp,e,if_pos ⟨hlt,HE.out⟩];exact⟨_,_,rfl,hlc,hcap,hc⟩
    .have hb:(dD l k == n)=false:=by simp[heq]
     have hd:decide (dD l k<n)=false:=(by simpa using Pk);have HE:=aI heq;clear heq;have hcc:=λ(W:World) (hE:Ext w W)=>J5 hcell hE
     have HC:=aI hcc;clear hcc hcell hc;have hkc:k<=cap:=(by omega);have hkn:¬cap=k:=(by omega);go_wp2
     go_region_law (first
      |(refine gu rfl (.tmp 33) (.tmp 36) 41 rfl w.heap.size 3 i0 (.int .i64 0) 1 8 underlying41 hi hz0 hz1 hz2 rfl (by decide) (.slice (some ⟨_,0,none⟩) 0 0) 0 [] rfl (by first|exact gG _ _ (by simp) _|exact(gG _ _ (by simp) _).alloc _|exact lF _ _ _ (by simp) _) _ k _ (((l.drop 0).take k).map (Value.int .i64)) rfl (by simp;omega) (.inr ⟨⟨b,off,none⟩,rfl,by exact HC.out _ (by go_grown) 0 k (by omega)⟩) (jP _) (by unfold maxLen;omega) (by omega) (by first|(simp;done)|(simp;omega)) ?_;intro v1 w1 ho1 hg1 hl1;simp only[gQ,gX]at ho1;have e1:Ext w w1:=dw (by go_grown) hg1 (λk hk=>by simp[Value.ownBlock]at hk;omega))
      |(refine gu rfl (.tmp 37) (.tmp 39) 41 rfl w.heap.size 3 i0 (.int .i64 0) 1 8 underlying41 hi hz0 hz1 hz2 rfl (by decide) v1 k (((l.drop 0).take k).map (Value.int .i64)) rfl (by first|exact ho1|exact ho1.alloc _) _ 1 _ [Value.int .i64 n] rfl rfl (.inr ⟨_,rfl,dA (by first|exact bY _ _ _|exact sQ hg1 (by first|exact bY _ _ _|exact vE _ _ _ _|exact vz _ _ _ _) (by simp[Value.ownBlock]))⟩) one_cell (by unfold maxLen;omega) (by omega) (by have:=e1.size;first|omega|(simp;omega)) ?_;intro v2 w2 ho2 hg2 hl2;have e2:Ext w w2:=dw (by first|exact e1|exact bJ e1 _) hg2 (λk hk=>(ho1.lt k hk).1))
      |(refine gu rfl (.tmp 40) (.tmp 43) 41 rfl w.heap.size 3 i0 (.int .i64 0) 1 8 underlying41 hi hz0 hz1 hz2 rfl (by decide) v2 (k+1) (((l.drop 0).take k).map (Value.int .i64)++[Value.int .i64 n]) rfl ho2 _ (l.length-k) _ (((l.drop k).take (l.length-k)).map (Value.int .i64)) rfl (by simp) (.inr ⟨⟨b,off+k,none⟩,rfl,HC.out _ e2 k (l.length-k) (by omega)⟩) (jP _) (by unfold maxLen;omega) (by omega) e2.size ?_;intro v3 w3 ho3 hg3 hl3;have e3:Ext w w3:=dw e2 hg3 (λk hk=>(ho2.lt k hk).1)))
     all_goals go_wp2
     all_goals go_ret
     all_goals exact⟨_,rfl,xL hk HN.out (λ_=>by have:=HE.out;omega) hsz ho3,e3,λb hb=>.inr (ho3.lt b hb)⟩
  .by_cases h0:0<l.length
   .obtain⟨b,off,rfl,hcell⟩:=hc h0
    have hcc:=λ(W:World) (hE:Ext w W)=>J5 hcell hE
    have HC:=aI hcc;have hke:k=l.length:=(by omega);have HK:=aI hke;clear hcc hcell hc;subst hke;go_wp2
    go_region_law (first
     |(refine gu rfl (.tmp 33) (.tmp 36) 41 rfl w.heap.size 3 i0 (.int .i64 0) 1 8 underlying41 hi hz0 hz1 hz2 rfl (by decide) (.slice (some ⟨_,0,none⟩) 0 0) 0 [] rfl (by first|exact gG _ _ (by simp) _|exact(gG _ _ (by simp) _).alloc _|exact lF _ _ _ (by simp) _) _ l.length _ (((l.drop 0).take l.length).map (Value.int .i64)) rfl (by simp) (.inr ⟨⟨b,off,none⟩,rfl,HC.out _ (by go_grown) 0 l.length (by omega)⟩) (jP _) (by unfold maxLen;omega) (by omega) (by first|(simp;done)|(simp;omega)) ?_;intro v1 w1 ho1 hg1 hl1;simp only[gQ,gX]at ho1;have e1:Ext w w1:=dw (by go_grown) hg1 (λk hk=>by simp[Value.ownBlock]at hk;omega))
     |(refine gu rfl (.tmp 37) (.tmp 39) 41 rfl w.heap.size 3 i0 (.int .i64 0) 1 8 underlying41 hi hz0 hz1 hz2 rfl (by decide) v1 l.length (((l.drop 0).take l.length).map (Value.int .i64)) rfl (by first|exact ho1|exact ho1.alloc _) _ 1 _ [Value.int .i64 n] rfl rfl (.inr ⟨_,rfl,dA (by first|exact bY _ _ _|exact sQ hg1 (by first|exact bY _ _ _|exact vE _ _ _ _|exact vz _ _ _ _) (by simp[Value.ownBlock]))⟩) one_cell (by unfold maxLen;omega) (by omega) (by have:=e1.size;first|omega|(simp;omega)) ?_;intro v2 w2 ho2 hg2 hl2;have e2:Ext w w2:=dw (by first|exact e1|exact bJ e1 _) hg2 (λk hk=>(ho1.lt k hk).1))
     |(refine gu rfl (.tmp 40) (.tmp 43) 41 rfl w.heap.size 3 i0 (.int .i64 0) 1 8 underlying41 hi hz0 hz1 hz2 rfl (by decide) v2 (l.length+1) (((l.drop 0).take l.length).map (Value.int .i64)++[Value.int .i64 n]) rfl ho2 _ 0 _ [] rfl (by simp) (.inl rfl) (by simp) (by unfold maxLen;omega) (by omega) e2.size ?_;intro v3 w3 ho3 hg3 hl3;have e3:Ext w w3:=dw e2 hg3 (λk hk=>(ho2.lt k hk).1)))
    all_goals go_wp2
    all_goals go_ret
    all_goals exact⟨_,rfl,xL (k:=l.length) (ax _) HN.out (λh=>absurd h (by omega)) hsz (B:=w.heap.size) (e:=3) (v:=v3) (N:=l.length+1) (by simpa using ho3),e3,λb hb=>.inr (ho3.lt b hb)⟩
   .have hl0:l=[]:=cz (by omega)
    subst hl0;have hk0:k=0:=(by simpa using hk);subst hk0;cases a with
    |none=>
     go_wp2
     go_region_law (first
      |(refine gu rfl (.tmp 33) (.tmp 36) 41 rfl w.heap.size 3 i0 (.int .i64 0) 1 8 underlying41 hi hz0 hz1 hz2 rfl (by decide) (.slice (some ⟨_,0,none⟩) 0 0) 0 [] rfl (by first|exact gG _ _ (by simp) _|exact(gG _ _ (by simp) _).alloc _|exact lF _ _ _ (by simp) _) _ 0 _ [] rfl (by simp) (.inl rfl) (by simp) (by unfold maxLen;omega) (by omega) (by first|(simp;done)|(simp;omega)) ?_;intro v1 w1 ho1 hg1 hl1;simp only[Nat.add_zero,gK]at ho1;have e1:Ext w w1:=dw (by go_grown) hg1 (λk hk=>by simp[Value.ownBlock]at hk;omega))
      |(refine gu rfl (.tmp 37) (.tmp 39) 41 rfl w.heap.size 3 i0 (.int .i64 0) 1 8 underlying41 hi hz0 hz1 hz2 rfl (by decide) v1 0 [] rfl (by first|exact ho1|exact ho1.alloc _) _ 1 _ [Value.int .i64 n] rfl rfl (.inr ⟨_,rfl,dA (by first|exact bY _ _ _|exact sQ hg1 (by first|exact bY _ _ _|exact vE _ _ _ _|exact vz _ _ _ _) (by simp[Value.ownBlock]))⟩) one_cell (by unfold maxLen;omega) (by omega) (by have:=e1.size;first|omega|(simp;omega)) ?_;intro v2 w2 ho2 hg2 hl2;simp only[gQ,gX]at ho2;have e2:Ext w w2:=dw (by first|exact e1|exact bJ e1 _) hg2 (λk hk=>(ho1.lt k hk).1))
      |(refine gu rfl (.tmp 40) (.tmp 43) 41 rfl w.heap.size 3 i0 (.int .i64 0) 1 8 underlying41 hi hz0 hz1 hz2 rfl (by decide) v2 1 [Value.int .i64 n] rfl ho2 _ 0 _ [] rfl (by simp) (.inl rfl) (by simp) (by unfold maxLen;omega) (by omega) e2.size ?_;intro v3 w3 ho3 hg3 hl3;have e3:Ext w w3:=dw e2 hg3 (λk hk=>(ho2.lt k hk).1)))
     all_goals go_wp2
     all_goals go_ret
     all_goals exact⟨_,rfl,xL (l:=[]) (k:=0) (ax _) (λi h=>absurd h (by omega)) (λh=>absurd h (by simp)) (by simp) (B:=w.heap.size) (e:=3) (v:=v3) (N:=1) (by simpa using ho3),e3,λb hb=>.inr (ho3.lt b hb)⟩
    |some ad=>
     go_wp2
     go_region_law (first
      |(refine gu rfl (.tmp 33) (.tmp 36) 41 rfl w.heap.size 3 i0 (.int .i64 0) 1 8 underlying41 hi hz0 hz1 hz2 rfl (by decide) (.slice (some ⟨_,0,none⟩) 0 0) 0 [] rfl (by first|exact gG _ _ (by simp) _|exact(gG _ _ (by simp) _).alloc _|exact lF _ _ _ (by simp) _) _ 0 _ [] rfl (by simp) (.inl rfl) (by simp) (by unfold maxLen;omega) (by omega) (by first|(simp;done)|(simp;omega)) ?_;intro v1 w1 ho1 hg1 hl1;simp only[Nat.add_zero,gK]at ho1;have e1:Ext w w1:=dw (by go_grown) hg1 (λk hk=>by simp[Value.ownBlock]at hk;omega))
      |(refine gu rfl (.tmp 37) (.tmp 39) 41 rfl w.heap.size 3 i0 (.int .i64 0) 1 8 underlying41 hi hz0 hz1 hz2 rfl (by decide) v1 0 [] rfl (by first|exact ho1|exact ho1.alloc _) _ 1 _ [Value.int .i64 n] rfl rfl (.inr ⟨_,rfl,dA (by first|exact bY _ _ _|exact sQ hg1 (by first|exact bY _ _ _|exact vE _ _ _ _|exact vz _ _ _ _) (by simp[Value.ownBlock]))⟩) one_cell (by unfold maxLen;omega) (by omega) (by have:=e1.size;first|omega|(simp;omega)) ?_;intro v2 w2 ho2 hg2 hl2;simp only[gQ,gX]at ho2;have e2:Ext w w2:=dw (by first|exact e1|exact bJ e1 _) hg2 (λk hk=>(ho1.lt k hk).1))
      |(refine gu rfl (.tmp 40) (.tmp 43) 41 rfl w.heap.size 3 i0 (.int .i64 0) 1 8 underlying41 hi hz0 hz1 hz2 rfl (by decide) v2 1 [Value.int .i64 n] rfl ho2 _ 0 _ [] rfl (by simp) (.inl rfl) (by simp) (by unfold maxLen;omega) (by omega) e2.size ?_;intro v3 w3 ho3 hg3 hl3;have e3:Ext w w3:=dw e2 hg3 (λk hk=>(ho2.lt k hk).1)))
     all_goals go_wp2
     all_goals go_ret
     all_goals exact⟨_,rfl,xL (l:=[]) (k:=0) (ax _) (λi h=>absurd h (by omega)) (λh=>absurd h (by simp)) (by simp) (B:=w.heap.size) (e:=3) (v:=v3) (N:=1) (by simpa using ho3),e3,λb hb=>.inr (ho3.lt b hb)⟩
end
section
open Go.RowKit
variable {w w':World} {v:Value} {xs:List Value}
def nX(w:World)(v:Value)(xs:List Value):Prop:=
 ∃a cap,v=.slice a xs.length cap/\xs.length<=cap/\xs.length<=1152921504606846976/\(0<xs.length->∃b off,a=some ⟨b,off,none⟩/\∀i (h:i<xs.length),w.cell? ⟨b,off+i,none⟩=some xs[i])
theorem nX.nil(w:World)(a:Option Addr)(cap:Nat):nX w (.slice a 0 cap) []:=⟨a,cap,rfl,az _,az _,λh=>absurd h (by simp)⟩
theorem nX.keep(h:nX w v xs)(hk:∀b,0<xs.length->v.ownBlock=some b->w'.heap[b]?=w.heap[b]?):nX w' v xs:=by
 obtain⟨a,cap,rfl,h1,h2,h3⟩:=h;refine⟨a,cap,rfl,h1,h2,λh0=>?_⟩;obtain⟨b,off,rfl,hc⟩:=h3 h0;refine⟨b,off,rfl,λi hi=>?_⟩;rw[lh (w:=w) (hk b h0 rfl)];exact hc i hi
theorem nX.blk(h:nX w v xs){b:Nat}(hl:0<xs.length)(hb:v.ownBlock=some b):b<w.heap.size:=by
 obtain⟨a,cap,rfl,h1,h2,h3⟩:=h;obtain⟨b',off,rfl,hc⟩:=h3 hl;simp[Value.ownBlock]at hb;subst hb;exact lt_of_cell (hc 0 hl)
theorem nX.ext(h:nX w v xs)(hk:Ext w w'):nX w' v xs:=h.keep λb hl hb=>hk.block b (h.blk hl hb)
theorem nX.dX{B:Nat}{e:TypeId}{n:Nat}(h:w.ownsRow B e 1 v n xs)(hn:xs.length<=1152921504606846976):nX w v xs:=by
 obtain⟨hlen,h⟩:=h;simp at hlen;rcases h with⟨rfl,hn0⟩|⟨g,cap,cur,rfl,_,hg,hnc,hcm,hcs,ht⟩
 .subst hn0
  have:xs=[]:=cz (by omega);subst this;exact nX.nil _ _ _
 .subst hlen
  refine⟨_,cap,rfl,hnc,hn,λh0=>⟨g,0,rfl,λi hi=>?_⟩⟩;rw[bI w g (0+i) cur e (0,0) hg];have e1:cur.toList[0+i]?=xs[i]?:=by
   conv=>rhs;rw[<-ht]
   rw[kK,if_pos (by omega)];simp
  rw[ik]at e1;rw[e1,ae hi]
def Strs(w:World)(v:Value)(ss:List ByteArray):Prop:=nX w v (ss.map Value.string)
theorem Strs.at{w:World}{a:Option Addr}{n cap:Nat}{ss:List ByteArray}(h:Strs w (.slice a n cap) ss){i:Nat}(hi:i<ss.length):∃b off,a=some ⟨b,off,none⟩/\∀j (hj:j<ss.length),w.cell? ⟨b,off+j,none⟩=some (.string ss[j]):=by
 obtain⟨a',cap',e,h1,h2,h3⟩:=h;simp only[gz]at e;obtain⟨rfl,-,rfl⟩:=e;obtain⟨b,off,rfl,hc⟩:=h3 (by simp;omega);exact⟨b,off,rfl,λj hj=>by rw[hc j (by simpa using hj)];simp⟩
end
