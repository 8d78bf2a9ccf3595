/-
  Contract of the reference's l1Put: a number put to its place in a rising list. (5 texts.)
-/
import Derived.Test.YteknjeohbcgpdaaGreatDoorK1
import Derived.Deep.RegionLaw
import Derived.Handy
set_option maxRecDepth 100000
namespace Go.Proofs.YteknjeohbcgpdaaGreatDoor
open Tryz
section
open Go.RowKit
variable {l m:List Int} {k:Nat}
def Hq:List Int->List Int->Int
 |[],[]=>0
 |[],_ :: _=>-1
 |_ :: _,[]=>1
 |a :: l,b :: m=>if a<b then -1 else if b<a then 1 else Hq l m
theorem Mq(p a b:List Int):Hq (p++a) (p++b)=Hq a b:=by
 induction p with
 |nil=>rfl
 |cons x p ih=>simp[Hq,ih]
theorem rR(h:k<l.length):l.drop k=jv l k :: l.drop (k+1):=by
 rw[iO h,o6 h]
theorem Dm(h:l.take k=m.take k):Hq l m=Hq (l.drop k) (m.drop k):=by
 have e1:l=l.take k++l.drop k:=(iZ k l).symm;have e2:m=l.take k++m.drop k:=by rw[h];exact(iZ k m).symm
 have:=Mq (l.take k) (l.drop k) (m.drop k);rw[<-e1,<-e2]at this;exact this
theorem ZW(h:l.take k=m.take k)(hl:k<l.length)(hm:k<m.length)(hx:jv l k<jv m k):Hq l m=-1:=by
 rw[Dm h,rR hl,rR hm,Hq,if_pos hx]
theorem ZX(h:l.take k=m.take k)(hl:k<l.length)(hm:k<m.length)(hx:jv m k<jv l k):Hq l m=1:=by
 rw[Dm h,rR hl,rR hm,Hq,if_neg (by omega),if_pos hx]
theorem Uk(h:l.take l.length=m.take l.length)(hm:l.length<m.length):Hq l m=-1:=by
 rw[Dm h,rR hm];simp[Hq]
theorem Uj(h:l.take m.length=m.take m.length)(hm:m.length<l.length):Hq l m=1:=by
 rw[Dm h,rR hm];simp[Hq]
theorem Ui(h:l.take l.length=m.take l.length)(hm:l.length=m.length):Hq l m=0:=by
 rw[Dm h,hm,List.drop_length,<-hm,List.drop_length];rfl
set_option maxHeartbeats 400000 in
theorem xO(v u:Value)(l m:List Int)(w:World)(h:Ints w v l)(g:Ints w u m):
 Calls prog 209 #[v,u] w λe w'=>e=.returned (.int .i64 (Hq l m))/\RD w w':=by
 obtain⟨a,cap,rfl,hlc,hcap,hc⟩:=h;obtain⟨a',cap',rfl,V8,NH,hc'⟩:=g;go_enter Tryz.func209,Tryz.ntmps209
 go_wp2
 go_loopw [5] (λi wr=>∃k:Nat,k<=l.length/\k<=m.length/\i=.int .i64 k/\RD w wr/\Hid (l.take k=m.take k)) (λi _=>l.length-(intOf i).toNat)
 case atStart=>exact⟨0,az _,az _,rfl,su _,by simp[Hid]⟩
 case round=>
  obtain⟨k,hk,hkm,rfl,⟨n,rfl⟩,HN⟩:=hrel;by_cases hlt:k<l.length
  .by_cases hlm:k<m.length
   .obtain⟨b,off,rfl,hcell⟩:=hc (by omega)
    obtain⟨b',off',rfl,hcell'⟩:=hc' (by omega);have hck:=hcell k hlt;have Ti:=hcell' k hlm;clear hcell hc hcell' hc';by_cases Po:jv l k<jv m k
    .have hne:(jv l k != jv m k)=true:=by simp;omega
     go_wp2
     go_quiet (fail)
     go_wp2
     go_quiet (fail)
     go_wp2
     go_ret
     exact⟨kK (ZW HN.out hlt hlm Po).symm,(by first|exact su _|exact xc _ _|exact wY _ _ _|exact wW _ _ _ _)⟩
    .by_cases hgt:jv m k<jv l k
     .have hne:(jv l k != jv m k)=true:=by simp;omega
      have hd:decide (jv l k<jv m k)=false:=(by simpa using Po);go_wp2
      go_quiet (fail)
      go_wp2
      go_quiet (fail)
      go_wp2
      go_ret
      exact⟨kK (ZX HN.out hlt hlm hgt).symm,(by first|exact su _|exact xc _ _|exact wY _ _ _|exact wW _ _ _ _)⟩
     .have hne:(jv l k != jv m k)=false:=by simp;omega
      go_wp2
      go_quiet (fail)
      go_wp2
      go_roundw
      case rel=>
       refine⟨k+1,by omega,by omega,by go_num,(by first|exact su _|exact xc _ _|exact wY _ _ _|exact wW _ _ _ _),?_⟩;show _=_;rw[qb hlt,qb hlm,HN.out,show jv l k=jv m k by omega]
      case measure=>simp[intOf];omega
   .have hge:m.length<l.length\/l.length=m.length:=by omega
    have hmk:k=m.length:=(by omega);have HK:=aH hmk;have hgt:m.length<l.length:=(by omega);clear hmk hge;go_wp2
    go_ret
    exact⟨kK (Uj (by rw[<-HK.out];exact HN.out) hgt).symm,(by first|exact su _|exact xc _ _|exact wY _ _ _|exact wW _ _ _ _)⟩
  .have hlk:k=l.length:=by omega
   have HK:=aH hlk;clear hlk;go_wp2
   .have h1:l.length<m.length:=by assumption
    go_ret
    exact⟨kK (Uk (by rw[<-HK.out];exact HN.out) h1).symm,(by first|exact su _|exact xc _ _|exact wY _ _ _|exact wW _ _ _ _)⟩
   .have h1:¬l.length<m.length:=by assumption
    go_ret
    have e:=HK.out;exact⟨kK (Ui (by rw[<-e];exact HN.out) (by omega)).symm,(by first|exact su _|exact xc _ _|exact wY _ _ _|exact wW _ _ _ _)⟩
end
section
open Go.RowKit
variable {a w w' W wr w1:World} {b B n size:Nat} {v:Value} {l:List Int} {e:TypeId} {xs:List Value} {o:Option Nat}
abbrev Ext(w w':World):Prop:=Below w.heap.size w w'
theorem ay{b c:World}(h:Ext a b)(k:Ext b c):Ext a c:=h.trans (k.mono h.size)
theorem bS(h:RD w w'):Ext w w':=by obtain⟨n,rfl⟩:=h;exact⟨rfl,rfl,rfl,ai _,λ_ _=>rfl⟩
theorem Uz(h:Below B a w)(n:Nat):Below B a (w.drewN n):=⟨h.os,h.tape,h.output,h.size,h.block⟩
theorem Ints.nil(w:World)(a:Option Addr)(cap:Nat):Ints w (.slice a 0 cap) []:=
 ⟨a,cap,rfl,az _,az _,λh=>absurd h (by simp)⟩
theorem lt_of_cell{a:Addr}(h:w.cell? a=some v):a.block<w.heap.size:=World.block_lt_of_cell? w a h
theorem Ints.keep(h:Ints w v l)(hk:∀b,l≠[]->v.ownBlock=some b->w'.heap[b]?=w.heap[b]?):Ints w' v l:=by
 obtain⟨a,cap,rfl,h1,h2,h3⟩:=h;refine⟨a,cap,rfl,h1,h2,λh0=>?_⟩;obtain⟨b,off,rfl,hc⟩:=h3 h0;refine⟨b,off,rfl,λi hi=>?_⟩;rw[World.cell?_of_block (w:=w) (hk b (by intro e;simp[e]at h0) rfl)];exact hc i hi
theorem Ints.blk(h:Ints w v l)(hl:l≠[])(hb:v.ownBlock=some b):b<w.heap.size:=by
 obtain⟨a,cap,rfl,h1,h2,h3⟩:=h;obtain⟨b',off,rfl,hc⟩:=h3 (iY.2 hl);simp[Value.ownBlock]at hb;subst hb;exact lt_of_cell (hc 0 (iY.2 hl))
theorem Ints.ext(h:Ints w v l)(hk:Ext w w'):Ints w' v l:=
 h.keep λb hl hb=>hk.block b (h.blk hl hb)
theorem Ints.eO(h:w.ownsRow B e 1 v n (l.map (Value.int .i64)))(hn:l.length<=1152921504606846976):Ints w v l:=by
 obtain⟨hlen,h⟩:=h;simp at hlen;rcases h with⟨rfl,hn0⟩|⟨g,cap,cur,rfl,_,hg,hnc,hcm,hcs,ht⟩
 .subst hn0
  have:l=[]:=fE (by omega);subst this;exact Ints.nil _ _ _
 .subst hlen
  refine⟨_,cap,rfl,hnc,hn,λh0=>⟨g,0,rfl,λi hi=>?_⟩⟩;rw[cell_of_row w g (0+i) cur e (0,0) hg];have e1:cur.toList[0+i]?=(l.map (Value.int .i64))[i]?:=by
   rw[<-ht,lI,if_pos (by omega)];simp
  rw[iD]at e1;rw[e1];simp[hi,jv]
theorem dn(h:w.ownsRow B e size v n xs)(hk:Ext w w'):w'.ownsRow B e size v n xs:=
 h.kept (row:=none) ⟨hk.os,hk.tape,hk.output,hk.size,λk hk' _=>hk.block k hk'⟩ (by cases v.ownBlock <;> simp)
theorem own_drewN(h:w.ownsRow B e size v n xs)(k:Nat):(w.drewN k).ownsRow B e size v n xs:=h
theorem iy:(prog.info? 3).map (λi=>(i.zero,i.size,i.bytes))=some (some (.int .i64 0),1,8):=by kernel_rfl
theorem zb{o:Value}{x:Obj}(jE:Ext W wr)(hown:wr.ownsRow W.heap.size e size o n xs)(hg:(wr.alloc x).grownBy w1 o.ownBlock):Ext W w1:=
 (jE.alloc jE.size x).grown hg (by have:=jE.size;simp;omega) (λk hk=>(hown.lt k hk).1)
theorem fC(w:World)(B:Nat)(hB:B<=w.heap.size)(e:TypeId):(w.alloc (.cells #[] e)).ownsRow B e 1 (.slice (some ⟨w.heap.size,0,none⟩) 0 0) 0 []:=
 World.ownsRow_made w #[] 0 hB (by decide) (by simp)
theorem lM(w:World)(X:Obj)(B:Nat)(hB:B<=w.heap.size)(e:TypeId):((w.alloc X).alloc (.cells #[] e)).ownsRow B e 1 (.slice (some ⟨w.heap.size+1,0,none⟩) 0 0) 0 []:=by
 have:=fC (w.alloc X) B (by simp;omega) e
 simpa using this
theorem Kz{off:Nat}(hc:∀i,i<l.length->w.cell? ⟨b,off+i,none⟩=some (.int .i64 (jv l i)))(hE:Ext w W)(s m:Nat)(hsm:s+m<=l.length):
 ∀j u,(((l.drop s).take m).map (Value.int .i64))[j]?=some u->W.cell? ((⟨b,off+s,none⟩:Addr).add j)=some u:=by
 intro j u hu;rw[dB,lI]at hu;split at hu
 .rename_i hj
  rw[p9]at hu;have hlt:s+j<l.length:=by omega
  rw[aa hlt]at hu;simp at hu;have h0:=hc (s+j) hlt;have e:((⟨b,off+s,none⟩:Addr).add j)=⟨b,off+(s+j),none⟩:=by
   unfold Addr.add;split <;> simp_all [Nat.add_assoc]
  rw[e,hE.cell (lt_of_cell h0),h0,o6 hlt,hu]
 .simp at hu
theorem cK(h:W.cell? ⟨B,0,none⟩=some v):∀j u,([v]:List Value)[j]?=some u->W.cell? ((⟨B,0,none⟩:Addr).add j)=some u:=by
 intro j u hj;cases j with
 |zero=>simp at hj;subst hj;simpa [Addr.add]using h
 |succ j=>simp at hj
theorem one_cell{k:IntKind}{n:Int}:∀u∈([Value.int k n]:List Value),u.oneCell'=true:=by
 intro u hu;simp at hu;subst hu;rfl
theorem bP(w:World)(v:Value)(e:TypeId):(w.alloc (.cells #[v] e)).cell? ⟨w.heap.size,0,none⟩=some v:=by
 rw[World.cell?_alloc_at _ _ _ _ rfl];rfl
theorem vR(w:World)(v:Value)(e:TypeId)(X:Obj):((w.alloc (.cells #[v] e)).alloc X).cell? ⟨w.heap.size,0,none⟩=some v:=by
 rw[World.cell?_alloc_past _ _ _ (by simp)];exact bP _ _ _
theorem vQ(w:World)(v:Value)(e:TypeId)(X:Obj):((w.alloc X).alloc (.cells #[v] e)).cell? ⟨w.heap.size+1,0,none⟩=some v:=by
 have h:=bP (w.alloc X) v e;rw[fw]at h;exact h
theorem qm(hg:w.grownBy w1 o)(h:w.cell? ⟨B,0,none⟩=some v)(ho:some B≠o):w1.cell? ⟨B,0,none⟩=some v:=
 hg.cell h ho
theorem kN(l:List Int):∀u∈l.map (Value.int .i64),u.oneCell'=true:=by
 intro u hu;obtain⟨x,_,rfl⟩:=aI.1 hu;rfl
theorem dZ(jE:Ext W wr)(hg:wr.grownBy w1 o)(ho:∀k,o=some k->W.heap.size<=k):Ext W w1:=
 jE.grown hg jE.size ho
theorem bK(jE:Ext W wr)(x:Obj):Ext W (wr.alloc x):=jE.alloc jE.size x
theorem fZ(jE:Ext W wr)(n:Nat):Ext W (wr.drewN n):=Uz jE n
end
section
open Go.RowKit
variable {P:Program} {w:World} {o:Oper} {a:Act} {K:Act->World->Prop} {Q:Exit->Act->World->Prop} {ops:Array Oper}
def mM(w:World)(v v':Value):Prop:=v'.ownBlock=v.ownBlock\/∃g,v'.ownBlock=some g/\w.heap.size<=g
theorem WY(w:World)(base:Nat)(t ty e:TypeId)(i:TypeInfo)(z:Value)(size bytes:Nat)(ht:P.underlying t=some (.slice e))(hi:P.info? e=some i)(hz:i.zero=some z)
 (hsize:i.size=size) (hby:i.bytes=bytes) (hzs:z.cells.size=size) (hsz:0<size)
 (v:Value) (n:Nat) (xs:List Value) (hown:w.ownsRow base e size v n xs)
 (ao:Option Addr) (m c:Nat) (news:List Value) (hl:news.length=m*size) (hsrc:m=0\/∃ad,ao=some ad/\∀j u,news[j]?=some u->w.cell? (ad.add j)=some u) (h1:∀u∈news,u.oneCell'=true)
 (h63:n+m<=maxLen) (hbytes:(n+m)*bytes<=140737488355328) (hbase:base<=w.heap.size):
 ∃v' w',(Builtin.append_ #[t,t] ty #[v,.slice ao m c]).run P w=.ok v' w'/\w'.ownsRow base e size v' (n+m) (xs++news)/\w.grownBy w' v.ownBlock/\mM w v v':=by
 subst hsize;subst hby
 by_cases hm:m=0
 .subst hm
  have hn:news=[]:=fE (by simpa using hl);subst hn;refine⟨v,w,?_,by simpa using hown,⟨rfl,rfl,rfl,ai _,λ_ _ _=>rfl⟩,.inl rfl⟩;rcases hown.2 with⟨rfl,h0⟩|⟨g,cap,cur,rfl,hbg,hg,hnc,hcm,hcs,htake⟩
  .subst h0
   cases ao <;> simp[Builtin.append_,run_underlying ht,sizeOf,typeInfo,hi,Builtin.lenOf,Builtin.firstCells,loadCells,loadCellsFrom]
  .cases ao <;> simp[Builtin.append_,run_underlying ht,sizeOf,typeInfo,hi,Builtin.lenOf,Builtin.firstCells,loadCells,loadCellsFrom,hnc,storeCells]
 .obtain⟨ad,rfl,hnews⟩:=hsrc.resolve_left hm
  obtain⟨v',w',hr,h2,h3,h4⟩:=run_append_own (P:=P) w base t ty e i z i.size i.bytes ht hi hz rfl rfl hzs hsz v n xs hown ad m c news hl hnews h1 h63 hbytes hbase;refine⟨v',w',hr,h2,h3,?_⟩;have xP:maxLen=9223372036854775807:=by simp[maxLen]
  rcases hown.2 with⟨rfl,h0⟩|⟨g,cap,cur,rfl,hbg,hg,hnc,hcm,hcs,htake⟩
  .subst h0
   have hr2:=run_append_nil (P:=P) (w:=w) t ty e i z ht hi hz ad m c news hl hnews (by omega) (by omega) (by simp only[gK]at hbytes;omega);rw[hr]at hr2;injection hr2 with hv hw;subst hv;exact .inr ⟨_,rfl,ai _⟩
  .by_cases hroom:n+m<=cap
   .have hfit:n*i.size+news.length<=cur.size:=by rw[hl,hcs,<-nZ];exact iM _ hroom
    have hr2:=run_append_room (P:=P) (w:=w) t ty e i ht hi g n cap cur hg ad m c news hl hnews h1 hroom hfit;rw[hr]at hr2;injection hr2 with hv hw;subst hv;exact .inl rfl
   .have hr2:=run_append_grow (P:=P) (w:=w) t ty e i z ht hi hz ⟨g,0,none⟩ n cap xs hown.1 (hown.cells (g:=g) rfl) ad m c news hl hnews (by omega) (by omega) (growslice_fits (by omega) hbytes)
    rw[hr]at hr2;injection hr2 with hv hw;subst hv;exact .inr ⟨_,rfl,ai _⟩
theorem UD(s x:Operand)(t:TypeId)
 (ho:o.op=.call { callee:=.builtin .append,args:=#[s,x],argTypes:=#[t,t] })
 (base:Nat) (e:TypeId) (i:TypeInfo) (z:Value) (size bytes:Nat) (ht:P.underlying t=some (.slice e)) (hi:P.info? e=some i) (hz:i.zero=some z)
 (hsize:i.size=size) (hby:i.bytes=bytes) (hzs:z.cells.size=size) (hsz:0<size)
 (v:Value) (n:Nat) (xs:List Value) (hs:a.eval s=v) (hown:w.ownsRow base e size v n xs)
 (ao:Option Addr) (m c:Nat) (news:List Value) (hx:a.eval x=.slice ao m c) (hl:news.length=m*size) (hsrc:m=0\/∃ad,ao=some ad/\∀j u,news[j]?=some u->w.cell? (ad.add j)=some u) (h1:∀u∈news,u.oneCell'=true)
 (h63:n+m<=maxLen) (hbytes:(n+m)*bytes<=140737488355328) (hbase:base<=w.heap.size)
 (h:∀v' w',w'.ownsRow base e size v' (n+m) (xs++news)->w.grownBy w' v.ownBlock->mM w v v'->K (a.put o.dst v') w'):o.wp P a w K Q:=by
 obtain⟨v',w',hr,h2,h3,h4⟩:=WY (P:=P) w base t o.type e i z size bytes ht hi hz hsize hby hzs hsz v n xs hown ao m c news hl hsrc h1 h63 hbytes hbase;unfold Oper.wp execOp;simp only[ho,resolve,invoke,builtin,Sem.run_bind,Sem.run_pure,Result.andThen_ok,List.map_toArray,eZ,lU,hs,hx,hr];exact h v' w' h2 h3 h4
theorem bQ{rest:List Oper}(hgd:o.guard=none)(s x:Operand)(t:TypeId)
 (ho:o.op=.call { callee:=.builtin .append,args:=#[s,x],argTypes:=#[t,t] })
 (base:Nat) (e:TypeId) (i:TypeInfo) (z:Value) (size bytes:Nat) (ht:P.underlying t=some (.slice e)) (hi:P.info? e=some i) (hz:i.zero=some z)
 (hsize:i.size=size) (hby:i.bytes=bytes) (hzs:z.cells.size=size) (hsz:0<size)
 (v:Value) (n:Nat) (xs:List Value) (hs:a.eval s=v) (hown:w.ownsRow base e size v n xs)
 (ao:Option Addr) (m c:Nat) (news:List Value) (hx:a.eval x=.slice ao m c) (hl:news.length=m*size) (hsrc:m=0\/∃ad,ao=some ad/\∀j u,news[j]?=some u->w.cell? (ad.add j)=some u) (h1:∀u∈news,u.oneCell'=true)
 (h63:n+m<=maxLen) (hbytes:(n+m)*bytes<=140737488355328) (hbase:base<=w.heap.size)
 (h:∀v' w',w'.ownsRow base e size v' (n+m) (xs++news)->w.grownBy w' v.ownBlock->mM w v v'->wpList P ops Q rest (a.put o.dst v') w'):wpList P ops Q (o :: rest) a w:=
 wpList_plain hgd λ_ hK=>UD s x t ho base e i z size bytes ht hi hz hsize hby hzs hsz v n xs hs hown ao m c news hx hl hsrc h1 h63 hbytes hbase λv' w' h2 h3 h4=>hK _ _ (h v' w' h2 h3 h4)
theorem iA{E:Prop}(hgd:o.guard=none)(s x:Operand)(t:TypeId)
 (ho:o.op=.call { callee:=.builtin .append,args:=#[s,x],argTypes:=#[t,t] })
 (base:Nat) (e:TypeId) (i:TypeInfo) (z:Value) (size bytes:Nat) (ht:P.underlying t=some (.slice e)) (hi:P.info? e=some i) (hz:i.zero=some z)
 (hsize:i.size=size) (hby:i.bytes=bytes) (hzs:z.cells.size=size) (hsz:0<size)
 (v:Value) (n:Nat) (xs:List Value) (hs:a.eval s=v) (hown:w.ownsRow base e size v n xs)
 (ao:Option Addr) (m c:Nat) (news:List Value) (hx:a.eval x=.slice ao m c) (hl:news.length=m*size) (hsrc:m=0\/∃ad,ao=some ad/\∀j u,news[j]?=some u->w.cell? (ad.add j)=some u) (h1:∀u∈news,u.oneCell'=true)
 (h63:n+m<=maxLen) (hbytes:(n+m)*bytes<=140737488355328) (hbase:base<=w.heap.size)
 (h:∀v' w',w'.ownsRow base e size v' (n+m) (xs++news)->w.grownBy w' v.ownBlock->mM w v v'->K (a.put o.dst v') w'):if Region.wanted o (yielded ops a.tmps)=true then Oper.wp P o a w K Q else E:=by
 have hw:Region.wanted o (yielded ops a.tmps)=true:=by simp[Region.wanted,hgd]
 rw[if_pos hw];exact UD s x t ho base e i z size bytes ht hi hz hsize hby hzs hsz v n xs hs hown ao m c news hx hl hsrc h1 h63 hbytes hbase h
end
section
open Go.RowKit
def Qo(at_ l:List Int):List Int:=l.map λx=>jv at_ x.toNat
theorem UC(at_:List Int){l:List Int}{k:Nat}(h:k<l.length):Qo at_ (l.take (k+1))=Qo at_ (l.take k)++[jv at_ (jv l k).toNat]:=by
 rw[qb h];simp[Qo]
theorem GI(at_ l:List Int):(Qo at_ l).length=l.length:=by simp[Qo]
set_option maxHeartbeats 400000 in
theorem rE(v u:Value)(t l:List Int)(w:World)(h:Ints w v t)(g:Ints w u l)(hb:∀x,x∈l->0<=x/\x<t.length)(hsz:l.length<=1000000000):
 Calls prog 132 #[v,u] w λe w'=>∃v',e=.returned v'/\Ints w' v' (Qo t l)/\Ext w w':=by
 obtain⟨a,cap,rfl,hlc,hcap,hc⟩:=h;obtain⟨a',cap',rfl,V8,NH,hc'⟩:=g;obtain⟨i0,hi,hz0,hz1,hz2⟩:=info_parts iy;go_enter Tryz.func132,Tryz.ntmps132
 go_wp2
 go_loopw [5,6] (λo i wr=>∃k:Nat,k<=l.length/\i=.int .i64 k/\wr.ownsRow w.heap.size 3 1 o k ((Qo t (l.take k)).map (Value.int .i64))/\Ext w wr) (λ_ i _=>l.length-(intOf i).toNat)
 case atStart=>exact⟨0,az _,rfl,fC w _ (ai _) _,(Below.refl _ _).alloc (ai _) _⟩
 case round=>
  obtain⟨k,hk,rfl,hown,jE⟩:=hrel;by_cases hlt:k<l.length
  .obtain⟨b',off',rfl,hcell'⟩:=hc' (by omega)
   have hx:=hb _ (Fx hlt);obtain⟨b,off,rfl,hcell⟩:=hc (by omega);have Ti:=hcell' k hlt;have hck:=hcell (jv l k).toNat (by omega);have nz:=(jE.cell (lt_of_cell Ti)).trans Ti;have JA:=(jE.cell (lt_of_cell hck)).trans hck;clear hcell hc hcell' hc' hck Ti hb;go_wp2_with (at_builtin;refine wpList_append_own _ rfl _ _ 80 rfl w.heap.size 3 i0 (.int .i64 0) 1 8 underlying80 hi hz0 hz1 hz2 rfl (by decide) _ _ _ rfl (hown.alloc _) ⟨wr.heap.size,0,none⟩ 1 1 [.int .i64 (jv t (jv l k).toNat)] rfl rfl ?c1 ?c2 ?c3 ?c4 ?c5 ?_)
   case c1=>
    intro j u hj
    match j,hj with
    | 0,hj=>simp at hj;subst hj;simp[Addr.add]
   case c2=>intro u hu;simp at hu;subst hu;rfl
   case c3=>unfold maxLen;omega
   case c4=>omega
   case c5=>have:=jE.size;simp;omega
   intro v' w1 hown' hgrow _;have hx1:=zb jE hown hgrow;have hs:=UC t hlt;have ho1:w1.ownsRow w.heap.size 3 1 v' (k+1) ((Qo t (l.take (k+1))).map (Value.int .i64)):=by
    rw[hs];simpa using hown'
   clear hown' hgrow hown jE hs;go_wp2
   go_roundw
   case rel=>exact⟨k+1,by omega,by go_num,ho1,hx1⟩
   case measure=>simp[intOf];omega
  .go_wp2
   go_ret
   have e:k=l.length:=(by omega);subst e;rw[dz]at hown;exact⟨_,rfl,Ints.eO hown (by rw[GI];omega),jE⟩
end
section
open Go.RowKit
variable {l:List Int} {n:Int} {k:Nat}
def putAt(l:List Int)(n:Int):Nat:=(l.takeWhile λx=>decide (x<n)).length
def qz(l:List Int)(n:Int):List Int:=
 if putAt l n<l.length/\jv l (putAt l n)=n then l else l.take (putAt l n)++[n]++l.drop (putAt l n)
theorem IP(hk:k<=l.length)(h1:∀i,i<k->jv l i<n)(h2:k<l.length->n<=jv l k):putAt l n=k:=by
 induction l generalizing k with
 |nil=>simp at hk;subst hk;rfl
 |cons x l ih=>
  cases k with
  |zero=>
   have:=h2 (by simp);simp[jv]at this;simp[putAt,List.takeWhile_cons];omega
  |succ k=>
   have h0:=h1 0 (by omega);simp[jv]at h0;have e:=ih (k:=k) (by simpa using hk) (λi hi=>by have:=h1 (i+1) (by omega);simpa [jv]using this) (λh=>by have:=h2 (by simpa using h);simpa [jv]using this);simp[putAt,h0]at e ⊢;exact e
def UN(w w':World)(v v':Value):Prop:=∀b,v'.ownBlock=some b->v.ownBlock=some b\/(w.heap.size<=b/\b<w'.heap.size)
theorem yx{W:World}{B:Nat}{e:TypeId}{v:Value}{N:Nat}(hk:k<=l.length)(h1:∀i,i<k->jv l i<n)(h2:k<l.length->n<jv l k)(hsz:l.length<=1000000000)
 (ho:W.ownsRow B e 1 v N (((((l.drop 0).take k).map (Value.int .i64))++[Value.int .i64 n])++((l.drop k).take (l.length-k)).map (Value.int .i64))):Ints W v (qz l n):=by
 have ea:=IP hk h1 (λh=>by have:=h2 h;omega);have ep:qz l n=l.take k++[n]++l.drop k:=by
  rw[qz,ea,if_neg (λh=>by have:=h2 h.1;omega)]
 rw[ep];refine Ints.eO (B:=B) (e:=e) (n:=N) ?_ (by simp;omega);have e1:(l.drop k).take (l.length-k)=l.drop k:=cO (by simp);rw[e1]at ho
 simpa using ho
set_option maxHeartbeats 1000000 in
theorem rF(v:Value)(l:List Int)(n:Int)(w:World)(h:Ints w v l)(hsz:l.length<=1000000000):
 Calls prog 180 #[v,.int .i64 n] w λe w'=>∃v',e=.returned v'/\Ints w' v' (qz l n)/\Ext w w'/\UN w w' v v':=by
 obtain⟨a,cap,rfl,hlc,hcap,hc⟩:=h;obtain⟨i0,hi,hz0,hz1,hz2⟩:=info_parts iy;go_enter Tryz.func180,Tryz.ntmps180
 go_wp2
 go_loop [5] (λi=>∃k:Nat,k<=l.length/\i=.int .i64 k/\Hid (∀i,i<k->jv l i<n)) (λi=>l.length-(intOf i).toNat)
 case atStart=>exact⟨0,az _,rfl,λi h=>absurd h (by omega)⟩
 case round=>
  obtain⟨k,hk,rfl,HN⟩:=hrel;by_cases hlt:k<l.length
  .obtain⟨b,off,rfl,hcell⟩:=hc (by omega)
   have hck:=hcell k hlt;by_cases Po:jv l k<n
   .clear hcell hc
    go_wp2
    go_round
    case rel=>exact⟨k+1,by omega,by go_num,λi hi=>by
     rcases dX i k with h|h
     .exact HN.out i h
     .rw[show i=k by omega];exact Po⟩
    case measure=>simp[intOf];omega
   .by_cases heq:jv l k=n
    .have hb:(jv l k == n)=true:=by simp[heq]
     have hd:decide (jv l k<n)=false:=(by simpa using Po);have HE:=aH heq;clear heq;go_wp2
     go_ret
     refine⟨_,rfl,?_,Below.refl _ _,λb hb=>.inl hb⟩;have e:=IP hk HN.out (λ_=>by have:=HE.out;omega);rw[qz,e,if_pos ⟨hlt,HE.out⟩];exact⟨_,_,rfl,hlc,hcap,hc⟩
    .have hb:(jv l k == n)=false:=by simp[heq]
     have hd:decide (jv l k<n)=false:=(by simpa using Po);have HE:=aH heq;clear heq;have hcc:=λ(W:World) (hE:Ext w W)=>Kz hcell hE
     have HC:=aH hcc;clear hcc hcell hc;have hkc:k<=cap:=(by omega);have hkn:¬cap=k:=(by omega);go_wp2
     go_region_law (first
      |(refine iA rfl (.tmp 33) (.tmp 36) 80 rfl w.heap.size 3 i0 (.int .i64 0) 1 8 underlying80 hi hz0 hz1 hz2 rfl (by decide) (.slice (some ⟨_,0,none⟩) 0 0) 0 [] rfl (by first|exact fC _ _ (by simp) _|exact(fC _ _ (by simp) _).alloc _|exact lM _ _ _ (by simp) _) _ k _ (((l.drop 0).take k).map (Value.int .i64)) rfl (by simp;omega) (.inr ⟨⟨b,off,none⟩,rfl,by exact HC.out _ (by go_grown) 0 k (by omega)⟩) (kN _) (by unfold maxLen;omega) (by omega) (by first|(simp;done)|(simp;omega)) ?_;intro v1 w1 ho1 hg1 hl1;simp only[gK,fB]at ho1;have e1:Ext w w1:=dZ (by go_grown) hg1 (λk hk=>by simp[Value.ownBlock]at hk;omega))
      |(refine iA rfl (.tmp 37) (.tmp 39) 80 rfl w.heap.size 3 i0 (.int .i64 0) 1 8 underlying80 hi hz0 hz1 hz2 rfl (by decide) v1 k (((l.drop 0).take k).map (Value.int .i64)) rfl (by first|exact ho1|exact ho1.alloc _) _ 1 _ [Value.int .i64 n] rfl rfl (.inr ⟨_,rfl,cK (by first|exact bP _ _ _|exact qm hg1 (by first|exact bP _ _ _|exact vR _ _ _ _|exact vQ _ _ _ _) (by simp[Value.ownBlock]))⟩) one_cell (by unfold maxLen;omega) (by omega) (by have:=e1.size;first|omega|(simp;omega)) ?_;intro v2 w2 ho2 hg2 hl2;have e2:Ext w w2:=dZ (by first|exact e1|exact bK e1 _) hg2 (λk hk=>(ho1.lt k hk).1))
      |(refine iA rfl (.tmp 40) (.tmp 43) 80 rfl w.heap.size 3 i0 (.int .i64 0) 1 8 underlying80 hi hz0 hz1 hz2 rfl (by decide) v2 (k+1) (((l.drop 0).take k).map (Value.int .i64)++[Value.int .i64 n]) rfl ho2 _ (l.length-k) _ (((l.drop k).take (l.length-k)).map (Value.int .i64)) rfl (by simp) (.inr ⟨⟨b,off+k,none⟩,rfl,HC.out _ e2 k (l.length-k) (by omega)⟩) (kN _) (by unfold maxLen;omega) (by omega) e2.size ?_;intro v3 w3 ho3 hg3 hl3;have e3:Ext w w3:=dZ e2 hg3 (λk hk=>(ho2.lt k hk).1)))
     all_goals go_wp2
     all_goals go_ret
     all_goals exact⟨_,rfl,yx hk HN.out (λ_=>by have:=HE.out;omega) hsz ho3,e3,λb hb=>.inr (ho3.lt b hb)⟩
  .by_cases h0:0<l.length
   .obtain⟨b,off,rfl,hcell⟩:=hc h0
    have hcc:=λ(W:World) (hE:Ext w W)=>Kz hcell hE
    have HC:=aH hcc;have hke:k=l.length:=(by omega);have HK:=aH hke;clear hcc hcell hc;subst hke;go_wp2
    go_region_law (first
     |(refine iA rfl (.tmp 33) (.tmp 36) 80 rfl w.heap.size 3 i0 (.int .i64 0) 1 8 underlying80 hi hz0 hz1 hz2 rfl (by decide) (.slice (some ⟨_,0,none⟩) 0 0) 0 [] rfl (by first|exact fC _ _ (by simp) _|exact(fC _ _ (by simp) _).alloc _|exact lM _ _ _ (by simp) _) _ l.length _ (((l.drop 0).take l.length).map (Value.int .i64)) rfl (by simp) (.inr ⟨⟨b,off,none⟩,rfl,HC.out _ (by go_grown) 0 l.length (by omega)⟩) (kN _) (by unfold maxLen;omega) (by omega) (by first|(simp;done)|(simp;omega)) ?_;intro v1 w1 ho1 hg1 hl1;simp only[gK,fB]at ho1;have e1:Ext w w1:=dZ (by go_grown) hg1 (λk hk=>by simp[Value.ownBlock]at hk;omega))
     |(refine iA rfl (.tmp 37) (.tmp 39) 80 rfl w.heap.size 3 i0 (.int .i64 0) 1 8 underlying80 hi hz0 hz1 hz2 rfl (by decide) v1 l.length (((l.drop 0).take l.length).map (Value.int .i64)) rfl (by first|exact ho1|exact ho1.alloc _) _ 1 _ [Value.int .i64 n] rfl rfl (.inr ⟨_,rfl,cK (by first|exact bP _ _ _|exact qm hg1 (by first|exact bP _ _ _|exact vR _ _ _ _|exact vQ _ _ _ _) (by simp[Value.ownBlock]))⟩) one_cell (by unfold maxLen;omega) (by omega) (by have:=e1.size;first|omega|(simp;omega)) ?_;intro v2 w2 ho2 hg2 hl2;have e2:Ext w w2:=dZ (by first|exact e1|exact bK e1 _) hg2 (λk hk=>(ho1.lt k hk).1))
     |(refine iA rfl (.tmp 40) (.tmp 43) 80 rfl w.heap.size 3 i0 (.int .i64 0) 1 8 underlying80 hi hz0 hz1 hz2 rfl (by decide) v2 (l.length+1) (((l.drop 0).take l.length).map (Value.int .i64)++[Value.int .i64 n]) rfl ho2 _ 0 _ [] rfl (by simp) (.inl rfl) (by simp) (by unfold maxLen;omega) (by omega) e2.size ?_;intro v3 w3 ho3 hg3 hl3;have e3:Ext w w3:=dZ e2 hg3 (λk hk=>(ho2.lt k hk).1)))
    all_goals go_wp2
    all_goals go_ret
    all_goals exact⟨_,rfl,yx (k:=l.length) (ai _) HN.out (λh=>absurd h (by omega)) hsz (B:=w.heap.size) (e:=3) (v:=v3) (N:=l.length+1) (by simpa using ho3),e3,λb hb=>.inr (ho3.lt b hb)⟩
   .have hl0:l=[]:=fE (by omega)
    subst hl0;have hk0:k=0:=(by simpa using hk);subst hk0;cases a with
    |none=>
     go_wp2
     go_region_law (first
      |(refine iA rfl (.tmp 33) (.tmp 36) 80 rfl w.heap.size 3 i0 (.int .i64 0) 1 8 underlying80 hi hz0 hz1 hz2 rfl (by decide) (.slice (some ⟨_,0,none⟩) 0 0) 0 [] rfl (by first|exact fC _ _ (by simp) _|exact(fC _ _ (by simp) _).alloc _|exact lM _ _ _ (by simp) _) _ 0 _ [] rfl (by simp) (.inl rfl) (by simp) (by unfold maxLen;omega) (by omega) (by first|(simp;done)|(simp;omega)) ?_;intro v1 w1 ho1 hg1 hl1;simp only[kS,bq]at ho1;have e1:Ext w w1:=dZ (by go_grown) hg1 (λk hk=>by simp[Value.ownBlock]at hk;omega))
      |(refine iA rfl (.tmp 37) (.tmp 39) 80 rfl w.heap.size 3 i0 (.int .i64 0) 1 8 underlying80 hi hz0 hz1 hz2 rfl (by decide) v1 0 [] rfl (by first|exact ho1|exact ho1.alloc _) _ 1 _ [Value.int .i64 n] rfl rfl (.inr ⟨_,rfl,cK (by first|exact bP _ _ _|exact qm hg1 (by first|exact bP _ _ _|exact vR _ _ _ _|exact vQ _ _ _ _) (by simp[Value.ownBlock]))⟩) one_cell (by unfold maxLen;omega) (by omega) (by have:=e1.size;first|omega|(simp;omega)) ?_;intro v2 w2 ho2 hg2 hl2;simp only[gK,fB]at ho2;have e2:Ext w w2:=dZ (by first|exact e1|exact bK e1 _) hg2 (λk hk=>(ho1.lt k hk).1))
      |(refine iA rfl (.tmp 40) (.tmp 43) 80 rfl w.heap.size 3 i0 (.int .i64 0) 1 8 underlying80 hi hz0 hz1 hz2 rfl (by decide) v2 1 [Value.int .i64 n] rfl ho2 _ 0 _ [] rfl (by simp) (.inl rfl) (by simp) (by unfold maxLen;omega) (by omega) e2.size ?_;intro v3 w3 ho3 hg3 hl3;have e3:Ext w w3:=dZ e2 hg3 (λk hk=>(ho2.lt k hk).1)))
     all_goals go_wp2
     all_goals go_ret
     all_goals exact⟨_,rfl,yx (l:=[]) (k:=0) (ai _) (λi h=>absurd h (by omega)) (λh=>absurd h (by simp)) (by simp) (B:=w.heap.size) (e:=3) (v:=v3) (N:=1) (by simpa using ho3),e3,λb hb=>.inr (ho3.lt b hb)⟩
    |some ad=>
     go_wp2
     go_region_law (first
      |(refine iA rfl (.tmp 33) (.tmp 36) 80 rfl w.heap.size 3 i0 (.int .i64 0) 1 8 underlying80 hi hz0 hz1 hz2 rfl (by decide) (.slice (some ⟨_,0,none⟩) 0 0) 0 [] rfl (by first|exact fC _ _ (by simp) _|exact(fC _ _ (by simp) _).alloc _|exact lM _ _ _ (by simp) _) _ 0 _ [] rfl (by simp) (.inl rfl) (by simp) (by unfold maxLen;omega) (by omega) (by first|(simp;done)|(simp;omega)) ?_;intro v1 w1 ho1 hg1 hl1;simp only[kS,bq]at ho1;have e1:Ext w w1:=dZ (by go_grown) hg1 (λk hk=>by simp[Value.ownBlock]at hk;omega))
      |(refine iA rfl (.tmp 37) (.tmp 39) 80 rfl w.heap.size 3 i0 (.int .i64 0) 1 8 underlying80 hi hz0 hz1 hz2 rfl (by decide) v1 0 [] rfl (by first|exact ho1|exact ho1.alloc _) _ 1 _ [Value.int .i64 n] rfl rfl (.inr ⟨_,rfl,cK (by first|exact bP _ _ _|exact qm hg1 (by first|exact bP _ _ _|exact vR _ _ _ _|exact vQ _ _ _ _) (by simp[Value.ownBlock]))⟩) one_cell (by unfold maxLen;omega) (by omega) (by have:=e1.size;first|omega|(simp;omega)) ?_;intro v2 w2 ho2 hg2 hl2;simp only[gK,fB]at ho2;have e2:Ext w w2:=dZ (by first|exact e1|exact bK e1 _) hg2 (λk hk=>(ho1.lt k hk).1))
      |(refine iA rfl (.tmp 40) (.tmp 43) 80 rfl w.heap.size 3 i0 (.int .i64 0) 1 8 underlying80 hi hz0 hz1 hz2 rfl (by decide) v2 1 [Value.int .i64 n] rfl ho2 _ 0 _ [] rfl (by simp) (.inl rfl) (by simp) (by unfold maxLen;omega) (by omega) e2.size ?_;intro v3 w3 ho3 hg3 hl3;have e3:Ext w w3:=dZ e2 hg3 (λk hk=>(ho2.lt k hk).1)))
     all_goals go_wp2
     all_goals go_ret
     all_goals exact⟨_,rfl,yx (l:=[]) (k:=0) (ai _) (λi h=>absurd h (by omega)) (λh=>absurd h (by simp)) (by simp) (B:=w.heap.size) (e:=3) (v:=v3) (N:=1) (by simpa using ho3),e3,λb hb=>.inr (ho3.lt b hb)⟩
end
end Go.Proofs.YteknjeohbcgpdaaGreatDoor