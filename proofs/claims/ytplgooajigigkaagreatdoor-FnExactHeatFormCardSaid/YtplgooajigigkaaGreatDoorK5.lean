/- 5 -/
import Derived.Test.YtplgooajigigkaaGreatDoorK2
import Derived.Test.YtplgooajigigkaaGreatDoorK4
import Derived.Deep.RegionLaw
import Derived.Handy
set_option maxRecDepth 100000
set_option maxHeartbeats 4000000
namespace Go.Proofs.YtplgooajigigkaaGreatDoor
open Tryz
section
open Go.RowKit
variable {P:Program} {w:World} {o:Oper} {a:Act} {K:Act->World->Prop} {Q:Exit->Act->World->Prop} {ops:Array Oper}
def pX(w:World)(v v':Value):Prop:=v'.ownBlock=v.ownBlock\/∃g,v'.ownBlock=some g/\w.heap.size<=g
theorem abm(w:World)(base:Nat)(t ty e:TypeId)(i:TypeInfo)(z:Value)(size bytes:Nat)(ht:P.underlying t=some (.slice e))(hi:P.info? e=some i)(hz:i.zero=some z)
 (hsize:i.size=size) (hby:i.bytes=bytes) (hzs:z.cells.size=size) (hsz:0<size)
 (v:Value) (n:Nat) (xs:List Value) (hown:w.ownsRow base e size v n xs)
 (ao:Option Addr) (m c:Nat) (news:List Value) (hl:news.length=m*size) (hsrc:m=0\/∃ad,ao=some ad/\∀j u,news[j]?=some u->w.cell? (ad.add j)=some u) (h1:∀u∈news,u.oneCell'=true)
 (h63:n+m<=maxLen) (hbytes:(n+m)*bytes<=140737488355328) (hbase:base<=w.heap.size):
 ∃v' w',(Builtin.append_ #[t,t] ty #[v,.slice ao m c]).run P w=.ok v' w'/\w'.ownsRow base e size v' (n+m) (xs++news)/\w.grownBy w' v.ownBlock/\pX w v v':=by
 subst hsize;subst hby
 by_cases hm:m=0
 .subst hm
  have hn:news=[]:=eP (by simpa using hl);subst hn;refine⟨v,w,?_,by simpa using hown,⟨rfl,rfl,rfl,aJ _,λ_ _ _=>rfl⟩,.inl rfl⟩;rcases hown.2 with⟨rfl,h0⟩|⟨g,cap,cur,rfl,hbg,hg,hnc,hcm,hcs,htake⟩
  .subst h0
   cases ao <;> simp[Builtin.append_,run_underlying ht,sizeOf,typeInfo,hi,Builtin.lenOf,Builtin.firstCells,loadCells,loadCellsFrom]
  .cases ao <;> simp[Builtin.append_,run_underlying ht,sizeOf,typeInfo,hi,Builtin.lenOf,Builtin.firstCells,loadCells,loadCellsFrom,hnc,storeCells]
 .obtain⟨ad,rfl,hnews⟩:=hsrc.resolve_left hm
  obtain⟨v',w',hr,h2,h3,h4⟩:=run_append_own (P:=P) w base t ty e i z i.size i.bytes ht hi hz rfl rfl hzs hsz v n xs hown ad m c news hl hnews h1 h63 hbytes hbase;refine⟨v',w',hr,h2,h3,?_⟩;have zz:maxLen=9223372036854775807:=by simp[maxLen]
  rcases hown.2 with⟨rfl,h0⟩|⟨g,cap,cur,rfl,hbg,hg,hnc,hcm,hcs,htake⟩
  .subst h0
   have hr2:=run_append_nil (P:=P) (w:=w) t ty e i z ht hi hz ad m c news hl hnews (by omega) (by omega) (by simp only[fI]at hbytes;omega);rw[hr]at hr2;injection hr2 with hv hw;subst hv;exact .inr ⟨_,rfl,aJ _⟩
  .by_cases hroom:n+m<=cap
   .have hfit:n*i.size+news.length<=cur.size:=by rw[hl,hcs,<-rW];exact jC _ hroom
    have hr2:=run_append_room (P:=P) (w:=w) t ty e i ht hi g n cap cur hg ad m c news hl hnews h1 hroom hfit;rw[hr]at hr2;injection hr2 with hv hw;subst hv;exact .inl rfl
   .have hr2:=run_append_grow (P:=P) (w:=w) t ty e i z ht hi hz ⟨g,0,none⟩ n cap xs hown.1 (hown.cells (g:=g) rfl) ad m c news hl hnews (by omega) (by omega) (growslice_fits (by omega) hbytes)
    rw[hr]at hr2;injection hr2 with hv hw;subst hv;exact .inr ⟨_,rfl,aJ _⟩
theorem Yy(s x:Operand)(t:TypeId)
 (ho:o.op=.call { callee:=.builtin .append,args:=#[s,x],argTypes:=#[t,t] })
 (base:Nat) (e:TypeId) (i:TypeInfo) (z:Value) (size bytes:Nat) (ht:P.underlying t=some (.slice e)) (hi:P.info? e=some i) (hz:i.zero=some z)
 (hsize:i.size=size) (hby:i.bytes=bytes) (hzs:z.cells.size=size) (hsz:0<size)
 (v:Value) (n:Nat) (xs:List Value) (hs:a.eval s=v) (hown:w.ownsRow base e size v n xs)
 (ao:Option Addr) (m c:Nat) (news:List Value) (hx:a.eval x=.slice ao m c) (hl:news.length=m*size) (hsrc:m=0\/∃ad,ao=some ad/\∀j u,news[j]?=some u->w.cell? (ad.add j)=some u) (h1:∀u∈news,u.oneCell'=true)
 (h63:n+m<=maxLen) (hbytes:(n+m)*bytes<=140737488355328) (hbase:base<=w.heap.size)
 (h:∀v' w',w'.ownsRow base e size v' (n+m) (xs++news)->w.grownBy w' v.ownBlock->pX w v v'->K (a.put o.dst v') w'):o.wp P a w K Q:=by
 obtain⟨v',w',hr,h2,h3,h4⟩:=abm (P:=P) w base t o.type e i z size bytes ht hi hz hsize hby hzs hsz v n xs hown ao m c news hl hsrc h1 h63 hbytes hbase;unfold Oper.wp execOp;simp only[ho,resolve,invoke,builtin,Sem.run_bind,Sem.run_pure,Result.andThen_ok,List.map_toArray,List.map_cons,List.map_nil,hs,hx,hr];exact h v' w' h2 h3 h4
theorem eO{rest:List Oper}(hgd:o.guard=none)(s x:Operand)(t:TypeId)
 (ho:o.op=.call { callee:=.builtin .append,args:=#[s,x],argTypes:=#[t,t] })
 (base:Nat) (e:TypeId) (i:TypeInfo) (z:Value) (size bytes:Nat) (ht:P.underlying t=some (.slice e)) (hi:P.info? e=some i) (hz:i.zero=some z)
 (hsize:i.size=size) (hby:i.bytes=bytes) (hzs:z.cells.size=size) (hsz:0<size)
 (v:Value) (n:Nat) (xs:List Value) (hs:a.eval s=v) (hown:w.ownsRow base e size v n xs)
 (ao:Option Addr) (m c:Nat) (news:List Value) (hx:a.eval x=.slice ao m c) (hl:news.length=m*size) (hsrc:m=0\/∃ad,ao=some ad/\∀j u,news[j]?=some u->w.cell? (ad.add j)=some u) (h1:∀u∈news,u.oneCell'=true)
 (h63:n+m<=maxLen) (hbytes:(n+m)*bytes<=140737488355328) (hbase:base<=w.heap.size)
 (h:∀v' w',w'.ownsRow base e size v' (n+m) (xs++news)->w.grownBy w' v.ownBlock->pX w v v'->wpList P ops Q rest (a.put o.dst v') w'):wpList P ops Q (o :: rest) a w:=
 wpList_plain hgd λ_ hK=>Yy s x t ho base e i z size bytes ht hi hz hsize hby hzs hsz v n xs hs hown ao m c news hx hl hsrc h1 h63 hbytes hbase λv' w' h2 h3 h4=>hK _ _ (h v' w' h2 h3 h4)
theorem jf{E:Prop}(hgd:o.guard=none)(s x:Operand)(t:TypeId)
 (ho:o.op=.call { callee:=.builtin .append,args:=#[s,x],argTypes:=#[t,t] })
 (base:Nat) (e:TypeId) (i:TypeInfo) (z:Value) (size bytes:Nat) (ht:P.underlying t=some (.slice e)) (hi:P.info? e=some i) (hz:i.zero=some z)
 (hsize:i.size=size) (hby:i.bytes=bytes) (hzs:z.cells.size=size) (hsz:0<size)
 (v:Value) (n:Nat) (xs:List Value) (hs:a.eval s=v) (hown:w.ownsRow base e size v n xs)
 (ao:Option Addr) (m c:Nat) (news:List Value) (hx:a.eval x=.slice ao m c) (hl:news.length=m*size) (hsrc:m=0\/∃ad,ao=some ad/\∀j u,news[j]?=some u->w.cell? (ad.add j)=some u) (h1:∀u∈news,u.oneCell'=true)
 (h63:n+m<=maxLen) (hbytes:(n+m)*bytes<=140737488355328) (hbase:base<=w.heap.size)
 (h:∀v' w',w'.ownsRow base e size v' (n+m) (xs++news)->w.grownBy w' v.ownBlock->pX w v v'->K (a.put o.dst v') w'):if Region.wanted o (yielded ops a.tmps)=true then Oper.wp P o a w K Q else E:=by
 have hw:Region.wanted o (yielded ops a.tmps)=true:=by simp[Region.wanted,hgd]
 rw[if_pos hw];exact Yy s x t ho base e i z size bytes ht hi hz hsize hby hzs hsz v n xs hs hown ao m c news hx hl hsrc h1 h63 hbytes hbase h
end
section
open Go.RowKit
variable {l:List Int} {n:Int} {k:Nat}
def putAt(l:List Int)(n:Int):Nat:=(l.takeWhile λx=>decide (x<n)).length
def um(l:List Int)(n:Int):List Int:=
 if putAt l n<l.length/\jl l (putAt l n)=n then l else l.take (putAt l n)++[n]++l.drop (putAt l n)
theorem K7(hk:k<=l.length)(h1:∀i,i<k->jl l i<n)(h2:k<l.length->n<=jl l k):putAt l n=k:=by
 induction l generalizing k with
 |nil=>simp at hk;subst hk;rfl
 |cons x l ih=>
  cases k with
  |zero=>
   have:=h2 (by simp);simp[jl]at this;simp[putAt,List.takeWhile_cons];omega
  |succ k=>
   have h0:=h1 0 (by omega);simp[jl]at h0;have e:=ih (k:=k) (by simpa using hk) (λi hi=>by have:=h1 (i+1) (by omega);simpa [jl]using this) (λh=>by have:=h2 (by simpa using h);simpa [jl]using this);simp[putAt,h0]at e ⊢;exact e
def YL(w w':World)(v v':Value):Prop:=∀b,v'.ownBlock=some b->v.ownBlock=some b\/(w.heap.size<=b/\b<w'.heap.size)
theorem AZ{W:World}{B:Nat}{e:TypeId}{v:Value}{N:Nat}(hk:k<=l.length)(h1:∀i,i<k->jl l i<n)(h2:k<l.length->n<jl l k)(hsz:l.length<=1000000000)
 (ho:W.ownsRow B e 1 v N (((((l.drop 0).take k).map (Value.int .i64))++[Value.int .i64 n])++((l.drop k).take (l.length-k)).map (Value.int .i64))):Ints W v (um l n):=by
 have ea:=K7 hk h1 (λh=>by have:=h2 h;omega);have ep:um l n=l.take k++[n]++l.drop k:=by
  rw[um,ea,if_neg (λh=>by have:=h2 h.1;omega)]
 rw[ep];refine Ints.gm (B:=B) (e:=e) (n:=N) ?_ (by simp;omega);have e1:(l.drop k).take (l.length-k)=l.drop k:=dJ (by simp);rw[e1]at ho
 simpa using ho
theorem vz(v:Value)(l:List Int)(n:Int)(w:World)(h:Ints w v l)(hsz:l.length<=1000000000):
 Calls prog 161 #[v,.int .i64 n] w λe w'=>∃v',e=.returned v'/\Ints w' v' (um l n)/\Ext w w'/\YL w w' v v':=by
 obtain⟨a,cap,rfl,hlc,hcap,hc⟩:=h;obtain⟨i0,hi,hz0,hz1,hz2⟩:=info_parts iU;go_enter Tryz.func161,Tryz.ntmps161
 go_wp2
 go_loop [5] (λi=>∃k:Nat,k<=l.length/\i=.int .i64 k/\Hid (∀i,i<k->jl l i<n)) (λi=>l.length-(intOf i).toNat)
 case atStart=>exact⟨0,aU _,rfl,λi h=>absurd h (by omega)⟩
 case round=>
  obtain⟨k,hk,rfl,HN⟩:=hrel;by_cases hlt:k<l.length
  .obtain⟨b,off,rfl,hcell⟩:=hc (by omega)
   have hck:=hcell k hlt;by_cases Tt:jl l k<n
   .clear hcell hc
    go_wp2
    go_round
    case rel=>exact⟨k+1,by omega,by go_num,λi hi=>by
     rcases ib i k with h|h
     .exact HN.out i h
     .rw[show i=k by omega];exact Tt⟩
    case measure=>simp[intOf];omega
   .by_cases heq:jl l k=n
    .have hb:(jl l k == n)=true:=by simp[heq]
     have hd:decide (jl l k<n)=false:=(by simpa using Tt);have HE:=aW heq;clear heq;go_wp2
     go_ret
     refine⟨_,rfl,?_,gz _ _,λb hb=>.inl hb⟩;have e:=K7 hk HN.out (λ_=>by have:=HE.out;omega);rw[um,e,if_pos ⟨hlt,HE.out⟩];exact⟨_,_,rfl,hlc,hcap,hc⟩
    .have hb:(jl l k == n)=false:=by simp[heq]
     have hd:decide (jl l k<n)=false:=(by simpa using Tt);have HE:=aW heq;clear heq;have hcc:=λ(W:World) (hE:Ext w W)=>Nz hcell hE
     have HC:=aW hcc;clear hcc hcell hc;have hkc:k<=cap:=(by omega);have hkn:¬cap=k:=(by omega);go_wp2
     go_region_law (first
      |(refine jf rfl (.tmp 33) (.tmp 36) 41 rfl w.heap.size 3 i0 (.int .i64 0) 1 8 underlying41 hi hz0 hz1 hz2 rfl (by decide) (.slice (some ⟨_,0,none⟩) 0 0) 0 [] rfl (by first|exact iB _ _ (by simp) _|exact(iB _ _ (by simp) _).alloc _|exact og _ _ _ (by simp) _) _ k _ (((l.drop 0).take k).map (Value.int .i64)) rfl (by simp;omega) (.inr ⟨⟨b,off,none⟩,rfl,by exact HC.out _ (by go_grown) 0 k (by omega)⟩) (lZ _) (by unfold maxLen;omega) (by omega) (by first|(simp;done)|(simp;omega)) ?_;intro v1 w1 ho1 hg1 hl1;simp only[fI,iQ]at ho1;have e1:Ext w w1:=eU (by go_grown) hg1 (λk hk=>by simp[Value.ownBlock]at hk;omega))
      |(refine jf rfl (.tmp 37) (.tmp 39) 41 rfl w.heap.size 3 i0 (.int .i64 0) 1 8 underlying41 hi hz0 hz1 hz2 rfl (by decide) v1 k (((l.drop 0).take k).map (Value.int .i64)) rfl (by first|exact ho1|exact ho1.alloc _) _ 1 _ [Value.int .i64 n] rfl rfl (.inr ⟨_,rfl,fD (by first|exact dW _ _ _|exact xh hg1 (by first|exact dW _ _ _|exact yX _ _ _ _|exact yV _ _ _ _) (by simp[Value.ownBlock]))⟩) one_cell (by unfold maxLen;omega) (by omega) (by have:=e1.size;first|omega|(simp;omega)) ?_;intro v2 w2 ho2 hg2 hl2;have e2:Ext w w2:=eU (by first|exact e1|exact bY e1 _) hg2 (λk hk=>(ho1.lt k hk).1))
      |(refine jf rfl (.tmp 40) (.tmp 43) 41 rfl w.heap.size 3 i0 (.int .i64 0) 1 8 underlying41 hi hz0 hz1 hz2 rfl (by decide) v2 (k+1) (((l.drop 0).take k).map (Value.int .i64)++[Value.int .i64 n]) rfl ho2 _ (l.length-k) _ (((l.drop k).take (l.length-k)).map (Value.int .i64)) rfl (by simp) (.inr ⟨⟨b,off+k,none⟩,rfl,HC.out _ e2 k (l.length-k) (by omega)⟩) (lZ _) (by unfold maxLen;omega) (by omega) e2.size ?_;intro v3 w3 ho3 hg3 hl3;have e3:Ext w w3:=eU e2 hg3 (λk hk=>(ho2.lt k hk).1)))
     all_goals go_wp2
     all_goals go_ret
     all_goals exact⟨_,rfl,AZ hk HN.out (λ_=>by have:=HE.out;omega) hsz ho3,e3,λb hb=>.inr (ho3.lt b hb)⟩
  .by_cases h0:0<l.length
   .obtain⟨b,off,rfl,hcell⟩:=hc h0
    have hcc:=λ(W:World) (hE:Ext w W)=>Nz hcell hE
    have HC:=aW hcc;have hke:k=l.length:=(by omega);have HK:=aW hke;clear hcc hcell hc;subst hke;go_wp2
    go_region_law (first
     |(refine jf rfl (.tmp 33) (.tmp 36) 41 rfl w.heap.size 3 i0 (.int .i64 0) 1 8 underlying41 hi hz0 hz1 hz2 rfl (by decide) (.slice (some ⟨_,0,none⟩) 0 0) 0 [] rfl (by first|exact iB _ _ (by simp) _|exact(iB _ _ (by simp) _).alloc _|exact og _ _ _ (by simp) _) _ l.length _ (((l.drop 0).take l.length).map (Value.int .i64)) rfl (by simp) (.inr ⟨⟨b,off,none⟩,rfl,HC.out _ (by go_grown) 0 l.length (by omega)⟩) (lZ _) (by unfold maxLen;omega) (by omega) (by first|(simp;done)|(simp;omega)) ?_;intro v1 w1 ho1 hg1 hl1;simp only[fI,iQ]at ho1;have e1:Ext w w1:=eU (by go_grown) hg1 (λk hk=>by simp[Value.ownBlock]at hk;omega))
     |(refine jf rfl (.tmp 37) (.tmp 39) 41 rfl w.heap.size 3 i0 (.int .i64 0) 1 8 underlying41 hi hz0 hz1 hz2 rfl (by decide) v1 l.length (((l.drop 0).take l.length).map (Value.int .i64)) rfl (by first|exact ho1|exact ho1.alloc _) _ 1 _ [Value.int .i64 n] rfl rfl (.inr ⟨_,rfl,fD (by first|exact dW _ _ _|exact xh hg1 (by first|exact dW _ _ _|exact yX _ _ _ _|exact yV _ _ _ _) (by simp[Value.ownBlock]))⟩) one_cell (by unfold maxLen;omega) (by omega) (by have:=e1.size;first|omega|(simp;omega)) ?_;intro v2 w2 ho2 hg2 hl2;have e2:Ext w w2:=eU (by first|exact e1|exact bY e1 _) hg2 (λk hk=>(ho1.lt k hk).1))
     |(refine jf rfl (.tmp 40) (.tmp 43) 41 rfl w.heap.size 3 i0 (.int .i64 0) 1 8 underlying41 hi hz0 hz1 hz2 rfl (by decide) v2 (l.length+1) (((l.drop 0).take l.length).map (Value.int .i64)++[Value.int .i64 n]) rfl ho2 _ 0 _ [] rfl (by simp) (.inl rfl) (by simp) (by unfold maxLen;omega) (by omega) e2.size ?_;intro v3 w3 ho3 hg3 hl3;have e3:Ext w w3:=eU e2 hg3 (λk hk=>(ho2.lt k hk).1)))
    all_goals go_wp2
    all_goals go_ret
    all_goals exact⟨_,rfl,AZ (k:=l.length) (aJ _) HN.out (λh=>absurd h (by omega)) hsz (B:=w.heap.size) (e:=3) (v:=v3) (N:=l.length+1) (by simpa using ho3),e3,λb hb=>.inr (ho3.lt b hb)⟩
   .have hl0:l=[]:=eP (by omega)
    subst hl0;have hk0:k=0:=(by simpa using hk);subst hk0;cases a with
    |none=>
     go_wp2
     go_region_law (first
      |(refine jf rfl (.tmp 33) (.tmp 36) 41 rfl w.heap.size 3 i0 (.int .i64 0) 1 8 underlying41 hi hz0 hz1 hz2 rfl (by decide) (.slice (some ⟨_,0,none⟩) 0 0) 0 [] rfl (by first|exact iB _ _ (by simp) _|exact(iB _ _ (by simp) _).alloc _|exact og _ _ _ (by simp) _) _ 0 _ [] rfl (by simp) (.inl rfl) (by simp) (by unfold maxLen;omega) (by omega) (by first|(simp;done)|(simp;omega)) ?_;intro v1 w1 ho1 hg1 hl1;simp only[qy,gN]at ho1;have e1:Ext w w1:=eU (by go_grown) hg1 (λk hk=>by simp[Value.ownBlock]at hk;omega))
      |(refine jf rfl (.tmp 37) (.tmp 39) 41 rfl w.heap.size 3 i0 (.int .i64 0) 1 8 underlying41 hi hz0 hz1 hz2 rfl (by decide) v1 0 [] rfl (by first|exact ho1|exact ho1.alloc _) _ 1 _ [Value.int .i64 n] rfl rfl (.inr ⟨_,rfl,fD (by first|exact dW _ _ _|exact xh hg1 (by first|exact dW _ _ _|exact yX _ _ _ _|exact yV _ _ _ _) (by simp[Value.ownBlock]))⟩) one_cell (by unfold maxLen;omega) (by omega) (by have:=e1.size;first|omega|(simp;omega)) ?_;intro v2 w2 ho2 hg2 hl2;simp only[fI,iQ]at ho2;have e2:Ext w w2:=eU (by first|exact e1|exact bY e1 _) hg2 (λk hk=>(ho1.lt k hk).1))
      |(refine jf rfl (.tmp 40) (.tmp 43) 41 rfl w.heap.size 3 i0 (.int .i64 0) 1 8 underlying41 hi hz0 hz1 hz2 rfl (by decide) v2 1 [Value.int .i64 n] rfl ho2 _ 0 _ [] rfl (by simp) (.inl rfl) (by simp) (by unfold maxLen;omega) (by omega) e2.size ?_;intro v3 w3 ho3 hg3 hl3;have e3:Ext w w3:=eU e2 hg3 (λk hk=>(ho2.lt k hk).1)))
     all_goals go_wp2
     all_goals go_ret
     all_goals exact⟨_,rfl,AZ (l:=[]) (k:=0) (aJ _) (λi h=>absurd h (by omega)) (λh=>absurd h (by simp)) (by simp) (B:=w.heap.size) (e:=3) (v:=v3) (N:=1) (by simpa using ho3),e3,λb hb=>.inr (ho3.lt b hb)⟩
    |some ad=>
     go_wp2
     go_region_law (first
      |(refine jf rfl (.tmp 33) (.tmp 36) 41 rfl w.heap.size 3 i0 (.int .i64 0) 1 8 underlying41 hi hz0 hz1 hz2 rfl (by decide) (.slice (some ⟨_,0,none⟩) 0 0) 0 [] rfl (by first|exact iB _ _ (by simp) _|exact(iB _ _ (by simp) _).alloc _|exact og _ _ _ (by simp) _) _ 0 _ [] rfl (by simp) (.inl rfl) (by simp) (by unfold maxLen;omega) (by omega) (by first|(simp;done)|(simp;omega)) ?_;intro v1 w1 ho1 hg1 hl1;simp only[qy,gN]at ho1;have e1:Ext w w1:=eU (by go_grown) hg1 (λk hk=>by simp[Value.ownBlock]at hk;omega))
      |(refine jf rfl (.tmp 37) (.tmp 39) 41 rfl w.heap.size 3 i0 (.int .i64 0) 1 8 underlying41 hi hz0 hz1 hz2 rfl (by decide) v1 0 [] rfl (by first|exact ho1|exact ho1.alloc _) _ 1 _ [Value.int .i64 n] rfl rfl (.inr ⟨_,rfl,fD (by first|exact dW _ _ _|exact xh hg1 (by first|exact dW _ _ _|exact yX _ _ _ _|exact yV _ _ _ _) (by simp[Value.ownBlock]))⟩) one_cell (by unfold maxLen;omega) (by omega) (by have:=e1.size;first|omega|(simp;omega)) ?_;intro v2 w2 ho2 hg2 hl2;simp only[fI,iQ]at ho2;have e2:Ext w w2:=eU (by first|exact e1|exact bY e1 _) hg2 (λk hk=>(ho1.lt k hk).1))
      |(refine jf rfl (.tmp 40) (.tmp 43) 41 rfl w.heap.size 3 i0 (.int .i64 0) 1 8 underlying41 hi hz0 hz1 hz2 rfl (by decide) v2 1 [Value.int .i64 n] rfl ho2 _ 0 _ [] rfl (by simp) (.inl rfl) (by simp) (by unfold maxLen;omega) (by omega) e2.size ?_;intro v3 w3 ho3 hg3 hl3;have e3:Ext w w3:=eU e2 hg3 (λk hk=>(ho2.lt k hk).1)))
     all_goals go_wp2
     all_goals go_ret
     all_goals exact⟨_,rfl,AZ (l:=[]) (k:=0) (aJ _) (λi h=>absurd h (by omega)) (λh=>absurd h (by simp)) (by simp) (B:=w.heap.size) (e:=3) (v:=v3) (N:=1) (by simpa using ho3),e3,λb hb=>.inr (ho3.lt b hb)⟩
end
section
open Go.RowKit
def kL(l:List Int):List Int:=l.foldl um []
theorem zV(l:List Int)(x:Int):kL (l++[x])=um (kL l) x:=by simp[kL]
theorem VF(l:List Int)(x:Int):(um l x).length<=l.length+1:=by
 unfold um;split
 .omega
 .have:putAt l x<=l.length:=(List.takeWhile_sublist _).length_le
  simp;omega
theorem uW(l:List Int):(kL l).length<=l.length:=by
 have main:∀(l acc:List Int),(l.foldl um acc).length<=acc.length+l.length:=by
  intro l
  induction l with
  |nil=>intro acc;simp
  |cons x l ih=>intro acc;have:=ih (um acc x);have:=VF acc x;simp;omega
 have:=main l []
 simpa [kL]using this
theorem vk{N:Nat}{w w':World}{v v':Value}(h:∀b,v.ownBlock=some b->N<=b/\b<w.heap.size)(hN:N<=w.heap.size)(hs:w.heap.size<=w'.heap.size)(hn:YL w w' v v'):∀b,v'.ownBlock=some b->N<=b/\b<w'.heap.size:=by
 intro b hb;rcases hn b hb with h1|h1
 .have:=h b h1;omega
 .omega
theorem Bw(v:Value)(l:List Int)(w:World)(h:Ints w v l)(hsz:l.length<=1000000000):
 Calls prog 120 #[v] w λe w'=>∃v',e=.returned v'/\Ints w' v' (kL l)/\Ext w w'/\(∀b,v'.ownBlock=some b->w.heap.size<=b/\b<w'.heap.size):=by
 obtain⟨a,cap,rfl,hlc,hcap,hc⟩:=h;go_enter Tryz.func120,Tryz.ntmps120
 go_wp2
 go_loopw [3,4] (λo i wr=>∃k:Nat,k<=l.length/\i=.int .i64 k/\Ints wr o (kL (l.take k))/\Ext w wr/\Hid (∀b,o.ownBlock=some b->w.heap.size<=b/\b<wr.heap.size)) (λ_ i _=>l.length-(intOf i).toNat)
 case atStart=>exact⟨0,aU _,rfl,Ints.nil _ _ _,(gz _ _).alloc (aJ _) _,λb hb=>by simp[Value.ownBlock]at hb;subst hb;simp⟩
 case round=>
  obtain⟨k,hk,rfl,hI,kP,HF⟩:=hrel;by_cases hlt:k<l.length
  .obtain⟨b,off,rfl,hcell⟩:=hc (by omega)
   have hck:=hcell k hlt;have ou:=fw kP hck;have hlen:(kL (l.take k)).length<=1000000000:=(by have:=uW (l.take k);have:=List.length_take_le k l;omega);have hsn:kL (l.take (k+1))=um (kL (l.take k)) (jl l k):=(by rw[oZ hlt,zV]);have HS:=aW hsn;clear hcell hc hck hsn;go_wp2_with (go_at_call 161;refine(vz _ _ _ _ hI hlen).mono ?_;rintro e w1 ⟨v1,rfl,hI1,hx1,hn1⟩)
   go_roundw
   case rel=>exact⟨k+1,by omega,by go_num,by rw[HS.out];exact hI1,ah kP hx1,vk HF.out kP.size hx1.size hn1⟩
   case measure=>simp[intOf];omega
  .go_wp2
   go_ret
   have e:k=l.length:=(by omega);subst e;rw[dZ]at hI;exact⟨_,rfl,hI,kP,HF.out⟩
def Kw(l p:List Int)(k:Nat):List Int:=((List.range k).filter λ(i:Nat)=>!oV p (i:Int)).map (jl l)
def tC(l p:List Int):List Int:=Kw l p l.length
theorem UY(l p:List Int)(k:Nat)(h:oV p (k:Int)=true):Kw l p (k+1)=Kw l p k:=by
 simp[Kw,List.range_succ,List.filter_append,h]
theorem Qi(l p:List Int)(k:Nat)(h:oV p (k:Int)=false):Kw l p (k+1)=Kw l p k++[jl l k]:=by
 simp[Kw,List.range_succ,List.filter_append,h]
theorem AA(l p:List Int)(k:Nat):(Kw l p k).length<=k:=by
 have:=pO (λ(i:Nat)=>!oV p (i:Int)) (List.range k);simp[Kw]at this ⊢;exact this
theorem zI(v u:Value)(l p:List Int)(w:World)(h:Ints w v l)(g:Ints w u p)(hsz:l.length<=1000000000):
 Calls prog 117 #[v,u] w λe w'=>∃v',e=.returned v'/\Ints w' v' (tC l p)/\Ext w w'/\(∀b,v'.ownBlock=some b->w.heap.size<=b/\b<w'.heap.size):=by
 obtain⟨a,cap,rfl,hlc,hcap,hc⟩:=h;obtain⟨i0,hi,hz0,hz1,hz2⟩:=info_parts iU;go_enter Tryz.func117,Tryz.ntmps117
 go_wp2
 go_loopw [5,6] (λo i wr=>∃k:Nat,k<=l.length/\i=.int .i64 k/\wr.ownsRow w.heap.size 3 1 o (Kw l p k).length ((Kw l p k).map (Value.int .i64))/\Ext w wr) (λ_ i _=>l.length-(intOf i).toNat)
 case atStart=>exact⟨0,aU _,rfl,iB w _ (aJ _) _,(gz _ _).alloc (aJ _) _⟩
 case round=>
  obtain⟨k,hk,rfl,hown,kP⟩:=hrel;by_cases hlt:k<l.length
  .obtain⟨b,off,rfl,hcell⟩:=hc (by omega)
   have hck:=hcell k hlt;have ou:=fw kP hck;have hwl:=AA l p k;have gw:=g.ext kP;clear hcell hc hck;by_cases hin:oV p (k:Int)=true
   .have HW:=aW (UY l p k hin)
    go_wp2_with (go_at_call 164;refine(sJ _ _ _ _ gw).mono ?_;rintro e w1 ⟨rfl,nn,rfl⟩)
    go_roundw
    case rel=>exact⟨k+1,by omega,by go_num,by rw[HW.out];exact own_drewN hown _,eH kP _⟩
    case measure=>simp[intOf];omega
   .have hin':oV p (k:Int)=false:=by simpa using hin
    have HW:=aW (Qi l p k hin');clear hin
    go_wp2_with (first
     |(go_at_call 164;refine(sJ _ _ _ _ gw).mono ?_;rintro e w1 ⟨rfl,nn,rfl⟩)
     |(at_builtin;refine eO rfl _ _ 41 rfl w.heap.size 3 i0 (.int .i64 0) 1 8 underlying41 hi hz0 hz1 hz2 rfl (by decide) _ _ _ rfl ((own_drewN hown nn).alloc _) _ 1 _ [Value.int .i64 (jl l k)] rfl rfl (.inr ⟨_,rfl,fD (dW _ _ _)⟩) one_cell (by unfold maxLen;omega) (by omega) (by have:=kP.size;simp;omega) ?_;intro v1 w1 ho1 hg1 _))
    go_roundw
    case rel=>
     refine⟨k+1,by omega,by go_num,?_,Eg (eH kP nn) hown hg1⟩;rw[HW.out]
     simpa using ho1
    case measure=>simp[intOf];omega
  .go_wp2
   go_ret
   have e:k=l.length:=(by omega);subst e;exact⟨_,rfl,Ints.gm (l:=Kw l p l.length) hown (by have:=AA l p l.length;omega),kP,λb hb=>hown.lt b hb⟩
end
section
open Go.RowKit
open bE
variable {l:List Nat} {w:World} {B size n pb:Nat} {e:TypeId} {v vn vb:Value} {xs:List Value} {D:dh}
def dB(l:List Nat):List Int:=l.map λ(n:Nat)=>(n:Int)
theorem bG(l:List Nat):(dB l).length=l.length:=by simp[dB]
theorem iA{k:Nat}(h:k<l.length):jl (dB l) k=(l[k]:Int):=by
 rw[rC (by rw[bG];exact h)];simp[dB]
theorem o9{x:Int}(h:x∈dB l):∃n,n∈l/\x=(n:Int):=by
 obtain⟨n,hn,rfl⟩:=az.1 h;exact⟨n,hn,rfl⟩
structure fJ(F:Nat->Prop)(w w':World):Prop where
 os:w'.os=w.os
 tape:w'.tape=w.tape
 output:w'.output=w.output
 size:w.heap.size<=w'.heap.size
 block:∀k,k<w.heap.size->¬F k->w'.heap[k]?=w.heap[k]?
theorem jR{F:Nat->Prop}{w':World}(h:Ext w w'):fJ F w w':=⟨h.os,h.tape,h.output,h.size,λk hk _=>h.block k hk⟩
theorem fJ.trans{F G:Nat->Prop}{a b c:World}(h:fJ F a b)(k:fJ G b c)(hG:∀x,x<a.heap.size->G x->F x):fJ F a c:=
 ⟨k.os.trans h.os,k.tape.trans h.tape,k.output.trans h.output,bZ h.size k.size,λx hx hf=>
  (k.block x (bg hx h.size) (λg=>hf (hG x hx g))).trans (h.block x hx hf)⟩
theorem fJ.refl(F:Nat->Prop)(w:World):fJ F w w:=⟨rfl,rfl,rfl,aJ _,λ_ _ _=>rfl⟩
theorem iy(h:w.ownsRow B e size v n xs)(hn:0<n):
 ∃g cap,v=.slice (some ⟨g,0,none⟩) n cap/\n<=cap/\cap<=maxLen/\∀j,j<n*size->w.cell? ⟨g,j,none⟩=xs[j]?:=by
 rcases h.2 with⟨rfl,h0⟩|⟨g,cap,cur,rfl,hb,hg,hnc,hcm,hcs,ht⟩
 .omega
 .exact⟨g,cap,rfl,hnc,hcm,λj hj=>World.ownsRow.cellAt h j hj⟩
theorem bT(h:w.ownsRow B e size v n xs):
 ∃a cap,v=.slice a n cap/\n<=cap/\cap<=maxLen:=by
 rcases h.2 with⟨rfl,h0⟩|⟨g,cap,cur,rfl,hb,hg,hnc,hcm,hcs,ht⟩
 .exact⟨none,0,by rw[h0],by omega,by simp[maxLen]⟩
 .exact⟨_,cap,rfl,hnc,hcm⟩
def xE(pb:Nat)(vn vb:Value)(b:Nat):Prop:=b=pb\/vn.ownBlock=some b\/vb.ownBlock=some b
structure fB(w:World)(pb:Nat)(vn vb:Value)(D:dh):Prop where
 good:bE.Good D
 small:D.length<=1000000
 cells:∃t,w.heap[pb]?=some (.cells #[vn,vb] t (0,0))
 born:w.ownsRow 0 3 1 vb D.length ((D.mapIdx λi _=>(born (vl D i):Int)).map (Value.int .i64))
 nodes:∃xs,w.ownsRow 0 91 2 vn D.length xs/\∀i (h:i<D.length),∃L R,xs[2*i]?=some L/\xs[2*i+1]?=some R/\Ints w L (dB (D[i]).1)/\Ints w R (dB (D[i]).2)/\
  (∀b,L.ownBlock=some b->¬xE pb vn vb b/\b<w.heap.size)/\(∀b,R.ownBlock=some b->¬xE pb vn vb b/\b<w.heap.size)
 xy:vn.ownBlock≠some pb
 F3:vb.ownBlock≠some pb
 FZ:∀b,vn.ownBlock=some b->vb.ownBlock≠some b
theorem fB.ext{w w':World}{pb:Nat}{vn vb:Value}{D:dh}(h:fB w pb vn vb D)(hx:Ext w w'):fB w' pb vn vb D:=by
 obtain⟨t,ht⟩:=h.cells;obtain⟨xs,ho,hn⟩:=h.nodes;refine⟨h.good,h.small,⟨t,?_⟩,dD h.born hx,⟨xs,dD ho hx,λi hi=>?_⟩,h.xy,h.F3,h.FZ⟩
 .rw[hx.block pb (iV.1 ht).1];exact ht
 .obtain⟨L,R,h1,h2,h3,h4,h5,h6⟩:=hn i hi
  exact⟨L,R,h1,h2,h3.ext hx,h4.ext hx,λb hb=>⟨(h5 b hb).1,bg (h5 b hb).2 hx.size⟩,λb hb=>⟨(h6 b hb).1,bg (h6 b hb).2 hx.size⟩⟩
theorem fB.cell0(h:fB w pb vn vb D):w.cell? ⟨pb,0,none⟩=some vn:=by
 obtain⟨t,ht⟩:=h.cells;rw[bQ w pb 0 _ _ _ ht];rfl
theorem fB.cell1(h:fB w pb vn vb D):w.cell? ⟨pb,1,none⟩=some vb:=by
 obtain⟨t,ht⟩:=h.cells;rw[bQ w pb 1 _ _ _ ht];rfl
theorem fB.free(h:fB w pb vn vb D)(o:Nat):w.frozen? ⟨pb,o,none⟩=false:=by
 obtain⟨t,ht⟩:=h.cells;exact gQ w pb o _ _ ht
theorem fB.lt(h:fB w pb vn vb D):pb<w.heap.size:=by
 obtain⟨t,ht⟩:=h.cells;exact(iV.1 ht).1
end
section
open Go.RowKit
open bE (dh Nd vl Asc)
variable {l:List Int} {n y:Int} {x:Nat}
theorem UQ(h:l.Pairwise (· < ·)){i j:Nat}(hij:i<j)(hj:j<l.length):jl l i<jl l j:=by
 rw[rC (by omega),rC hj];exact dx.1 h i j (by omega) hj hij
theorem Gp(l:List Int)(n:Int):∀y,y∈l.take (putAt l n)->y<n:=by
 intro y hy;unfold putAt at hy;rw[<-List.takeWhile_append_dropWhile (p:=λx=>decide (x<n)) (l:=l)]at hy;simp at hy
 induction l with
 |nil=>simp at hy
 |cons a l ih=>
  by_cases ha:a<n
  .simp[ha]at hy
   rcases hy with rfl|hy
   .exact ha
   .exact ih hy
  .simp[ha]at hy
theorem uS(h:l.Pairwise (· < ·)):∀y,y∈l.drop (putAt l n)->n<=y:=by
 induction l with
 |nil=>intro y hy;simp at hy
 |cons a l ih=>
  intro y hy;have hl:=lu.1 h;by_cases ha:a<n
  .have e:putAt (a :: l) n=putAt l n+1:=by simp[putAt,ha]
   rw[e]at hy;exact ih hl.2 y (by simpa using hy)
  .have e:putAt (a :: l) n=0:=by simp[putAt,ha]
   rw[e]at hy;simp at hy;rcases hy with rfl|hy
   .omega
   .have:=hl.1 y hy;omega
theorem EI:y∈um l n↔y∈l\/y=n:=by
 unfold um;split
 .rename_i hp
  constructor
  .exact .inl
  .rintro(h|rfl)
   .exact h
   .obtain⟨hk,he⟩:=hp
    rw[rC hk]at he;rw[<-he];exact ai hk
 .have:y∈l↔y∈l.take (putAt l n)\/y∈l.drop (putAt l n):=by
   rw[<-bq,kX]
  rw[this];simp;constructor
  .rintro(h|h|h)
   .exact .inl (.inl h)
   .exact .inr h
   .exact .inl (.inr h)
  .rintro((h|h)|h)
   .exact .inl h
   .exact .inr (.inr h)
   .exact .inr (.inl h)
theorem K6(h:l.Pairwise (· < ·)):(um l n).Pairwise (· < ·):=by
 unfold um;split
 .exact h
 .rename_i hp
  rw[show l.take (putAt l n)++[n]++l.drop (putAt l n)=l.take (putAt l n)++n :: l.drop (putAt l n) by simp,vY];refine⟨h.sublist (List.take_sublist _ _),lu.2 ⟨?_,h.sublist (List.drop_sublist _ _)⟩,?_⟩
  .intro y hy
   have h1:=uS h y hy;have h2:y≠n:=by
    rintro rfl;apply hp;obtain⟨i,hi,e⟩:=aQ.1 hy;simp at hi;have h0:=uS (n:=y) h (jl l (putAt l y)) (by
     rw[rC (by omega)];have:(l.drop (putAt l y))[0]'(by simp;omega)=l[putAt l y]:=(by simp);rw[<-this];exact ai _)
    refine⟨by omega,?_⟩;by_cases hi0:i=0
    .subst hi0
     rw[rC (by omega)];simpa using e
    .have h3:=UQ h (i:=putAt l y) (j:=putAt l y+i) (by omega) (by omega)
     rw[List.getElem_drop]at e;rw[rC (k:=putAt l y+i) (by omega),e]at h3;omega
   omega
  .intro a ha b hb
   have h1:=Gp l n a ha;rcases jk.1 hb with rfl|hb
   .exact h1
   .have:=uS h b hb
    omega
theorem Ho:y∈kL l↔y∈l:=by
 have main:∀(l acc:List Int),y∈l.foldl um acc↔y∈acc\/y∈l:=by
  intro l
  induction l with
  |nil=>intro acc;simp
  |cons x l ih=>intro acc;simp only[List.foldl_cons,ih,EI,jk];exact or_assoc
 have:=main l []
 simpa [kL]using this
theorem RV(l:List Int):(kL l).Pairwise (· < ·):=by
 have main:∀(l acc:List Int),acc.Pairwise (· < ·)->(l.foldl um acc).Pairwise (· < ·):=by
  intro l
  induction l with
  |nil=>intro acc h;exact h
  |cons x l ih=>intro acc h;exact ih _ (K6 h)
 exact main l [] List.Pairwise.nil
def bO(l:List Nat):List Nat:=(kL (dB l)).map Int.toNat
theorem lV(l:List Nat):kL (dB l)=dB (bO l):=by
 unfold bO
 conv=>rhs;rw[dB,jg]
 conv=>lhs;rw[<-Au (kL (dB l))]
 refine dC λx hx=>?_
 obtain⟨n,_,rfl⟩:=o9 (Ho.1 hx);simp
theorem Qp{a b:List Nat}(h:dB a=dB b):a=b:=by
 have:=congrArg (List.map Int.toNat) h
 simpa [dB,jg,Function.comp_def]using this
theorem wQ{l:List Nat}:(x:Int)∈dB l↔x∈l:=by
 constructor
 .intro h;obtain⟨n,hn,e⟩:=o9 h;have:x=n:=by omega
  rw[this];exact hn
 .intro h;exact az.2 ⟨x,h,rfl⟩
theorem cz{l:List Nat}:x∈bO l↔x∈l:=by
 rw[<-wQ,<-lV,Ho,wQ]
theorem kC(l:List Nat):Asc (bO l):=by
 have h:=RV (dB l);rw[lV]at h;unfold dB at h;rw[gU]at h;exact h.imp λh=>by omega
theorem sw(l:List Nat):(bO l).length<=l.length:=by
 have:=uW (dB l);rw[lV,bG,bG]at this;exact this
theorem KL{l:List Nat}(h:Asc l):bO l=l:=bE.xx (kC l) h λ_=>cz
end
