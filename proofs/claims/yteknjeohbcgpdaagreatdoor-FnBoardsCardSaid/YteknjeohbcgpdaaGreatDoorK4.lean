/-
  Plain laws of the sorted lists of the reference: members, rising, births. (5 texts.)
-/
import Derived.Test.YteknjeohbcgpdaaGreatDoorK1
import Derived.Test.YteknjeohbcgpdaaGreatDoorK2
import Derived.Deep.RegionLaw
import Derived.Handy
set_option maxRecDepth 100000
namespace Go.Proofs.YteknjeohbcgpdaaGreatDoor
open Tryz
section
open Go.RowKit
variable {P:Program} {w:World} {o:Oper} {a:Act} {K:Act->World->Prop} {Q:Exit->Act->World->Prop} {ops:Array Oper}
def kR(w:World)(v v':Value):Prop:=v'.ownBlock=v.ownBlock\/∃g,v'.ownBlock=some g/\w.heap.size<=g
theorem ZL(w:World)(base:Nat)(t ty e:TypeId)(i:TypeInfo)(z:Value)(size bytes:Nat)(ht:P.underlying t=some (.slice e))(hi:P.info? e=some i)(hz:i.zero=some z)
 (hsize:i.size=size) (hby:i.bytes=bytes) (hzs:z.cells.size=size) (hsz:0<size)
 (v:Value) (n:Nat) (xs:List Value) (hown:w.ownsRow base e size v n xs)
 (ao:Option Addr) (m c:Nat) (news:List Value) (hl:news.length=m*size) (hsrc:m=0\/∃ad,ao=some ad/\∀j u,news[j]?=some u->w.cell? (ad.add j)=some u) (h1:∀u∈news,u.oneCell'=true)
 (h63:n+m<=maxLen) (hbytes:(n+m)*bytes<=140737488355328) (hbase:base<=w.heap.size):
 ∃v' w',(Builtin.append_ #[t,t] ty #[v,.slice ao m c]).run P w=.ok v' w'/\w'.ownsRow base e size v' (n+m) (xs++news)/\w.grownBy w' v.ownBlock/\kR w v v':=by
 subst hsize;subst hby
 by_cases hm:m=0
 .subst hm
  have hn:news=[]:=fK (by simpa using hl);subst hn;refine⟨v,w,?_,by simpa using hown,⟨rfl,rfl,rfl,ay _,λ_ _ _=>rfl⟩,.inl rfl⟩;rcases hown.2 with⟨rfl,h0⟩|⟨g,cap,cur,rfl,hbg,hg,hnc,hcm,hcs,htake⟩
  .subst h0
   cases ao <;> simp[Builtin.append_,run_underlying ht,sizeOf,typeInfo,hi,Builtin.lenOf,Builtin.firstCells,loadCells,loadCellsFrom]
  .cases ao <;> simp[Builtin.append_,run_underlying ht,sizeOf,typeInfo,hi,Builtin.lenOf,Builtin.firstCells,loadCells,loadCellsFrom,hnc,storeCells]
 .obtain⟨ad,rfl,hnews⟩:=hsrc.resolve_left hm
  obtain⟨v',w',hr,h2,h3,h4⟩:=run_append_own (P:=P) w base t ty e i z i.size i.bytes ht hi hz rfl rfl hzs hsz v n xs hown ad m c news hl hnews h1 h63 hbytes hbase;refine⟨v',w',hr,h2,h3,?_⟩;have p8:maxLen=9223372036854775807:=by simp[maxLen]
  rcases hown.2 with⟨rfl,h0⟩|⟨g,cap,cur,rfl,hbg,hg,hnc,hcm,hcs,htake⟩
  .subst h0
   have hr2:=run_append_nil (P:=P) (w:=w) t ty e i z ht hi hz ad m c news hl hnews (by omega) (by omega) (by simp only[jf]at hbytes;omega);rw[hr]at hr2;injection hr2 with hv hw;subst hv;exact .inr ⟨_,rfl,ay _⟩
  .by_cases hroom:n+m<=cap
   .have hfit:n*i.size+news.length<=cur.size:=by rw[hl,hcs,<-kS];exact gZ _ hroom
    have hr2:=run_append_room (P:=P) (w:=w) t ty e i ht hi g n cap cur hg ad m c news hl hnews h1 hroom hfit;rw[hr]at hr2;injection hr2 with hv hw;subst hv;exact .inl rfl
   .have hr2:=run_append_grow (P:=P) (w:=w) t ty e i z ht hi hz ⟨g,0,none⟩ n cap xs hown.1 (hown.cells (g:=g) rfl) ad m c news hl hnews (by omega) (by omega) (growslice_fits (by omega) hbytes)
    rw[hr]at hr2;injection hr2 with hv hw;subst hv;exact .inr ⟨_,rfl,ay _⟩
theorem WK(s x:Operand)(t:TypeId)
 (ho:o.op=.call { callee:=.builtin .append,args:=#[s,x],argTypes:=#[t,t] })
 (base:Nat) (e:TypeId) (i:TypeInfo) (z:Value) (size bytes:Nat) (ht:P.underlying t=some (.slice e)) (hi:P.info? e=some i) (hz:i.zero=some z)
 (hsize:i.size=size) (hby:i.bytes=bytes) (hzs:z.cells.size=size) (hsz:0<size)
 (v:Value) (n:Nat) (xs:List Value) (hs:a.eval s=v) (hown:w.ownsRow base e size v n xs)
 (ao:Option Addr) (m c:Nat) (news:List Value) (hx:a.eval x=.slice ao m c) (hl:news.length=m*size) (hsrc:m=0\/∃ad,ao=some ad/\∀j u,news[j]?=some u->w.cell? (ad.add j)=some u) (h1:∀u∈news,u.oneCell'=true)
 (h63:n+m<=maxLen) (hbytes:(n+m)*bytes<=140737488355328) (hbase:base<=w.heap.size)
 (h:∀v' w',w'.ownsRow base e size v' (n+m) (xs++news)->w.grownBy w' v.ownBlock->kR w v v'->K (a.put o.dst v') w'):o.wp P a w K Q:=by
 obtain⟨v',w',hr,h2,h3,h4⟩:=ZL (P:=P) w base t o.type e i z size bytes ht hi hz hsize hby hzs hsz v n xs hown ao m c news hl hsrc h1 h63 hbytes hbase;unfold Oper.wp execOp;simp only[ho,resolve,invoke,builtin,Sem.run_bind,Sem.run_pure,Result.andThen_ok,List.map_toArray,lM,qm,hs,hx,hr];exact h v' w' h2 h3 h4
theorem dC{rest:List Oper}(hgd:o.guard=none)(s x:Operand)(t:TypeId)
 (ho:o.op=.call { callee:=.builtin .append,args:=#[s,x],argTypes:=#[t,t] })
 (base:Nat) (e:TypeId) (i:TypeInfo) (z:Value) (size bytes:Nat) (ht:P.underlying t=some (.slice e)) (hi:P.info? e=some i) (hz:i.zero=some z)
 (hsize:i.size=size) (hby:i.bytes=bytes) (hzs:z.cells.size=size) (hsz:0<size)
 (v:Value) (n:Nat) (xs:List Value) (hs:a.eval s=v) (hown:w.ownsRow base e size v n xs)
 (ao:Option Addr) (m c:Nat) (news:List Value) (hx:a.eval x=.slice ao m c) (hl:news.length=m*size) (hsrc:m=0\/∃ad,ao=some ad/\∀j u,news[j]?=some u->w.cell? (ad.add j)=some u) (h1:∀u∈news,u.oneCell'=true)
 (h63:n+m<=maxLen) (hbytes:(n+m)*bytes<=140737488355328) (hbase:base<=w.heap.size)
 (h:∀v' w',w'.ownsRow base e size v' (n+m) (xs++news)->w.grownBy w' v.ownBlock->kR w v v'->wpList P ops Q rest (a.put o.dst v') w'):wpList P ops Q (o :: rest) a w:=
 wpList_plain hgd λ_ hK=>WK s x t ho base e i z size bytes ht hi hz hsize hby hzs hsz v n xs hs hown ao m c news hx hl hsrc h1 h63 hbytes hbase λv' w' h2 h3 h4=>hK _ _ (h v' w' h2 h3 h4)
theorem gY{E:Prop}(hgd:o.guard=none)(s x:Operand)(t:TypeId)
 (ho:o.op=.call { callee:=.builtin .append,args:=#[s,x],argTypes:=#[t,t] })
 (base:Nat) (e:TypeId) (i:TypeInfo) (z:Value) (size bytes:Nat) (ht:P.underlying t=some (.slice e)) (hi:P.info? e=some i) (hz:i.zero=some z)
 (hsize:i.size=size) (hby:i.bytes=bytes) (hzs:z.cells.size=size) (hsz:0<size)
 (v:Value) (n:Nat) (xs:List Value) (hs:a.eval s=v) (hown:w.ownsRow base e size v n xs)
 (ao:Option Addr) (m c:Nat) (news:List Value) (hx:a.eval x=.slice ao m c) (hl:news.length=m*size) (hsrc:m=0\/∃ad,ao=some ad/\∀j u,news[j]?=some u->w.cell? (ad.add j)=some u) (h1:∀u∈news,u.oneCell'=true)
 (h63:n+m<=maxLen) (hbytes:(n+m)*bytes<=140737488355328) (hbase:base<=w.heap.size)
 (h:∀v' w',w'.ownsRow base e size v' (n+m) (xs++news)->w.grownBy w' v.ownBlock->kR w v v'->K (a.put o.dst v') w'):if Region.wanted o (yielded ops a.tmps)=true then Oper.wp P o a w K Q else E:=by
 have hw:Region.wanted o (yielded ops a.tmps)=true:=by simp[Region.wanted,hgd]
 rw[if_pos hw];exact WK s x t ho base e i z size bytes ht hi hz hsize hby hzs hsz v n xs hs hown ao m c news hx hl hsrc h1 h63 hbytes hbase h
end
section
open Go.RowKit
variable {l:List Int} {n:Int} {k:Nat}
def putAt(l:List Int)(n:Int):Nat:=(l.takeWhile λx=>decide (x<n)).length
def qL(l:List Int)(n:Int):List Int:=
 if putAt l n<l.length/\jo l (putAt l n)=n then l else l.take (putAt l n)++[n]++l.drop (putAt l n)
theorem JB(hk:k<=l.length)(h1:∀i,i<k->jo l i<n)(h2:k<l.length->n<=jo l k):putAt l n=k:=by
 induction l generalizing k with
 |nil=>simp at hk;subst hk;rfl
 |cons x l ih=>
  cases k with
  |zero=>
   have:=h2 (by simp);simp[jo]at this;simp[putAt,List.takeWhile_cons];omega
  |succ k=>
   have h0:=h1 0 (by omega);simp[jo]at h0;have e:=ih (k:=k) (by simpa using hk) (λi hi=>by have:=h1 (i+1) (by omega);simpa [jo]using this) (λh=>by have:=h2 (by simpa using h);simpa [jo]using this);simp[putAt,h0]at e ⊢;exact e
def WZ(w w':World)(v v':Value):Prop:=∀b,v'.ownBlock=some b->v.ownBlock=some b\/(w.heap.size<=b/\b<w'.heap.size)
theorem yV{W:World}{B:Nat}{e:TypeId}{v:Value}{N:Nat}(hk:k<=l.length)(h1:∀i,i<k->jo l i<n)(h2:k<l.length->n<jo l k)(hsz:l.length<=1000000000)
 (ho:W.ownsRow B e 1 v N (((((l.drop 0).take k).map (Value.int .i64))++[Value.int .i64 n])++((l.drop k).take (l.length-k)).map (Value.int .i64))):Ints W v (qL l n):=by
 have ea:=JB hk h1 (λh=>by have:=h2 h;omega);have ep:qL l n=l.take k++[n]++l.drop k:=by
  rw[qL,ea,if_neg (λh=>by have:=h2 h.1;omega)]
 rw[ep];refine Ints.eD (B:=B) (e:=e) (n:=N) ?_ (by simp;omega);have e1:(l.drop k).take (l.length-k)=l.drop k:=bU (by simp);rw[e1]at ho
 simpa using ho
set_option maxHeartbeats 1000000 in
theorem sG(v:Value)(l:List Int)(n:Int)(w:World)(h:Ints w v l)(hsz:l.length<=1000000000):
 Calls prog 180 #[v,.int .i64 n] w λe w'=>∃v',e=.returned v'/\Ints w' v' (qL l n)/\Ext w w'/\WZ w w' v v':=by
 obtain⟨a,cap,rfl,hlc,hcap,hc⟩:=h;obtain⟨i0,hi,hz0,hz1,hz2⟩:=info_parts iw;go_enter Tryz.func180,Tryz.ntmps180
 go_wp2
 go_loop [5] (λi=>∃k:Nat,k<=l.length/\i=.int .i64 k/\Hid (∀i,i<k->jo l i<n)) (λi=>l.length-(intOf i).toNat)
 case atStart=>exact⟨0,aJ _,rfl,λi h=>absurd h (by omega)⟩
 case round=>
  obtain⟨k,hk,rfl,HN⟩:=hrel;by_cases hlt:k<l.length
  .obtain⟨b,off,rfl,hcell⟩:=hc (by omega)
   have hck:=hcell k hlt;by_cases QR:jo l k<n
   .clear hcell hc
    go_wp2
    go_round
    case rel=>exact⟨k+1,by omega,by go_num,λi hi=>by
     rcases fI i k with h|h
     .exact HN.out i h
     .rw[show i=k by omega];exact QR⟩
    case measure=>simp[intOf];omega
   .by_cases heq:jo l k=n
    .have hb:(jo l k == n)=true:=by simp[heq]
     have hd:decide (jo l k<n)=false:=(by simpa using QR);have HE:=aQ heq;clear heq;go_wp2
     go_ret
     refine⟨_,rfl,?_,Below.refl _ _,λb hb=>.inl hb⟩;have e:=JB hk HN.out (λ_=>by have:=HE.out;omega);rw[qL,e,if_pos ⟨hlt,HE.out⟩];exact⟨_,_,rfl,hlc,hcap,hc⟩
    .have hb:(jo l k == n)=false:=by simp[heq]
     have hd:decide (jo l k<n)=false:=(by simpa using QR);have HE:=aQ heq;clear heq;have hcc:=λ(W:World) (hE:Ext w W)=>LU hcell hE
     have HC:=aQ hcc;clear hcc hcell hc;have hkc:k<=cap:=(by omega);have hkn:¬cap=k:=(by omega);go_wp2
     go_region_law (first
      |(refine gY rfl (.tmp 33) (.tmp 36) 80 rfl w.heap.size 3 i0 (.int .i64 0) 1 8 underlying80 hi hz0 hz1 hz2 rfl (by decide) (.slice (some ⟨_,0,none⟩) 0 0) 0 [] rfl (by first|exact fZ _ _ (by simp) _|exact(fZ _ _ (by simp) _).alloc _|exact lH _ _ _ (by simp) _) _ k _ (((l.drop 0).take k).map (Value.int .i64)) rfl (by simp;omega) (.inr ⟨⟨b,off,none⟩,rfl,by exact HC.out _ (by go_grown) 0 k (by omega)⟩) (kJ _) (by unfold maxLen;omega) (by omega) (by first|(simp;done)|(simp;omega)) ?_;intro v1 w1 ho1 hg1 hl1;simp only[jf,gI]at ho1;have e1:Ext w w1:=dS (by go_grown) hg1 (λk hk=>by simp[Value.ownBlock]at hk;omega))
      |(refine gY rfl (.tmp 37) (.tmp 39) 80 rfl w.heap.size 3 i0 (.int .i64 0) 1 8 underlying80 hi hz0 hz1 hz2 rfl (by decide) v1 k (((l.drop 0).take k).map (Value.int .i64)) rfl (by first|exact ho1|exact ho1.alloc _) _ 1 _ [Value.int .i64 n] rfl rfl (.inr ⟨_,rfl,dJ (by first|exact dh _ _ _|exact ni hg1 (by first|exact dh _ _ _|exact wV _ _ _ _|exact qf _ _ _ _) (by simp[Value.ownBlock]))⟩) one_cell (by unfold maxLen;omega) (by omega) (by have:=e1.size;first|omega|(simp;omega)) ?_;intro v2 w2 ho2 hg2 hl2;have e2:Ext w w2:=dS (by first|exact e1|exact bS e1 _) hg2 (λk hk=>(ho1.lt k hk).1))
      |(refine gY rfl (.tmp 40) (.tmp 43) 80 rfl w.heap.size 3 i0 (.int .i64 0) 1 8 underlying80 hi hz0 hz1 hz2 rfl (by decide) v2 (k+1) (((l.drop 0).take k).map (Value.int .i64)++[Value.int .i64 n]) rfl ho2 _ (l.length-k) _ (((l.drop k).take (l.length-k)).map (Value.int .i64)) rfl (by simp) (.inr ⟨⟨b,off+k,none⟩,rfl,HC.out _ e2 k (l.length-k) (by omega)⟩) (kJ _) (by unfold maxLen;omega) (by omega) e2.size ?_;intro v3 w3 ho3 hg3 hl3;have e3:Ext w w3:=dS e2 hg3 (λk hk=>(ho2.lt k hk).1)))
     all_goals go_wp2
     all_goals go_ret
     all_goals exact⟨_,rfl,yV hk HN.out (λ_=>by have:=HE.out;omega) hsz ho3,e3,λb hb=>.inr (ho3.lt b hb)⟩
  .by_cases h0:0<l.length
   .obtain⟨b,off,rfl,hcell⟩:=hc h0
    have hcc:=λ(W:World) (hE:Ext w W)=>LU hcell hE
    have HC:=aQ hcc;have hke:k=l.length:=(by omega);have HK:=aQ hke;clear hcc hcell hc;subst hke;go_wp2
    go_region_law (first
     |(refine gY rfl (.tmp 33) (.tmp 36) 80 rfl w.heap.size 3 i0 (.int .i64 0) 1 8 underlying80 hi hz0 hz1 hz2 rfl (by decide) (.slice (some ⟨_,0,none⟩) 0 0) 0 [] rfl (by first|exact fZ _ _ (by simp) _|exact(fZ _ _ (by simp) _).alloc _|exact lH _ _ _ (by simp) _) _ l.length _ (((l.drop 0).take l.length).map (Value.int .i64)) rfl (by simp) (.inr ⟨⟨b,off,none⟩,rfl,HC.out _ (by go_grown) 0 l.length (by omega)⟩) (kJ _) (by unfold maxLen;omega) (by omega) (by first|(simp;done)|(simp;omega)) ?_;intro v1 w1 ho1 hg1 hl1;simp only[jf,gI]at ho1;have e1:Ext w w1:=dS (by go_grown) hg1 (λk hk=>by simp[Value.ownBlock]at hk;omega))
     |(refine gY rfl (.tmp 37) (.tmp 39) 80 rfl w.heap.size 3 i0 (.int .i64 0) 1 8 underlying80 hi hz0 hz1 hz2 rfl (by decide) v1 l.length (((l.drop 0).take l.length).map (Value.int .i64)) rfl (by first|exact ho1|exact ho1.alloc _) _ 1 _ [Value.int .i64 n] rfl rfl (.inr ⟨_,rfl,dJ (by first|exact dh _ _ _|exact ni hg1 (by first|exact dh _ _ _|exact wV _ _ _ _|exact qf _ _ _ _) (by simp[Value.ownBlock]))⟩) one_cell (by unfold maxLen;omega) (by omega) (by have:=e1.size;first|omega|(simp;omega)) ?_;intro v2 w2 ho2 hg2 hl2;have e2:Ext w w2:=dS (by first|exact e1|exact bS e1 _) hg2 (λk hk=>(ho1.lt k hk).1))
     |(refine gY rfl (.tmp 40) (.tmp 43) 80 rfl w.heap.size 3 i0 (.int .i64 0) 1 8 underlying80 hi hz0 hz1 hz2 rfl (by decide) v2 (l.length+1) (((l.drop 0).take l.length).map (Value.int .i64)++[Value.int .i64 n]) rfl ho2 _ 0 _ [] rfl (by simp) (.inl rfl) (by simp) (by unfold maxLen;omega) (by omega) e2.size ?_;intro v3 w3 ho3 hg3 hl3;have e3:Ext w w3:=dS e2 hg3 (λk hk=>(ho2.lt k hk).1)))
    all_goals go_wp2
    all_goals go_ret
    all_goals exact⟨_,rfl,yV (k:=l.length) (ay _) HN.out (λh=>absurd h (by omega)) hsz (B:=w.heap.size) (e:=3) (v:=v3) (N:=l.length+1) (by simpa using ho3),e3,λb hb=>.inr (ho3.lt b hb)⟩
   .have hl0:l=[]:=fK (by omega)
    subst hl0;have hk0:k=0:=(by simpa using hk);subst hk0;cases a with
    |none=>
     go_wp2
     go_region_law (first
      |(refine gY rfl (.tmp 33) (.tmp 36) 80 rfl w.heap.size 3 i0 (.int .i64 0) 1 8 underlying80 hi hz0 hz1 hz2 rfl (by decide) (.slice (some ⟨_,0,none⟩) 0 0) 0 [] rfl (by first|exact fZ _ _ (by simp) _|exact(fZ _ _ (by simp) _).alloc _|exact lH _ _ _ (by simp) _) _ 0 _ [] rfl (by simp) (.inl rfl) (by simp) (by unfold maxLen;omega) (by omega) (by first|(simp;done)|(simp;omega)) ?_;intro v1 w1 ho1 hg1 hl1;simp only[mG,fV]at ho1;have e1:Ext w w1:=dS (by go_grown) hg1 (λk hk=>by simp[Value.ownBlock]at hk;omega))
      |(refine gY rfl (.tmp 37) (.tmp 39) 80 rfl w.heap.size 3 i0 (.int .i64 0) 1 8 underlying80 hi hz0 hz1 hz2 rfl (by decide) v1 0 [] rfl (by first|exact ho1|exact ho1.alloc _) _ 1 _ [Value.int .i64 n] rfl rfl (.inr ⟨_,rfl,dJ (by first|exact dh _ _ _|exact ni hg1 (by first|exact dh _ _ _|exact wV _ _ _ _|exact qf _ _ _ _) (by simp[Value.ownBlock]))⟩) one_cell (by unfold maxLen;omega) (by omega) (by have:=e1.size;first|omega|(simp;omega)) ?_;intro v2 w2 ho2 hg2 hl2;simp only[jf,gI]at ho2;have e2:Ext w w2:=dS (by first|exact e1|exact bS e1 _) hg2 (λk hk=>(ho1.lt k hk).1))
      |(refine gY rfl (.tmp 40) (.tmp 43) 80 rfl w.heap.size 3 i0 (.int .i64 0) 1 8 underlying80 hi hz0 hz1 hz2 rfl (by decide) v2 1 [Value.int .i64 n] rfl ho2 _ 0 _ [] rfl (by simp) (.inl rfl) (by simp) (by unfold maxLen;omega) (by omega) e2.size ?_;intro v3 w3 ho3 hg3 hl3;have e3:Ext w w3:=dS e2 hg3 (λk hk=>(ho2.lt k hk).1)))
     all_goals go_wp2
     all_goals go_ret
     all_goals exact⟨_,rfl,yV (l:=[]) (k:=0) (ay _) (λi h=>absurd h (by omega)) (λh=>absurd h (by simp)) (by simp) (B:=w.heap.size) (e:=3) (v:=v3) (N:=1) (by simpa using ho3),e3,λb hb=>.inr (ho3.lt b hb)⟩
    |some ad=>
     go_wp2
     go_region_law (first
      |(refine gY rfl (.tmp 33) (.tmp 36) 80 rfl w.heap.size 3 i0 (.int .i64 0) 1 8 underlying80 hi hz0 hz1 hz2 rfl (by decide) (.slice (some ⟨_,0,none⟩) 0 0) 0 [] rfl (by first|exact fZ _ _ (by simp) _|exact(fZ _ _ (by simp) _).alloc _|exact lH _ _ _ (by simp) _) _ 0 _ [] rfl (by simp) (.inl rfl) (by simp) (by unfold maxLen;omega) (by omega) (by first|(simp;done)|(simp;omega)) ?_;intro v1 w1 ho1 hg1 hl1;simp only[mG,fV]at ho1;have e1:Ext w w1:=dS (by go_grown) hg1 (λk hk=>by simp[Value.ownBlock]at hk;omega))
      |(refine gY rfl (.tmp 37) (.tmp 39) 80 rfl w.heap.size 3 i0 (.int .i64 0) 1 8 underlying80 hi hz0 hz1 hz2 rfl (by decide) v1 0 [] rfl (by first|exact ho1|exact ho1.alloc _) _ 1 _ [Value.int .i64 n] rfl rfl (.inr ⟨_,rfl,dJ (by first|exact dh _ _ _|exact ni hg1 (by first|exact dh _ _ _|exact wV _ _ _ _|exact qf _ _ _ _) (by simp[Value.ownBlock]))⟩) one_cell (by unfold maxLen;omega) (by omega) (by have:=e1.size;first|omega|(simp;omega)) ?_;intro v2 w2 ho2 hg2 hl2;simp only[jf,gI]at ho2;have e2:Ext w w2:=dS (by first|exact e1|exact bS e1 _) hg2 (λk hk=>(ho1.lt k hk).1))
      |(refine gY rfl (.tmp 40) (.tmp 43) 80 rfl w.heap.size 3 i0 (.int .i64 0) 1 8 underlying80 hi hz0 hz1 hz2 rfl (by decide) v2 1 [Value.int .i64 n] rfl ho2 _ 0 _ [] rfl (by simp) (.inl rfl) (by simp) (by unfold maxLen;omega) (by omega) e2.size ?_;intro v3 w3 ho3 hg3 hl3;have e3:Ext w w3:=dS e2 hg3 (λk hk=>(ho2.lt k hk).1)))
     all_goals go_wp2
     all_goals go_ret
     all_goals exact⟨_,rfl,yV (l:=[]) (k:=0) (ay _) (λi h=>absurd h (by omega)) (λh=>absurd h (by simp)) (by simp) (B:=w.heap.size) (e:=3) (v:=v3) (N:=1) (by simpa using ho3),e3,λb hb=>.inr (ho3.lt b hb)⟩
end
section
open Go.RowKit
def jB(l:List Int):List Int:=l.foldl qL []
theorem yt(l:List Int)(x:Int):jB (l++[x])=qL (jB l) x:=by simp[jB]
theorem TF(l:List Int)(x:Int):(qL l x).length<=l.length+1:=by
 unfold qL;split
 .omega
 .have:putAt l x<=l.length:=(List.takeWhile_sublist _).length_le
  simp;omega
theorem rX(l:List Int):(jB l).length<=l.length:=by
 have main:∀(l acc:List Int),(l.foldl qL acc).length<=acc.length+l.length:=by
  intro l
  induction l with
  |nil=>intro acc;simp
  |cons x l ih=>intro acc;have:=ih (qL acc x);have:=TF acc x;simp;omega
 have:=main l []
 simpa [jB]using this
theorem rZ{N:Nat}{w w':World}{v v':Value}(h:∀b,v.ownBlock=some b->N<=b/\b<w.heap.size)(hN:N<=w.heap.size)(hs:w.heap.size<=w'.heap.size)(hn:WZ w w' v v'):∀b,v'.ownBlock=some b->N<=b/\b<w'.heap.size:=by
 intro b hb;rcases hn b hb with h1|h1
 .have:=h b h1;omega
 .omega
set_option maxHeartbeats 400000 in
theorem zB(v:Value)(l:List Int)(w:World)(h:Ints w v l)(hsz:l.length<=1000000000):
 Calls prog 178 #[v] w λe w'=>∃v',e=.returned v'/\Ints w' v' (jB l)/\Ext w w'/\(∀b,v'.ownBlock=some b->w.heap.size<=b/\b<w'.heap.size):=by
 obtain⟨a,cap,rfl,hlc,hcap,hc⟩:=h;go_enter Tryz.func178,Tryz.ntmps178
 go_wp2
 go_loopw [3,4] (λo i wr=>∃k:Nat,k<=l.length/\i=.int .i64 k/\Ints wr o (jB (l.take k))/\Ext w wr/\Hid (∀b,o.ownBlock=some b->w.heap.size<=b/\b<wr.heap.size)) (λ_ i _=>l.length-(intOf i).toNat)
 case atStart=>exact⟨0,aJ _,rfl,Ints.nil _ _ _,(Below.refl _ _).alloc (ay _) _,λb hb=>by simp[Value.ownBlock]at hb;subst hb;simp⟩
 case round=>
  obtain⟨k,hk,rfl,hI,jD,HF⟩:=hrel;by_cases hlt:k<l.length
  .obtain⟨b,off,rfl,hcell⟩:=hc (by omega)
   have hck:=hcell k hlt;have mZ:=(jD.cell (lt_of_cell hck)).trans hck;have hlen:(jB (l.take k)).length<=1000000000:=(by have:=rX (l.take k);have:=List.length_take_le k l;omega);have hsn:jB (l.take (k+1))=qL (jB (l.take k)) (jo l k):=(by rw[qp hlt,yt]);have HS:=aQ hsn;clear hcell hc hck hsn;go_wp2_with (go_at_call 180;refine(sG _ _ _ _ hI hlen).mono ?_;rintro e w1 ⟨v1,rfl,hI1,hx1,hn1⟩)
   go_roundw
   case rel=>exact⟨k+1,by omega,by go_num,by rw[HS.out];exact hI1,ax jD hx1,rZ HF.out jD.size hx1.size hn1⟩
   case measure=>simp[intOf];omega
  .go_wp2
   go_ret
   have e:k=l.length:=(by omega);subst e;rw[dB]at hI;exact⟨_,rfl,hI,jD,HF.out⟩
def Jb(l p:List Int)(k:Nat):List Int:=((List.range k).filter λ(i:Nat)=>!mI p (i:Int)).map (jo l)
def qo(l p:List Int):List Int:=Jb l p l.length
theorem Sn(l p:List Int)(k:Nat)(h:mI p (k:Int)=true):Jb l p (k+1)=Jb l p k:=by
 simp[Jb,qK,List.filter_append,h]
theorem Og(l p:List Int)(k:Nat)(h:mI p (k:Int)=false):Jb l p (k+1)=Jb l p k++[jo l k]:=by
 simp[Jb,qK,List.filter_append,h]
theorem yO(l p:List Int)(k:Nat):(Jb l p k).length<=k:=by
 have:=rz (λ(i:Nat)=>!mI p (i:Int)) (List.range k);simp[Jb]at this ⊢;exact this
set_option maxHeartbeats 400000 in
theorem xU(v u:Value)(l p:List Int)(w:World)(h:Ints w v l)(g:Ints w u p)(hsz:l.length<=1000000000):
 Calls prog 175 #[v,u] w λe w'=>∃v',e=.returned v'/\Ints w' v' (qo l p)/\Ext w w'/\(∀b,v'.ownBlock=some b->w.heap.size<=b/\b<w'.heap.size):=by
 obtain⟨a,cap,rfl,hlc,hcap,hc⟩:=h;obtain⟨i0,hi,hz0,hz1,hz2⟩:=info_parts iw;go_enter Tryz.func175,Tryz.ntmps175
 go_wp2
 go_loopw [5,6] (λo i wr=>∃k:Nat,k<=l.length/\i=.int .i64 k/\wr.ownsRow w.heap.size 3 1 o (Jb l p k).length ((Jb l p k).map (Value.int .i64))/\Ext w wr) (λ_ i _=>l.length-(intOf i).toNat)
 case atStart=>exact⟨0,aJ _,rfl,fZ w _ (ay _) _,(Below.refl _ _).alloc (ay _) _⟩
 case round=>
  obtain⟨k,hk,rfl,hown,jD⟩:=hrel;by_cases hlt:k<l.length
  .obtain⟨b,off,rfl,hcell⟩:=hc (by omega)
   have hck:=hcell k hlt;have mZ:=(jD.cell (lt_of_cell hck)).trans hck;have hwl:=yO l p k;have gw:=g.ext jD;clear hcell hc hck;by_cases hin:mI p (k:Int)=true
   .have HW:=aQ (Sn l p k hin)
    go_wp2_with (go_at_call 207;refine(qh _ _ _ _ gw).mono ?_;rintro e w1 ⟨rfl,nn,rfl⟩)
    go_roundw
    case rel=>exact⟨k+1,by omega,by go_num,by rw[HW.out];exact own_drewN hown _,fA jD _⟩
    case measure=>simp[intOf];omega
   .have hin':mI p (k:Int)=false:=by simpa using hin
    have HW:=aQ (Og l p k hin');clear hin
    go_wp2_with (first
     |(go_at_call 207;refine(qh _ _ _ _ gw).mono ?_;rintro e w1 ⟨rfl,nn,rfl⟩)
     |(at_builtin;refine dC rfl _ _ 80 rfl w.heap.size 3 i0 (.int .i64 0) 1 8 underlying80 hi hz0 hz1 hz2 rfl (by decide) _ _ _ rfl ((own_drewN hown nn).alloc _) _ 1 _ [Value.int .i64 (jo l k)] rfl rfl (.inr ⟨_,rfl,dJ (dh _ _ _)⟩) one_cell (by unfold maxLen;omega) (by omega) (by have:=jD.size;simp;omega) ?_;intro v1 w1 ho1 hg1 _))
    go_roundw
    case rel=>
     refine⟨k+1,by omega,by go_num,?_,zS (fA jD nn) hown hg1⟩;rw[HW.out]
     simpa using ho1
    case measure=>simp[intOf];omega
  .go_wp2
   go_ret
   have e:k=l.length:=(by omega);subst e;exact⟨_,rfl,Ints.eD (l:=Jb l p l.length) hown (by have:=yO l p l.length;omega),jD,λb hb=>hown.lt b hb⟩
end
section
open Go.RowKit
open bO
variable {l:List Nat} {w:World} {B size n pb:Nat} {e:TypeId} {v vn vb:Value} {xs:List Value} {D:dH}
def dD(l:List Nat):List Int:=l.map λ(n:Nat)=>(n:Int)
theorem bJ(l:List Nat):(dD l).length=l.length:=by simp[dD]
theorem gy{k:Nat}(h:k<l.length):jo (dD l) k=(l[k]:Int):=by
 rw[o6 (by rw[bJ];exact h)];simp[dD]
theorem mV{x:Int}(h:x∈dD l):∃n,n∈l/\x=(n:Int):=by
 obtain⟨n,hn,rfl⟩:=aH.1 h;exact⟨n,hn,rfl⟩
structure dX(F:Nat->Prop)(w w':World):Prop where
 os:w'.os=w.os
 tape:w'.tape=w.tape
 output:w'.output=w.output
 size:w.heap.size<=w'.heap.size
 block:∀k,k<w.heap.size->¬F k->w'.heap[k]?=w.heap[k]?
theorem fq{F:Nat->Prop}{w':World}(h:Ext w w'):dX F w w':=⟨h.os,h.tape,h.output,h.size,λk hk _=>h.block k hk⟩
theorem dX.trans{F G:Nat->Prop}{a b c:World}(h:dX F a b)(k:dX G b c)(hG:∀x,x<a.heap.size->G x->F x):dX F a c:=
 ⟨k.os.trans h.os,k.tape.trans h.tape,k.output.trans h.output,dn h.size k.size,λx hx hf=>
  (k.block x (bz hx h.size) (λg=>hf (hG x hx g))).trans (h.block x hx hf)⟩
theorem dX.refl(F:Nat->Prop)(w:World):dX F w w:=⟨rfl,rfl,rfl,ay _,λ_ _ _=>rfl⟩
theorem gV(h:w.ownsRow B e size v n xs)(hn:0<n):
 ∃g cap,v=.slice (some ⟨g,0,none⟩) n cap/\n<=cap/\cap<=maxLen/\∀j,j<n*size->w.cell? ⟨g,j,none⟩=xs[j]?:=by
 rcases h.2 with⟨rfl,h0⟩|⟨g,cap,cur,rfl,hb,hg,hnc,hcm,hcs,ht⟩
 .omega
 .exact⟨g,cap,rfl,hnc,hcm,λj hj=>World.ownsRow.cellAt h j hj⟩
theorem bH(h:w.ownsRow B e size v n xs):
 ∃a cap,v=.slice a n cap/\n<=cap/\cap<=maxLen:=by
 rcases h.2 with⟨rfl,h0⟩|⟨g,cap,cur,rfl,hb,hg,hnc,hcm,hcs,ht⟩
 .exact⟨none,0,by rw[h0],by omega,by simp[maxLen]⟩
 .exact⟨_,cap,rfl,hnc,hcm⟩
def kD(pb:Nat)(vn vb:Value)(b:Nat):Prop:=b=pb\/vn.ownBlock=some b\/vb.ownBlock=some b
structure eH(w:World)(pb:Nat)(vn vb:Value)(D:dH):Prop where
 good:bO.Good D
 small:D.length<=1000000
 cells:∃t,w.heap[pb]?=some (.cells #[vn,vb] t (0,0))
 born:w.ownsRow 0 3 1 vb D.length ((D.mapIdx λi _=>(born (vl D i):Int)).map (Value.int .i64))
 nodes:∃xs,w.ownsRow 0 89 2 vn D.length xs/\∀i (h:i<D.length),∃L R,xs[2*i]?=some L/\xs[2*i+1]?=some R/\Ints w L (dD (D[i]).1)/\Ints w R (dD (D[i]).2)/\
  (∀b,L.ownBlock=some b->¬kD pb vn vb b/\b<w.heap.size)/\(∀b,R.ownBlock=some b->¬kD pb vn vb b/\b<w.heap.size)
 kP:vn.ownBlock≠some pb
 mK:vb.ownBlock≠some pb
 mJ:∀b,vn.ownBlock=some b->vb.ownBlock≠some b
theorem eH.ext{w w':World}{pb:Nat}{vn vb:Value}{D:dH}(h:eH w pb vn vb D)(hx:Ext w w'):eH w' pb vn vb D:=by
 obtain⟨t,ht⟩:=h.cells;obtain⟨xs,ho,hn⟩:=h.nodes;refine⟨h.good,h.small,⟨t,?_⟩,bY h.born hx,⟨xs,bY ho hx,λi hi=>?_⟩,h.kP,h.mK,h.mJ⟩
 .rw[hx.block pb (fB.1 ht).1];exact ht
 .obtain⟨L,R,h1,h2,h3,h4,h5,h6⟩:=hn i hi
  exact⟨L,R,h1,h2,h3.ext hx,h4.ext hx,λb hb=>⟨(h5 b hb).1,bz (h5 b hb).2 hx.size⟩,λb hb=>⟨(h6 b hb).1,bz (h6 b hb).2 hx.size⟩⟩
theorem eH.cell0(h:eH w pb vn vb D):w.cell? ⟨pb,0,none⟩=some vn:=by
 obtain⟨t,ht⟩:=h.cells;rw[cell_of_row w pb 0 _ _ _ ht];rfl
theorem eH.cell1(h:eH w pb vn vb D):w.cell? ⟨pb,1,none⟩=some vb:=by
 obtain⟨t,ht⟩:=h.cells;rw[cell_of_row w pb 1 _ _ _ ht];rfl
theorem eH.free(h:eH w pb vn vb D)(o:Nat):w.frozen? ⟨pb,o,none⟩=false:=by
 obtain⟨t,ht⟩:=h.cells;exact frozen_of_row w pb o _ _ ht
theorem eH.lt(h:eH w pb vn vb D):pb<w.heap.size:=by
 obtain⟨t,ht⟩:=h.cells;exact(fB.1 ht).1
end
section
open Go.RowKit
open bO (dH Nd vl Asc)
variable {l:List Int} {n y:Int} {x:Nat}
theorem Si(h:l.Pairwise (· < ·)){i j:Nat}(hij:i<j)(hj:j<l.length):jo l i<jo l j:=by
 rw[o6 (by omega),o6 hj];exact dx.1 h i j (by omega) hj hij
theorem EA(l:List Int)(n:Int):∀y,y∈l.take (putAt l n)->y<n:=by
 intro y hy;unfold putAt at hy;rw[<-List.takeWhile_append_dropWhile (p:=λx=>decide (x<n)) (l:=l)]at hy;simp at hy
 induction l with
 |nil=>simp at hy
 |cons a l ih=>
  by_cases ha:a<n
  .simp[ha]at hy
   rcases hy with rfl|hy
   .exact ha
   .exact ih hy
  .simp[ha]at hy
theorem rJ(h:l.Pairwise (· < ·)):∀y,y∈l.drop (putAt l n)->n<=y:=by
 induction l with
 |nil=>intro y hy;simp at hy
 |cons a l ih=>
  intro y hy;have hl:=ql.1 h;by_cases ha:a<n
  .have e:putAt (a :: l) n=putAt l n+1:=by simp[putAt,ha]
   rw[e]at hy;exact ih hl.2 y (by simpa using hy)
  .have e:putAt (a :: l) n=0:=by simp[putAt,ha]
   rw[e]at hy;simp at hy;rcases hy with rfl|hy
   .omega
   .have:=hl.1 y hy;omega
theorem Dg:y∈qL l n↔y∈l\/y=n:=by
 unfold qL;split
 .rename_i hp
  constructor
  .exact .inl
  .rintro(h|rfl)
   .exact h
   .obtain⟨hk,he⟩:=hp
    rw[o6 hk]at he;rw[<-he];exact ai hk
 .have:y∈l↔y∈l.take (putAt l n)\/y∈l.drop (putAt l n):=by
   rw[<-bq,iV]
  rw[this];simp;constructor
  .rintro(h|h|h)
   .exact .inl (.inl h)
   .exact .inr h
   .exact .inl (.inr h)
  .rintro((h|h)|h)
   .exact .inl h
   .exact .inr (.inr h)
   .exact .inr (.inl h)
theorem JA(h:l.Pairwise (· < ·)):(qL l n).Pairwise (· < ·):=by
 unfold qL;split
 .exact h
 .rename_i hp
  rw[show l.take (putAt l n)++[n]++l.drop (putAt l n)=l.take (putAt l n)++n :: l.drop (putAt l n) by simp,oo];refine⟨h.sublist (List.take_sublist _ _),ql.2 ⟨?_,h.sublist (List.drop_sublist _ _)⟩,?_⟩
  .intro y hy
   have h1:=rJ h y hy;have h2:y≠n:=by
    rintro rfl;apply hp;obtain⟨i,hi,e⟩:=aW.1 hy;simp at hi;have h0:=rJ (n:=y) h (jo l (putAt l y)) (by
     rw[o6 (by omega)];have:(l.drop (putAt l y))[0]'(by simp;omega)=l[putAt l y]:=(by simp);rw[<-this];exact ai _)
    refine⟨by omega,?_⟩;by_cases hi0:i=0
    .subst hi0
     rw[o6 (by omega)];simpa using e
    .have h3:=Si h (i:=putAt l y) (j:=putAt l y+i) (by omega) (by omega)
     rw[rT]at e;rw[o6 (k:=putAt l y+i) (by omega),e]at h3;omega
   omega
  .intro a ha b hb
   have h1:=EA l n a ha;rcases eT.1 hb with rfl|hb
   .exact h1
   .have:=rJ h b hb
    omega
theorem Fe:y∈jB l↔y∈l:=by
 have main:∀(l acc:List Int),y∈l.foldl qL acc↔y∈acc\/y∈l:=by
  intro l
  induction l with
  |nil=>intro acc;simp
  |cons x l ih=>intro acc;simp only[List.foldl_cons,ih,Dg,eT];exact or_assoc
 have:=main l []
 simpa [jB]using this
theorem P5(l:List Int):(jB l).Pairwise (· < ·):=by
 have main:∀(l acc:List Int),acc.Pairwise (· < ·)->(l.foldl qL acc).Pairwise (· < ·):=by
  intro l
  induction l with
  |nil=>intro acc h;exact h
  |cons x l ih=>intro acc h;exact ih _ (JA h)
 exact main l [] List.Pairwise.nil
def bQ(l:List Nat):List Nat:=(jB (dD l)).map Int.toNat
theorem kE(l:List Nat):jB (dD l)=dD (bQ l):=by
 unfold bQ
 conv=>rhs;rw[dD,gM]
 conv=>lhs;rw[<-List.map_id (jB (dD l))]
 refine df λx hx=>?_
 obtain⟨n,_,rfl⟩:=mV (Fe.1 hx);simp
theorem Oi{a b:List Nat}(h:dD a=dD b):a=b:=by
 have:=congrArg (List.map Int.toNat) h
 simpa [dD,gM,Function.comp_def]using this
theorem tT{l:List Nat}:(x:Int)∈dD l↔x∈l:=by
 constructor
 .intro h;obtain⟨n,hn,e⟩:=mV h;have:x=n:=by omega
  rw[this];exact hn
 .intro h;exact aH.2 ⟨x,h,rfl⟩
theorem bZ{l:List Nat}:x∈bQ l↔x∈l:=by
 rw[<-tT,<-kE,Fe,tT]
theorem jv(l:List Nat):Asc (bQ l):=by
 have h:=P5 (dD l);rw[kE]at h;unfold dD at h;rw[jh]at h;exact h.imp λh=>by omega
theorem qc(l:List Nat):(bQ l).length<=l.length:=by
 have:=rX (dD l);rw[kE,bJ,bJ]at this;exact this
theorem Jl{l:List Nat}(h:Asc l):bQ l=l:=bO.ru (jv l) h λ_=>bZ
end
end Go.Proofs.YteknjeohbcgpdaaGreatDoor