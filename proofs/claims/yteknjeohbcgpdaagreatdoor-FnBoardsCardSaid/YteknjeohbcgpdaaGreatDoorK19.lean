/-
  Plain law of the program's reduced and canon: a stack of open options; the canonical node. (5 texts.)
-/
import Derived.Test.YteknjeohbcgpdaaGreatDoorK18
import Derived.WideMake
set_option maxRecDepth 100000
namespace Go.Proofs.YteknjeohbcgpdaaGreatDoor
open Tryz
section
open Go.RowKit
def mU(n:Nat):Nat:=if n<10 then 48+n else 87+n
def yG:Nat->Nat->List Nat
 | 0,_=>[]
 |k+1,n=>if n<36 then [mU n]else yG k (n / 36)++[mU (n % 36)]
def z8(n:Nat):List Nat:=yG 4 n
theorem ZG{k n:Nat}(h:n<36):yG (k+1) n=[mU n]:=by rw[yG,if_pos h]
theorem OT:(prog.info? 5).map (λi=>(i.zero,i.size,i.bytes))=some (some (.int .u8 0),1,1):=by kernel_rfl
theorem Ps{r:Nat}(h:r<36):(({ data:=#[48,49,50,51,52,53,54,55,56,57,97,98,99,100,101,102,103,104,105,106,107,108,109,110,111,112,113,114,115,116,117,118,119,120,121,122] }:ByteArray)[r]'h).toNat=mU r:=by
 have key:∀r:Fin 36,(({ data:=#[48,49,50,51,52,53,54,55,56,57,97,98,99,100,101,102,103,104,105,106,107,108,109,110,111,112,113,114,115,116,117,118,119,120,121,122] }:ByteArray)[r.1]'r.2).toNat=mU r.1:=by decide
 exact key ⟨r,h⟩
def wM(l:List Nat):List Value:=l.map λ(d:Nat)=>.int .u8 (d:Int)
theorem Fh{j:Nat}{ds:List Nat}(d:Nat):(wM (List.replicate (j+1) 0++ds)).set j (.int .u8 (d:Int))=wM (List.replicate j 0++d :: ds):=by
 have e:List.replicate (j+1) 0++ds=List.replicate j 0++0 :: ds:=by rw[List.replicate_succ',dA];rfl
 rw[e,wM,bG,List.set_append_right _ _ (by simp)];simp[wM]
theorem Yb(l:List Nat):∀u∈wM l,u.oneCell'=true:=by
 intro u hu;obtain⟨x,_,rfl⟩:=aH.1 hu;rfl
set_option maxHeartbeats 2000000 in
theorem formatBits_36(n:Nat)(hn:n<1000000)(sv:Value)(m B:Nat)(xs:List Value)(w:World)(hown:w.ownsRow B 5 1 sv m xs)(hB:B<=w.heap.size)(hm:m<=1000000000):
 Calls prog 261 #[sv,.int .u64 (n:Int),.int .i64 36,.bool false,.bool true] w λe w'=>∃v',e=.returned (.tuple #[v',.string ⟨#[]⟩])/\w'.ownsRow B 5 1 v' (m+(z8 n).length) (xs++wM (z8 n))/\dX (λb=>sv.ownBlock=some b) w w'/\(∀b,v'.ownBlock=some b->sv.ownBlock=some b\/w.heap.size<=b):=by
 obtain⟨i0,hi0,hz0,hz1,hz2⟩:=info_parts OT;obtain⟨a0,c0,rfl,hmc,_⟩:=bH hown;go_enter Tryz.func261,Tryz.ntmps261
 go_wp2
 have hz:(Tryz.zeroCells275).toList=wM (List.replicate 65 0):=by kernel_rfl
 have hsz:(Tryz.zeroCells275).size=65:=by kernel_rfl
 have ho0:(w.alloc (.cells Tryz.zeroCells275 275)).ownsRow w.heap.size 275 1 (.slice (some ⟨w.heap.size,0,none⟩) 65 65) 65 (wM (List.replicate 65 0)):=by
  rw[<-hz];exact World.ownsRow_lit w _ _ (ay _) (by decide) (by rw[hsz])
 have hx0:Ext w (w.alloc (.cells Tryz.zeroCells275 275)):=by go_grown
 generalize w.alloc (.cells Tryz.zeroCells275 275)=W0 at *;clear hz hsz;go_loopw [1,13] (λuu ii wr=>∃i u ds,ii=.int .i64 ((i:Nat):Int)/\uu=.int .u64 ((u:Nat):Int)/\62<=i/\i<=65/\u<36 ^ (i-61)/\Ext w wr/\wr.ownsRow w.heap.size 275 1 (.slice (some ⟨w.heap.size,0,none⟩) 65 65) 65 (wM (List.replicate i 0++ds))/\Hid (ds.length=65-i)/\Hid (yG (i-61) u++ds=z8 n)) (λ_ ii _=>(intOf ii).toNat)
 case atStart=>exact⟨65,n,[],rfl,rfl,by omega,by omega,by omega,hx0,by simpa using ho0,rfl,by simp[Hid,z8]⟩
 case round=>
  clear ho0 hx0;obtain⟨i,u,ds,rfl,rfl,hi1,hi2,hu,hE,ho,HL,HB⟩:=hrel;have hu6:u<1679616:=bz hu (dn (Nat.pow_le_pow_right (by omega) (by omega:i-61<=4)) (by decide));by_cases hlt:36<=u
  .have hi3:63<=i:=by
    by_cases c:i=62
    .subst c;simp at hu;omega
    .omega
   have h1:(36:Int)<=(u:Int):=(by omega);obtain⟨j,rfl⟩:∃j,i=j+1:=⟨i-1,by omega⟩;have hj1:((j+1:Nat):Int)-1=(j:Int):=(by omega);have hcl:(wM (List.replicate (j+1) 0++ds)).length=65:=(by have:=ho.1;simpa using this);have cj:=ho.cellAt j (by omega);rw[aa (by omega)]at cj;have fj:=ho.frozenAt j;go_wp2
   go_roundw
   case rel=>
    (repeat apply Exists.intro)
    refine⟨?_,rfl⟩;refine⟨j,u / 36,mU (u % 36):: ds,rfl,?_,by omega,by omega,?_,?_,?_,?_,?_⟩
    .rw[show((u / 36:Nat):Int)=(u:Int) / 36 by omega]
    .have e:j+1-61=(j-61)+1:=by omega
     rw[e,Nat.pow_succ]at hu;exact Nat.div_lt_of_lt_mul (by rw[jg];exact hu)
    .exact hE.setCell (p:=⟨w.heap.size,j,none⟩) (ay _) _
    .rw[Ps (show u-u / 36*36<36 by omega),show u-u / 36*36=u % 36 by omega,<-Fh]
     exact(ho.stored j _).1
    .have:=HL.out
     show(mU (u % 36):: ds).length=65-j;rw[fQ];omega
    .have h:=HB.out
     have e:j+1-61=(j-61)+1:=(by omega);rw[e,yG,if_neg (by omega)]at h;show yG (j-61) (u / 36)++mU (u % 36):: ds=z8 n;rw[<-h,dA];rfl
   case measure=>simp[intOf]
  .have h1:¬((36:Int)<=(u:Int)):=by omega
   obtain⟨j,rfl⟩:∃j,i=j+1:=⟨i-1,by omega⟩;have hj1:((j+1:Nat):Int)-1=(j:Int):=(by omega);have hcl:(wM (List.replicate (j+1) 0++ds)).length=65:=(by have:=ho.1;simpa using this);have cj:=ho.cellAt j (by omega);rw[aa (by omega)]at cj;have fj:=ho.frozenAt j;have harr:prog.arrayLen 275=65:=(by kernel_rfl);have hsl:=λW:World=>run_sliceAt_array_l (P:=prog) W 275 ⟨w.heap.size,0,none⟩ underlying275 .i64 (j:Int) (by omega) (by rw[harr];omega)
   have hsz:=λW:World=>(by kernel_rfl:(sizeOf (prog.elem 275)).run prog W=.ok 1 W)
   simp only[hsz,Result.andThen_ok,slicedAt,harr,dP]at hsl;rw[if_neg (by omega),show(⟨w.heap.size,0,none⟩:Addr).add (j*1)=⟨w.heap.size,j,none⟩ by simp[Addr.add];omega]at hsl;have UJ:u<36:=(by omega);have hd:=Ps UJ;have HL2:Hid (wM (mU u :: ds)=((wM (List.replicate j 0++mU u :: ds)).drop j).take (65-j)):=by
    have hl:=HL.out;unfold Hid wM;rw[bG,List.drop_append_of_le_length (by simp),List.drop_of_length_le (by simp),gI,bU (by simp;omega)]
   have hb:z8 n=mU u :: ds:=by
    have h:=HB.out;obtain⟨k,hk⟩:∃k,j+1-61=k+1:=⟨j-61,by omega⟩;rw[hk,ZG UJ]at h;exact h.symm
   have HBN:=aQ hb;have ho2:(wr.setCell ⟨w.heap.size,j,none⟩ (.int .u8 (((({ data:=#[48,49,50,51,52,53,54,55,56,57,97,98,99,100,101,102,103,104,105,106,107,108,109,110,111,112,113,114,115,116,117,118,119,120,121,122] }:ByteArray)[u]'UJ).toNat:Nat):Int))).ownsRow w.heap.size 275 1 (.slice (some ⟨w.heap.size,0,none⟩) 65 65) 65 (wM (List.replicate j 0++mU u :: ds)):=by
    rw[hd,<-Fh];exact(ho.stored j (.int .u8 ((mU u:Nat):Int))).1
   have hE2:Ext w (wr.setCell ⟨w.heap.size,j,none⟩ (.int .u8 (((({ data:=#[48,49,50,51,52,53,54,55,56,57,97,98,99,100,101,102,103,104,105,106,107,108,109,110,111,112,113,114,115,116,117,118,119,120,121,122] }:ByteArray)[u]'UJ).toNat:Nat):Int))):=hE.setCell (p:=⟨w.heap.size,j,none⟩) (ay _) _;have HHD:=aQ hd;clear hb hd;go_upto_region 29 with fail
   generalize wr.setCell ⟨w.heap.size,j,none⟩ (.int .u8 (((({ data:=#[48,49,50,51,52,53,54,55,56,57,97,98,99,100,101,102,103,104,105,106,107,108,109,110,111,112,113,114,115,116,117,118,119,120,121,122] }:ByteArray)[u]'UJ).toNat:Nat):Int))=W2 at *;have hown2:=bY hown hE2;have hz2':=hE2.size;have hsrc:=yT ho2 (Below.refl _ _) j (65-j) (by omega);rw[<-HL2.out]at hsrc;have hln:(wM (mU u :: ds)).length=65-j:=(by have:=HL.out;simp[wM];omega);have qJ:=aQ hln;clear hln cj fj hE ho;go_wp2_with (at_builtin;refine dC rfl (.tmp 95) (.tmp 97) 38 rfl B 5 i0 (.int .u8 0) 1 1 underlying38 hi0 hz0 hz1 hz2 rfl (by decide) (.slice a0 m c0) m xs rfl hown2 (some ⟨w.heap.size,j,none⟩) (65-j) (65-j) (wM (mU u :: ds)) rfl (by rw[qJ.out,jZ]) (.inr ⟨_,rfl,hsrc⟩) (Yb _) (by unfold maxLen;omega) (by omega) (by omega) ?_;intro v5 w5 iT hg5 hl5)
   go_ret2
   refine⟨v5,rfl,?_,⟨hg5.os.trans hE2.os,hg5.tape.trans hE2.tape,hg5.output.trans hE2.output,by have:=hg5.size;omega,λk hk hn=>by rw[hg5.block k (by omega) (λe=>hn e.symm)];exact hE2.block k hk⟩,λb hb=>by
    rcases hl5 with h|⟨g,h,h2⟩
    .exact .inl (by rw[<-h];exact hb)
    .rw[h]at hb;injection hb with hb;exact .inr (by omega)⟩
   rw[HBN.out];have:(mU u :: ds).length=65-j:=(by have:=qJ.out;simpa [wM]using this);rw[this];exact iT
def II(n:Nat)(sv:Value)(m B:Nat)(xs:List Value)(w:World)(e:Ending)(w':World):Prop:=
 ∃v',e=.returned v'/\w'.ownsRow B 5 1 v' (m+(z8 n).length) (xs++wM (z8 n))/\dX (λb=>sv.ownBlock=some b) w w'/\(∀b,v'.ownBlock=some b->sv.ownBlock=some b\/w.heap.size<=b)
theorem AppendInt_36(n:Nat)(hn:n<1000000)(sv:Value)(m B:Nat)(xs:List Value)(w:World)(hown:w.ownsRow B 5 1 sv m xs)(hB:B<=w.heap.size)(hm:m<=1000000000):
 Calls prog 169 #[sv,.int .i64 (n:Int),.int .i64 36] w (II n sv m B xs w):=by
 obtain⟨a0,c0,rfl,hmc,_⟩:=bH hown;have h1:Calls prog 237 #[.slice a0 m c0,.int .u64 (n:Int),.int .i64 36] w (II n (.slice a0 m c0) m B xs w):=by
  go_enter Tryz.func237,Tryz.ntmps237
  go_wp2_with (go_at_call 261;refine(formatBits_36 n hn _ m B xs _ hown hB hm).mono ?_;rintro e w1 ⟨v',rfl,h1,h2,h3⟩)
  go_ret
  exact⟨v',rfl,h1,h2,h3⟩
 have h2:Calls prog 205 #[.slice a0 m c0,.int .i64 (n:Int),.int .i64 36] w (II n (.slice a0 m c0) m B xs w):=by
  go_enter Tryz.func205,Tryz.ntmps205
  go_wp2_with (go_at_call 237;refine h1.mono ?_;rintro e w1 ⟨v',rfl,h1,h2,h3⟩)
  go_ret
  exact⟨v',rfl,h1,h2,h3⟩
 go_enter Tryz.func169,Tryz.ntmps169
 go_wp2_with (go_at_call 205;refine h2.mono ?_;rintro e w1 ⟨v',rfl,h1,h2,h3⟩)
 go_ret
 exact⟨v',rfl,h1,h2,h3⟩
end
section
variable {d:Nat} {l r:List Nat}
def und(x:Nat):Nat:=if x<58 then x-48 else x-87
theorem Oh(h:d<36):und (mU d)=d:=by unfold und mU;split <;> split <;> omega
theorem Gb(h:d<36):48<=mU d/\mU d<=122:=by unfold mU;split <;> omega
theorem uw:∀k n x,x∈yG k n->48<=x/\x<=122
 | 0,n,x,h=>by simp[yG]at h
 |k+1,n,x,h=>by
  rw[yG]at h;split at h
  .rename_i hn
   simp at h;subst h;exact Gb hn
  .rcases bq.1 h with h|h
   .exact uw k _ x h
   .simp at h;subst h;exact Gb (Nat.mod_lt _ (by omega))
def V5(l:List Nat):Nat:=l.foldl (λa x=>a*36+und x) 0
theorem D5:∀k n,n<36 ^ k->V5 (yG k n)=n
 | 0,n,h=>by simp at h;subst h;rfl
 |k+1,n,h=>by
  rw[yG];split
  .rename_i hn
   simp[V5,Oh hn]
  .have ih:=D5 k (n / 36) (by rw[Nat.div_lt_iff_lt_mul (by omega)];rw[Nat.pow_succ]at h;exact h)
   unfold V5 at ih ⊢;rw[List.foldl_append,ih];simp only[List.foldl_cons,List.foldl_nil,Oh (Nat.mod_lt n (show 36 > 0 by omega))];omega
theorem ZH{n m:Nat}(hn:n<1000000)(hm:m<1000000)(h:z8 n=z8 m):n=m:=by
 have e1:=D5 4 n (by omega);have e2:=D5 4 m (by omega);unfold z8 at h;rw[<-e1,<-e2,h]
def jW(l:List Nat):List Nat:=l.flatMap λi=>z8 i++[44]
def tX(l r:List Nat):List Nat:=jW l++124 :: jW r
theorem QH(l:List Nat)(i:Nat):jW (l++[i])=jW l++(z8 i++[44]):=by simp[jW]
theorem V6{c:Nat}:∀{a b x y:List Nat},c ∉ a->c ∉ b->a++c :: x=b++c :: y->a=b/\x=y
 |[],[],x,y,_,_,h=>by simpa using h
 |[],d :: b,x,y,_,hb,h=>by simp at h;exact absurd h.1 (λe=>hb (by simp[e]))
 |d :: a,[],x,y,ha,_,h=>by simp at h;exact absurd h.1.symm (λe=>ha (by simp[e]))
 |d :: a,e :: b,x,y,ha,hb,h=>by
  simp only[List.cons_append,jQ]at h;obtain⟨rfl,h⟩:=h;obtain⟨rfl,h2⟩:=V6 (λk=>ha (lV _ k)) (λk=>hb (lV _ k)) h;exact⟨rfl,h2⟩
def Stop(t:List Nat):Prop:=∀x,t.head?=some x->x=124
theorem K8(i:Nat)(x:List Nat):¬Stop (z8 i++[44]++x):=λh=>by
 cases hb:z8 i with
 |nil=>rw[hb]at h;have:=h 44 (by simp);omega
 |cons a b=>
  rw[hb]at h;have:=h a (by simp);have h2:=uw 4 i a (by show a∈z8 i;rw[hb];simp);omega
theorem aeA(i:Nat):44 ∉ z8 i:=λh=>by have:=uw 4 i 44 h;omega
theorem DC:∀{l m t u:List Nat},(∀i,i∈l->i<1000000)->(∀i,i∈m->i<1000000)->Stop t->Stop u->jW l++t=jW m++u->l=m/\t=u
 |[],[],t,u,_,_,_,_,h=>by simpa [jW]using h
 |[],j :: m,t,u,_,_,ht,_,h=>by
  simp only[jW,List.flatMap_nil,gI,ji]at h;rw[h,dA]at ht;exact absurd ht (K8 j _)
 |i :: l,[],t,u,_,_,_,hu,h=>by
  simp only[jW,List.flatMap_nil,gI,ji]at h;rw[<-h,dA]at hu;exact absurd hu (K8 i _)
 |i :: l,j :: m,t,u,hl,hm,ht,hu,h=>by
  have e:z8 i++44 :: (jW l++t)=z8 j++44 :: (jW m++u):=by simpa [jW]using h
  obtain⟨e1,e2⟩:=V6 (aeA i) (aeA j) e;have:=ZH (hl i (by simp)) (hm j (by simp)) e1;obtain⟨e3,e4⟩:=DC (λx hx=>hl x (by simp[hx])) (λx hx=>hm x (by simp[hx])) ht hu e2;exact⟨by rw[this,e3],e4⟩
theorem Uu{m s:List Nat}(h1:∀i,i∈l->i<1000000)(h2:∀i,i∈r->i<1000000)(h3:∀i,i∈m->i<1000000)(h4:∀i,i∈s->i<1000000)(h:tX l r=tX m s):l=m/\r=s:=by
 have hs:∀x:List Nat,Stop (124 :: x):=λx y hy=>by simpa using hy.symm
 obtain⟨e1,e2⟩:=DC h1 h3 (hs _) (hs _) h;simp only[jQ,true_and]at e2;have hn:Stop []:=λx hx=>by simp at hx
 exact⟨e1,(DC h2 h4 hn hn (by simpa using e2)).1⟩
theorem DD{x:Nat}(h:x∈tX l r):x<128:=by
 have hp:∀l:List Nat,x∈jW l->x<128:=λl h=>by
  obtain⟨i,_,hi⟩:=List.mem_flatMap.1 h;rcases bq.1 hi with h|h
  .have:=uw 4 i x h;omega
  .simp at h;omega
 rcases bq.1 h with h|h
 .exact hp l h
 .rcases eT.1 h with h|h
  .omega
  .exact hp r h
end
section
open Go.RowKit
theorem alloc_at{w:World}{X:Obj}{k:Nat}(h:k=w.heap.size):(w.alloc X).heap[k]?=some X:=by subst h;exact heap_alloc_new w X
def ZY(w:World)(e:Ending)(w':World):Prop:=
 ∃h,h=w.heap.size/\e=.returned (.pointer (some ⟨h+1+1+1+1+1,0,none⟩))/\
  w'.heap[h+1+1+1+1+1]?=some (.cells #[.slice none 0 0,.slice none 0 0,.slice none 0 0,.map (some h),.map (some (h+1)),.map (some (h+1+1)),.map (some (h+1+1+1)),.map (some (h+1+1+1+1))] 139 (0,0))/\
  (∀m,h<=m->m<h+1+1+1+1+1->w'.heap[m]?=some (.map #[] 0))/\w'.heap.size=h+6/\Ext w w'
set_option maxHeartbeats 2000000 in
theorem Zaa(w:World):Calls prog 68 #[] w (ZY w):=by
 have hm1:=λw:World=>run_makeMap_plain (P:=prog) (w:=w) 113
 have hm2:=λw:World=>run_makeMap_plain (P:=prog) (w:=w) 134
 have IP:=λw:World=>run_makeMap_plain (P:=prog) (w:=w) 135
 have Hg:=λw:World=>run_makeMap_plain (P:=prog) (w:=w) 136
 go_enter Tryz.func68,Tryz.ntmps68
 go_wp2
 go_ret
 refine⟨w.heap.size,rfl,rfl,alloc_at (by simp only[eQ]),λm h1 h2=>?_,by simp only[eQ],by go_grown⟩;have:m=w.heap.size\/m=w.heap.size+1\/m=w.heap.size+1+1\/m=w.heap.size+1+1+1\/m=w.heap.size+1+1+1+1:=by omega
 rw[Below.heap_alloc _ _ _ (by simp only[eQ];omega)];rcases this with rfl|rfl|rfl|rfl|rfl
 .rw[Below.heap_alloc _ _ _ (by simp only[eQ];omega),Below.heap_alloc _ _ _ (by simp only[eQ];omega),Below.heap_alloc _ _ _ (by simp only[eQ];omega),Below.heap_alloc _ _ _ (by simp only[eQ];omega)]
  exact alloc_at rfl
 .rw[Below.heap_alloc _ _ _ (by simp only[eQ];omega),Below.heap_alloc _ _ _ (by simp only[eQ];omega),Below.heap_alloc _ _ _ (by simp only[eQ];omega)]
  exact alloc_at (by simp only[eQ])
 .rw[Below.heap_alloc _ _ _ (by simp only[eQ];omega),Below.heap_alloc _ _ _ (by simp only[eQ];omega)]
  exact alloc_at (by simp only[eQ])
 .rw[Below.heap_alloc _ _ _ (by simp only[eQ];omega)]
  exact alloc_at (by simp only[eQ])
 .exact alloc_at (by simp only[eQ])
end
section
open Go.RowKit
open bO (dH Nd vl Same)
variable {b pp h i:Nat} {w w':World} {T:Nat->Prop}
def nu(l:List Nat):ByteArray:=⟨(l.map UInt8.ofNat).toArray⟩
theorem NF{l m:List Nat}(hl:∀x,x∈l->x<256)(hm:∀x,x∈m->x<256)(h:nu l=nu m):l=m:=by
 have h1:l.map UInt8.ofNat=m.map UInt8.ofNat:=by
  have:=congrArg (λb:ByteArray=>b.data.toList) h
  simpa [nu]using this
 have h2:=congrArg (λl=>l.map UInt8.toNat) h1;simp only[gM]at h2;have e:∀{l:List Nat},(∀x,x∈l->x<256)->l.map (UInt8.toNat ∘ UInt8.ofNat)=l:=λ{l} h=>by
  conv=>rhs;rw[<-List.map_id l]
  refine df λx hx=>?_
  have:=h x hx;simp[Nat.mod_eq_of_lt this]
 rwa [e hl,e hm]at h2
def uK(nd:List Nat × List Nat):Value:=.string (nu (tX nd.1 nd.2))
theorem Ur{a b:List Nat × List Nat}(h1:∀i,i∈a.1++a.2->i<1000000)(h2:∀i,i∈b.1++b.2->i<1000000)(h:uK a=uK b):a=b:=by
 simp only[uK,Value.string.injEq]at h;have e:=NF (λx hx=>by have:=DD hx;omega) (λx hx=>by have:=DD hx;omega) h;obtain⟨e1,e2⟩:=Uu (λi hi=>h1 i (by simp[hi])) (λi hi=>h1 i (by simp[hi])) (λi hi=>h2 i (by simp[hi])) (λi hi=>h2 i (by simp[hi])) e;exact Prod.ext e1 e2
def Em(W:World)(ys:List Value)(l:List Nat):Prop:=∃a c,ys=[.slice a l.length c]/\Ints W (.slice a l.length c) (dD l)
def kg(S:Nat->Prop)(w:World)(v:Value)(l:List Nat):Prop:=nN S (λW=>Ints W v (dD l)) w
structure iH where
 lv:Value
 rv:Value
 bv:Value
 D:dH
 S:Nat->Prop
 cn:Nat->Option Nat
def jN(pp h:Nat)(s:iH)(b:Nat):Prop:=b=pp\/(h<=b/\b<h+1+1+1)\/s.lv.ownBlock=some b\/s.rv.ownBlock=some b\/s.bv.ownBlock=some b
structure Bi(D:dH)(cn:Nat->Option Nat):Prop where
 lt:∀i j,cn i=some j->i<D.length/\j<D.length
 ok:∀i j,cn i=some j->bO.Canon (vl D j)/\bO.iO (vl D j) (vl D i)/\bO.born (vl D j)<=bO.born (vl D i)
 self:∀i j,cn i=some j->cn j=some j
 sub:∀i j nd,cn i=some j->D[i]?=some nd->∀x,x∈nd.1++nd.2->(cn x).isSome
structure dz(w:World)(pp h:Nat)(s:iH):Prop where
 good:bO.Good s.D
 small:s.D.length<=900000
 vY:Bi s.D s.cn
 box:w.heap[pp]?=some (.cells #[s.lv,s.rv,s.bv,.map (some h),.map (some (h+1)),.map (some (h+1+1)),.map (some (h+1+1+1)),.map (some (h+1+1+1+1))] 139 (0,0))
 left:∃xs,w.ownsRow 0 80 1 s.lv s.D.length xs/\Items Em s.S 1 xs (s.D.map (·.1)) w
 right:∃xs,w.ownsRow 0 80 1 s.rv s.D.length xs/\Items Em s.S 1 xs (s.D.map (·.2)) w
 born:w.ownsRow 0 3 1 s.bv s.D.length ((s.D.mapIdx λi _=>(bO.born (vl s.D i):Int)).map (Value.int .i64))
 find:∃f,gz prog 9 w h s.D.length f/\(∀i (hi:i<s.D.length),f (uK s.D[i])=some (.int .i64 (i:Int)))/\∀k v,f k=some v->∃i,∃hi:i<s.D.length,k=uK s.D[i]/\v=.int .i64 (i:Int)
 orders:∃n f,gz prog 183 w (h+1) n f/\∀k v,f k=some v->∃(a b:Nat) (g:Bool),k=.agg #[.int .i64 (a:Int),.int .i64 (b:Int)]/\v=.bool g/\a<s.D.length/\b<s.D.length/\(g=true↔bO.Ge (vl s.D a) (vl s.D b))
 AX:∃n f,gz prog 3 w (h+1+1) n f/\(∀i:Nat,f (.int .i64 (i:Int))=(s.cn i).map λj=>.int .i64 (j:Int))/\∀k v,f k=some v->∃i:Nat,k=.int .i64 (i:Int)
 ZM:pp<h\/h+1+1+1+1+1<=pp
 Eg:∀b,s.lv.ownBlock=some b\/s.rv.ownBlock=some b\/s.bv.ownBlock=some b->b≠pp/\(b<h\/h+1+1+1+1+1<=b)
 ap3:∀b,s.lv.ownBlock=some b->s.rv.ownBlock≠some b/\s.bv.ownBlock≠some b
 ap4:∀b,s.rv.ownBlock=some b->s.bv.ownBlock≠some b
 ap5:∀b,s.S b->¬jN pp h s b
 ap6:∀b,s.S b->b<h\/h+1+1+1+1+1<=b
 mY:∀{m},m<h+1+1+1+1+1->m<w.heap.size
theorem dz.keep{w w':World}{pp h:Nat}{s:iH}{G:Nat->Prop}(k:dz w pp h s)(hk:dX G w w')(h1:∀b,jN pp h s b->¬G b)(h2:∀b,s.S b->¬G b):dz w' pp h s:=by
 obtain⟨x1,a1,b1⟩:=k.left;obtain⟨x2,a2,b2⟩:=k.right;obtain⟨f,c1,c2⟩:=k.find;obtain⟨n,g,d1,d2⟩:=k.orders;obtain⟨m,q,e1,e2⟩:=k.AX;have hL:∀b,s.lv.ownBlock=some b->¬G b:=λb hb=>h1 b (.inr (.inr (.inl hb)))
 have hR:∀b,s.rv.ownBlock=some b->¬G b:=λb hb=>h1 b (.inr (.inr (.inr (.inl hb))))
 have hB:∀b,s.bv.ownBlock=some b->¬G b:=λb hb=>h1 b (.inr (.inr (.inr (.inr hb))))
 have hM:∀m,h<=m->m<h+1+1+1->¬G m:=λm a b=>h1 m (.inr (.inl ⟨a,b⟩))
 exact⟨k.good,k.small,k.vY,(hk.block _ (bu k.box) (h1 pp (.inl rfl))).trans k.box,⟨x1,bI a1 hk hL,b1.keep hk h2⟩,⟨x2,bI a2 hk hR,b2.keep hk h2⟩,bI k.born hk hB,
  ⟨f,c1.keep (hk.block _ c1.lt (hM _ (by omega) (by omega))),c2⟩,⟨n,g,d1.keep (hk.block _ d1.lt (hM _ (by omega) (by omega))),d2⟩,⟨m,q,e1.keep (hk.block _ e1.lt (hM _ (by omega) (by omega))),e2⟩,k.ZM,k.Eg,k.ap3,k.ap4,k.ap5,k.ap6,λhm=>bz (k.mY hm) hk.size⟩
theorem dz.ext{s:iH}(k:dz w pp h s)(hx:Ext w w'):dz w' pp h s:=
 k.keep (fq (F:=λ_=>False) hx) (λ_ _=>id) (λ_ _=>id)
theorem dz.JH{s:iH}(k:dz w pp h s)(hb:jN pp h s b):b<w.heap.size:=by
 obtain⟨x1,a1,b1⟩:=k.left;obtain⟨x2,a2,b2⟩:=k.right;obtain⟨f,c1,c2⟩:=k.find;rcases hb with rfl|⟨h1,h2⟩|hb|hb|hb
 .exact bu k.box
 .exact k.mY (by omega)
 .exact(a1.lt b hb).2
 .exact(a2.lt b hb).2
 .exact(k.born.lt b hb).2
theorem dz.yA{s:iH}(k:dz w pp h s)(hb:s.S b):b<w.heap.size:=by
 obtain⟨x1,a1,b1⟩:=k.left;exact b1.2.1 b hb
theorem dz.c0{s:iH}(k:dz w pp h s):w.cell? ⟨pp,0,none⟩=some s.lv:=cell_of_row w pp 0 _ _ _ k.box
theorem dz.c1{s:iH}(k:dz w pp h s):w.cell? ⟨pp,1,none⟩=some s.rv:=cell_of_row w pp 1 _ _ _ k.box
theorem dz.c2{s:iH}(k:dz w pp h s):w.cell? ⟨pp,2,none⟩=some s.bv:=cell_of_row w pp 2 _ _ _ k.box
theorem dz.c3{s:iH}(k:dz w pp h s):w.cell? ⟨pp,3,none⟩=some (.map (some h)):=cell_of_row w pp 3 _ _ _ k.box
theorem dz.c4{s:iH}(k:dz w pp h s):w.cell? ⟨pp,4,none⟩=some (.map (some (h+1))):=cell_of_row w pp 4 _ _ _ k.box
theorem dz.c5{s:iH}(k:dz w pp h s):w.cell? ⟨pp,5,none⟩=some (.map (some (h+1+1))):=cell_of_row w pp 5 _ _ _ k.box
theorem kg.out{S:Nat->Prop}{w:World}{v:Value}{l:List Nat}(h:kg S w v l):Ints w v (dD l):=nN.out h
theorem dz.rG{s:iH}(k:dz w pp h s)(hi:i<s.D.length):
 ∃g cap a c,w.cell? ⟨pp,0,none⟩=some (.slice (some ⟨g,0,none⟩) s.D.length cap)/\s.D.length<=cap/\cap<=maxLen/\w.cell? ⟨g,i,none⟩=some (.slice a s.D[i].1.length c)/\kg s.S w (.slice a s.D[i].1.length c) s.D[i].1:=by
 obtain⟨xs,h1,h2⟩:=k.left;obtain⟨g,cap,e1,e2,e3,e4⟩:=gV h1 (by omega);have hi':i<(s.D.map (·.1)).length:=by simpa using hi
 obtain⟨a,c,q1,q2⟩:=h2.2.out i hi';rw[fT]at q1 q2;have q3:=take_at q1 (j:=0) (by omega);refine⟨g,cap,a,c,by rw[k.c0,e1],e2,e3,by rw[e4 i (by omega)];rw[jZ]at q3;exact q3,h2.2.1,λw2 h3=>?_⟩;obtain⟨a',c',q1',q2'⟩:=h2.2.2 w2 h3 i hi';rw[fT]at q1' q2';rw[q1]at q1';simp only[jQ,Value.slice.injEq,true_and,and_true]at q1';obtain⟨rfl,rfl⟩:=q1';exact q2'
theorem dz.pV{s:iH}(k:dz w pp h s)(hi:i<s.D.length):
 ∃g cap a c,w.cell? ⟨pp,1,none⟩=some (.slice (some ⟨g,0,none⟩) s.D.length cap)/\s.D.length<=cap/\cap<=maxLen/\w.cell? ⟨g,i,none⟩=some (.slice a s.D[i].2.length c)/\kg s.S w (.slice a s.D[i].2.length c) s.D[i].2:=by
 obtain⟨xs,h1,h2⟩:=k.right;obtain⟨g,cap,e1,e2,e3,e4⟩:=gV h1 (by omega);have hi':i<(s.D.map (·.2)).length:=by simpa using hi
 obtain⟨a,c,q1,q2⟩:=h2.2.out i hi';rw[fT]at q1 q2;have q3:=take_at q1 (j:=0) (by omega);refine⟨g,cap,a,c,by rw[k.c1,e1],e2,e3,by rw[e4 i (by omega)];rw[jZ]at q3;exact q3,h2.2.1,λw2 h3=>?_⟩;obtain⟨a',c',q1',q2'⟩:=h2.2.2 w2 h3 i hi';rw[fT]at q1' q2';rw[q1]at q1';simp only[jQ,Value.slice.injEq,true_and,and_true]at q1';obtain⟨rfl,rfl⟩:=q1';exact q2'
theorem dz.AY{s:iH}(k:dz w pp h s)(hi:i<s.D.length):
 ∃g cap,w.cell? ⟨pp,2,none⟩=some (.slice (some ⟨g,0,none⟩) s.D.length cap)/\s.D.length<=cap/\cap<=maxLen/\w.cell? ⟨g,i,none⟩=some (.int .i64 (bO.born (vl s.D i):Int)):=by
 obtain⟨g,cap,h1,h2,h3,h4⟩:=gV k.born (by omega);refine⟨g,cap,by rw[k.c2,h1],h2,h3,?_⟩;rw[h4 i (by omega)];simp[hi]
theorem dz.empty(hb:w.heap[h+1+1+1+1+1]?=some (.cells #[.slice none 0 0,.slice none 0 0,.slice none 0 0,.map (some h),.map (some (h+1)),.map (some (h+1+1)),.map (some (h+1+1+1)),.map (some (h+1+1+1+1))] 139 (0,0)))
 (hm:∀m,h<=m->m<h+1+1+1+1+1->w.heap[m]?=some (.map #[] 0)):dz w (h+1+1+1+1+1) h ⟨.slice none 0 0,.slice none 0 0,.slice none 0 0,[],λ_=>False,λ_=>none⟩:=by
 have nb:∀b,(Value.slice none 0 0).ownBlock≠some b:=by intro b;simp[Value.ownBlock]
 refine⟨bO.Good.nil,aJ _,⟨λ_ _ h=>by simp at h,λ_ _ h=>by simp at h,λ_ _ h=>by simp at h,λ_ _ _ h=>by simp at h⟩,hb,⟨[],⟨by simp,.inl ⟨rfl,rfl⟩⟩,Items.nil λ_ h=>h.elim⟩,⟨[],⟨by simp,.inl ⟨rfl,rfl⟩⟩,Items.nil λ_ h=>h.elim⟩,⟨by simp,.inl ⟨rfl,rfl⟩⟩,?_,?_,?_,by omega,?_,?_,?_,λ_ h=>h.elim,λ_ h=>h.elim,?_⟩
 .exact⟨_,gz.made _ _ (hm h (by omega) (by omega)),λi hi=>absurd hi (by simp),λ_ _ h=>by cases h⟩
 .exact⟨0,_,gz.made _ _ (hm (h+1) (by omega) (by omega)),λ_ _ h=>by cases h⟩
 .exact⟨0,_,gz.made _ _ (hm (h+1+1) (by omega) (by omega)),λ_=>rfl,λ_ _ h=>by cases h⟩
 .intro b hb;simp[nb]at hb
 .intro b hb;simp[nb]at hb
 .intro b hb;simp[nb]at hb
 .intro m h1;have:=bu hb;omega
structure jK(pp h:Nat)(s:iH)(w:World)(s':iH)(w':World):Prop where
 pool:dz w' pp h s'
 keep:dX (jN pp h s) w w'
 own:∀b,jN pp h s' b->jN pp h s b\/w.heap.size<=b
 old:∀b,s.S b->s'.S b
 lists:∀b,s'.S b->s.S b\/w.heap.size<=b
 more:∃E,s'.D=s.D++E
 known:∀i j,s.cn i=some j->s'.cn i=some j
theorem jK.refl{s:iH}(k:dz w pp h s)(hx:Ext w w'):jK pp h s w s w':=⟨k.ext hx,fq hx,λ_ h=>.inl h,λ_ h=>h,λ_ h=>.inl h,⟨[],by simp⟩,λ_ _ h=>h⟩
theorem jK.trans{w1 w2 w3:World}{pp h:Nat}{s1 s2 s3:iH}(k:jK pp h s1 w1 s2 w2)(m:jK pp h s2 w2 s3 w3):jK pp h s1 w1 s3 w3:=by
 have hz:=k.keep.size;refine⟨m.pool,k.keep.trans m.keep (λx hx hi=>by rcases k.own x hi with h|h;exact h;omega),λx hx=>?_,λb hb=>m.old b (k.old b hb),λx hx=>?_,?_,λi j hi=>m.known i j (k.known i j hi)⟩
 .rcases m.own x hx with h1|h1
  .exact k.own x h1
  .exact .inr (by omega)
 .rcases m.lists x hx with h1|h1
  .exact k.lists x h1
  .exact .inr (by omega)
 .obtain⟨E,h1⟩:=k.more
  obtain⟨E',h2⟩:=m.more;exact⟨E++E',by rw[h2,h1,dA]⟩
theorem jK.ext{w1 w2 w3:World}{s1 s2:iH}(k:jK pp h s1 w1 s2 w2)(hx:Ext w2 w3):jK pp h s1 w1 s2 w3:=k.trans (jK.refl k.pool hx)
theorem jK.len{s s':iH}(k:jK pp h s w s' w'):s.D.length<=s'.D.length:=by obtain⟨E,h⟩:=k.more;rw[h];simp
theorem jK.vl{w w':World}{pp h:Nat}{s s':iH}(k:jK pp h s w s' w')(hw:bO.WF s.D){i:Nat}(hi:i<s.D.length):vl s'.D i=vl s.D i:=by
 obtain⟨E,h⟩:=k.more;have hg:=k.pool.good.wf;rw[h]at hg ⊢;exact bO.ik hw hg i hi
theorem jK.nd{w w':World}{pp h:Nat}{s s':iH}(k:jK pp h s w s' w'){i:Nat}{nd:Nd}(hi:s.D[i]?=some nd):s'.D[i]?=some nd:=by
 obtain⟨E,h⟩:=k.more;rw[h];exact bO.getElem?_append_some hi
def Off(pp h:Nat)(s:iH)(w:World)(T:Nat->Prop):Prop:=∀b,T b->b<w.heap.size/\¬jN pp h s b
theorem Off.go{s s':iH}(o:Off pp h s w T)(k:jK pp h s w s' w'):Off pp h s' w' T:=λb hb=>by
 have h1:=o b hb;have hz:=k.keep.size;refine⟨by omega,λh2=>?_⟩;rcases k.own b h2 with h3|h3
 .exact h1.2 h3
 .omega
theorem Off.lists{s:iH}(k:dz w pp h s):Off pp h s w s.S:=λb hb=>⟨k.yA hb,k.ap5 b hb⟩
theorem Off.ext{s:iH}(o:Off pp h s w T)(hx:Ext w w'):Off pp h s w' T:=λb hb=>⟨bz (o b hb).1 hx.size,(o b hb).2⟩
theorem nN.go{s s':iH}{A:World->Prop}(a:nN T A w)(o:Off pp h s w T)(k:jK pp h s w s' w'):nN T A w':=a.keep k.keep λb hb=>(o b hb).2
end
section
open bO
variable {D E:dH} {root i N:Nat} {left:Bool} {l q line B:List Nat}
structure ja(D:dH)(root:Nat)(left:Bool)(l q line B:List Nat):Prop where
 nodup:line.Nodup
 lt:∀x,x∈line\/x∈q->x<D.length
 sub:∀x,x∈l->x∈line\/x∈q
 sound:∀x,x∈line\/x∈q->x∈l\/∃k,k<D.length/\lZ D left root k/\x∈opt D left k
 kept:∀x,x∈B->x∈line/\∀y,y∈opt D (!left) x->¬lZ D left root y
 Ef:B.Nodup
 done:∀x,x∈line->x∈B\/∃y,y∈opt D (!left) x/\lZ D left root y/\∀z,z∈opt D left y->z∈line\/z∈q
 xL:B.length<=line.length
 um:∀P:Nat->Prop,(∀i side x,P i->x∈opt D side i->P x)->(∀x,x∈l->P x)->∀x,x∈line\/x∈q->P x
theorem ja.start(hl:∀x,x∈l->x<D.length):ja D root left l l [] []:=
 ⟨List.nodup_nil,λx h=>by rcases h with h|h;cases h;exact hl x h,λx h=>.inr h,λx h=>by rcases h with h|h;cases h;exact .inl h,by simp,List.nodup_nil,by simp,ay _,λP _ hp x h=>by rcases h with h|h;cases h;exact hp x h⟩
theorem ja.len(h:ja D root left l q line B):line.length<=D.length:=jI h.nodup λx hx=>h.lt x (.inl hx)
theorem ja.skip(h:ja D root left l (q++[i]) line B)(hi:i∈line):ja D root left l q line B:=by
 have m:∀x,x∈line\/x∈q++[i]->x∈line\/x∈q:=λx hx=>by
  rcases hx with hx|hx
  .exact .inl hx
  .rcases bq.1 hx with hx|hx
   .exact .inr hx
   .simp at hx;subst hx;exact .inl hi
 have m2:∀x,x∈line\/x∈q->x∈line\/x∈q++[i]:=λx hx=>by
  rcases hx with hx|hx
  .exact .inl hx
  .exact .inr (bq.2 (.inl hx))
 exact⟨h.nodup,λx hx=>h.lt x (m2 x hx),λx hx=>m x (h.sub x hx),λx hx=>h.sound x (m2 x hx),h.kept,h.Ef,λx hx=>by
  rcases h.done x hx with a|⟨y,a,b,c⟩
  .exact .inl a
  .exact .inr ⟨y,a,b,λz hz=>m z (c z hz)⟩,h.xL,λP hc hp x hx=>h.um P hc hp x (m2 x hx)⟩
theorem ja.keep(h:ja D root left l (q++[i]) line B)(hi:i ∉ line)(hn:∀y,y∈opt D (!left) i->¬lZ D left root y):ja D root left l q (line++[i]) (B++[i]):=by
 have m:∀x,x∈line\/x∈q++[i]->x∈line++[i]\/x∈q:=λx hx=>by
  rcases hx with hx|hx
  .exact .inl (by simp[hx])
  .rcases bq.1 hx with hx|hx
   .exact .inr hx
   .exact .inl (bq.2 (.inr hx))
 have m2:∀x,x∈line++[i]\/x∈q->x∈line\/x∈q++[i]:=λx hx=>by
  rcases hx with hx|hx
  .rcases bq.1 hx with hx|hx
   .exact .inl hx
   .exact .inr (bq.2 (.inr hx))
  .exact .inr (bq.2 (.inl hx))
 refine⟨?_,λx hx=>h.lt x (m2 x hx),λx hx=>m x (h.sub x hx),λx hx=>h.sound x (m2 x hx),λx hx=>?_,?_,λx hx=>?_,by simp;exact h.xL,λP hc hp x hx=>h.um P hc hp x (m2 x hx)⟩
 .rw[l5];exact⟨h.nodup,by simp,λa ha b hb=>by simp at hb;subst hb;rintro rfl;exact hi ha⟩
 .rcases bq.1 hx with hx|hx
  .exact⟨by simp[(h.kept x hx).1],(h.kept x hx).2⟩
  .simp at hx;subst hx;exact⟨by simp,hn⟩
 .rw[l5];exact⟨h.Ef,by simp,λa ha b hb=>by simp at hb;subst hb;rintro rfl;exact hi (h.kept a ha).1⟩
 .rcases bq.1 hx with hx|hx
  .rcases h.done x hx with a|⟨y,a,b,c⟩
   .exact .inl (by simp[a])
   .exact .inr ⟨y,a,b,λz hz=>m z (c z hz)⟩
  .exact .inl (bq.2 (.inr hx))
theorem ja.pass(hD:WF D){y:Nat}(h:ja D root left l (q++[i]) line B)(hi:i ∉ line)(hy:y∈opt D (!left) i)(hg:lZ D left root y):ja D root left l (q++opt D left y) (line++[i]) B:=by
 have hil:i<D.length:=h.lt i (.inr (by simp));have hyl:y<D.length:=by have:=ku hD hy;omega
 have m:∀x,x∈line\/x∈q++[i]->x∈line++[i]\/x∈q++opt D left y:=λx hx=>by
  rcases hx with hx|hx
  .exact .inl (by simp[hx])
  .rcases bq.1 hx with hx|hx
   .exact .inr (by simp[hx])
   .exact .inl (bq.2 (.inr hx))
 have m2:∀x,x∈line++[i]\/x∈q++opt D left y->(x∈line\/x∈q++[i])\/x∈opt D left y:=λx hx=>by
  rcases hx with hx|hx
  .rcases bq.1 hx with hx|hx
   .exact .inl (.inl hx)
   .exact .inl (.inr (bq.2 (.inr hx)))
  .rcases bq.1 hx with hx|hx
   .exact .inl (.inr (bq.2 (.inl hx)))
   .exact .inr hx
 refine⟨?_,λx hx=>?_,λx hx=>m x (h.sub x hx),λx hx=>?_,λx hx=>⟨by simp[(h.kept x hx).1],(h.kept x hx).2⟩,h.Ef,λx hx=>?_,by simp;have:=h.xL;omega,λP hc hp x hx=>?_⟩
 .rw[l5];exact⟨h.nodup,by simp,λa ha b hb=>by simp at hb;subst hb;rintro rfl;exact hi ha⟩
 .rcases m2 x hx with hx|hx
  .exact h.lt x hx
  .have:=ku hD hx;omega
 .rcases m2 x hx with hx|hx
  .exact h.sound x hx
  .exact .inr ⟨y,hyl,hg,hx⟩
 .rcases bq.1 hx with hx|hx
  .rcases h.done x hx with a|⟨y,a,b,c⟩
   .exact .inl a
   .exact .inr ⟨y,a,b,λz hz=>m z (c z hz)⟩
  .simp at hx;subst hx
   exact .inr ⟨y,hy,hg,λz hz=>.inr (bq.2 (.inr hz))⟩
 .rcases m2 x hx with hx|hx
  .exact h.um P hc hp x hx
  .exact hc _ _ _ (hc _ _ _ (h.um P hc hp i (.inr (by simp))) hy) hx
theorem ja.open(h:ja D root left l [] line B):gQ D root left l line B line.length:=by
 have m:∀x,x∈line\/x∈([]:List Nat)->x∈line:=λx hx=>by rcases hx with hx|hx;exact hx;cases hx
 exact⟨h.nodup,λx hx=>h.lt x (.inl hx),λx hx=>m x (h.sub x hx),λx hx=>h.sound x (.inl hx),h.kept,λj hj _=>by
  rcases h.done _ (ai hj)with a|⟨y,a,b,c⟩
  .exact .inl a
  .exact .inr ⟨y,a,b,λz hz=>m z (c z hz)⟩,h.xL,λP hc hp x hx=>h.um P hc hp x (.inl hx)⟩
theorem TS{side:Bool}:∀x,x∈opt D side i->i<D.length:=λx hx=>by
 unfold opt at hx;cases e:D[i]? with
 |none=>rw[e]at hx;simp at hx
 |some nd=>exact(cK.1 e).1
theorem vW(hD:WF D)(hE:WF (D++E)){j:Nat}(hi:i<D.length)(hj:j<D.length):lZ (D++E) left i j↔lZ D left i j:=by
 unfold lZ;rw[ik hD hE i hi,ik hD hE j hj]
theorem gQ.more(hD:WF D)(hE:WF (D++E))(hr:root<D.length)(h:gQ D root left l line B i):gQ (D++E) root left l line B i:=by
 refine⟨h.nodup,λx hx=>by have:=h.lt x hx;simp;omega,h.sub,λx hx=>?_,λx hx=>?_,λj hj hji=>?_,h.xL,λP hc hp x hx=>?_⟩
 .rcases h.sound x hx with a|⟨k,a,b,c⟩
  .exact .inl a
  .exact .inr ⟨k,by simp;omega,(vW hD hE hr a).2 b,by rw[oK a];exact c⟩
 .obtain⟨a,b⟩:=h.kept x hx
  refine⟨a,λy hy hg=>?_⟩;have hxl:=h.lt x a;rw[oK hxl]at hy;exact b y hy ((vW hD hE hr (by have:=ku hD hy;omega)).1 hg)
 .rcases h.done j hj hji with a|⟨y,a,b,c⟩
  .exact .inl a
  .have hjl:=h.lt _ (ai hj)
   have hyl:y<D.length:=(by have:=ku hD a;omega);exact .inr ⟨y,by rw[oK hjl];exact a,(vW hD hE hr hyl).2 b,λz hz=>c z (by rw[oK hyl]at hz;exact hz)⟩
 .exact h.um P (λi side x hi hx'=>hc i side x hi (by rw[oK (TS x hx')];exact hx')) hp x hx
theorem wD.more(hD:WF D)(hE:WF (D++E)){F:List Nat}(hB:∀x,x∈B->x<D.length)(h:wD D left B F):wD (D++E) left B F:=by
 refine⟨λx hx=>?_,λx hx=>?_⟩
 .obtain⟨a,b⟩:=h.1 x hx
  exact⟨a,λz hz hg=>b z hz ((vW hD hE (hB z hz) (hB x a)).1 hg)⟩
 .obtain⟨z,hz,hg⟩:=h.2 x hx
  exact⟨z,hz,(vW hD hE (hB z (h.1 z hz).1) (hB x hx)).2 hg⟩
theorem Qv(hD:WF D){r vE BL vz BR FL FR:List Nat}(hE:iO (.mk (l.map (vl D)) (r.map (vl D))) (vl D root))(cl:∀x,x∈l->Canon (vl D x))(cr:∀x,x∈r->Canon (vl D x))
 (iL:gQ D root true l vE BL vE.length) (iR:gQ D root false r vz BR vz.length) (mL:wD D true BL FL) (mR:wD D false BR FR):
 iO (.mk (FL.map (vl D)) (FR.map (vl D))) (vl D root)/\Canon (.mk (FL.map (vl D)) (FR.map (vl D))):=by
 have sR:∀x,x∈FR->¬Ge (vl D root) (vl D x):=by
  intro x hx;rcases iR.sound x (iR.kept x (mR.1 x hx).1).1 with h|⟨k,_,hk,h⟩
  .intro c
   exact nX (a:=.mk (l.map (vl D)) (r.map (vl D))) (aH.2 ⟨x,h,rfl⟩) (hE.CF.2 c)
  .exact Om (by simpa [lZ]using hk) (Bv hD h)
 have sL:∀x,x∈FL->¬Ge (vl D x) (vl D root):=by
  intro x hx;rcases iL.sound x (iL.kept x (mL.1 x hx).1).1 with h|⟨k,_,hk,h⟩
  .intro c
   exact nY (a:=.mk (l.map (vl D)) (r.map (vl D))) (aH.2 ⟨x,h,rfl⟩) (hE.zN.2 c)
  .exact Oo (by simpa [lZ]using hk) (Bw hD h)
 have g1:Ge (.mk (FL.map (vl D)) (FR.map (vl D))) (.mk (l.map (vl D)) (r.map (vl D))):=by
  refine Fy (λg=>∃x,x∈vE/\g=vl D x) ?_ ?_ ?_
  .intro g hg
   obtain⟨x,hx,rfl⟩:=aH.1 (show g∈l.map (vl D) from hg);exact⟨_,⟨x,iL.sub x hx,rfl⟩,mW _⟩
  .rintro _ ⟨x,hx,rfl⟩
   obtain⟨j,hj,rfl⟩:=aW.1 hx;rcases iL.done j hj hj with h|⟨y,hy,hg,hz⟩
   .obtain⟨z,hz,hg⟩:=mL.2 _ h
    exact .inl ⟨vl D z,aH.2 ⟨z,hz,rfl⟩,by simpa [lZ]using hg⟩
   .refine .inr ⟨vl D y,Bv hD (by simpa using hy),hE.CF.2 (by simpa [lZ]using hg),λg hg'=>?_⟩
    obtain⟨z,hz',rfl⟩:=OH hD hg';exact⟨z,hz z hz',rfl⟩
  .intro g hg
   obtain⟨x,hx,rfl⟩:=aH.1 (show g∈FR.map (vl D) from hg);intro c;exact sR x hx (hE.CF.1 c)
 have g2:Ge (.mk (l.map (vl D)) (r.map (vl D))) (.mk (FL.map (vl D)) (FR.map (vl D))):=by
  refine Fx (λg=>∃x,x∈vz/\g=vl D x) ?_ ?_ ?_
  .intro g hg
   obtain⟨x,hx,rfl⟩:=aH.1 (show g∈r.map (vl D) from hg);exact⟨_,⟨x,iR.sub x hx,rfl⟩,mW _⟩
  .rintro _ ⟨x,hx,rfl⟩
   obtain⟨j,hj,rfl⟩:=aW.1 hx;rcases iR.done j hj hj with h|⟨y,hy,hg,hz⟩
   .obtain⟨z,hz,hg⟩:=mR.2 _ h
    exact .inl ⟨vl D z,aH.2 ⟨z,hz,rfl⟩,by simpa [lZ]using hg⟩
   .refine .inr ⟨vl D y,Bw hD (by simpa using hy),hE.zN.2 (by simpa [lZ]using hg),λg hg'=>?_⟩
    obtain⟨z,hz',rfl⟩:=Ov hD hg';exact⟨z,hz z hz',rfl⟩
  .intro g hg
   obtain⟨x,hx,rfl⟩:=aH.1 (show g∈FL.map (vl D) from hg);intro c;exact sL x hx (hE.zN.1 c)
 refine⟨iO.trans ⟨g1,g2⟩ hE,Canon.mk _ ⟨?_,?_,?_,?_⟩ ?_ ?_⟩
 .intro x y hx hy h
  obtain⟨a,ha,rfl⟩:=aH.1 hx;obtain⟨b,hb,rfl⟩:=aH.1 hy;rw[(mL.1 b hb).2 a (mL.1 a ha).1 (by simpa [lZ]using h)];exact iP _
 .intro x y hx hy h
  obtain⟨a,ha,rfl⟩:=aH.1 hx;obtain⟨b,hb,rfl⟩:=aH.1 hy;rw[(mR.1 a ha).2 b (mR.1 b hb).1 (by simpa [lZ]using h)];exact iP _
 .intro x hx y hy h
  obtain⟨a,ha,rfl⟩:=aH.1 hx;obtain⟨c,hc,rfl⟩:=Ov hD hy;have:=(iL.kept a (mL.1 a ha).1).2 c (by simpa using hc);simp[lZ]at this;exact this (hE.CF.1 (dQ _ _ _ g2 h))
 .intro x hx y hy h
  obtain⟨a,ha,rfl⟩:=aH.1 hx;obtain⟨c,hc,rfl⟩:=OH hD hy;have:=(iR.kept a (mR.1 a ha).1).2 c (by simpa using hc);simp[lZ]at this;exact this (hE.zN.1 (dQ _ _ _ h g1))
 .intro x hx
  obtain⟨a,ha,rfl⟩:=aH.1 hx;exact mg hD iL cl a (iL.kept a (mL.1 a ha).1).1
 .intro x hx
  obtain⟨a,ha,rfl⟩:=aH.1 hx;exact mg hD iR cr a (iR.kept a (mR.1 a ha).1).1
def miss(N:Nat)(cn:Nat->Option Nat):Nat:=((List.range N).filter λx=>(cn x).isNone).length
theorem Yv{f:Nat}{cn AU:Nat->Option Nat}(h:∀x,x<N->(cn x).isSome->(AU x).isSome)(hf:f<N)(h1:cn f=none)(h2:(AU f).isSome):miss N AU+1<=miss N cn:=by
 unfold miss;have key:∀l:List Nat,(∀x,x∈l->x<N)->(f∈l->(l.filter λx=>(AU x).isNone).length+1<=(l.filter λx=>(cn x).isNone).length)/\(l.filter λx=>(AU x).isNone).length<=(l.filter λx=>(cn x).isNone).length:=by
  intro l
  induction l with
  |nil=>intro _;simp
  |cons x l ih=>
   intro hl;obtain⟨h3,h4⟩:=ih λy hy=>hl y (by simp[hy])
   have hx:=h x (hl x (by simp));simp only[List.filter_cons,eT];by_cases e:f=x
   .subst e
    have:(AU f).isNone=false:=by cases e:AU f with|none=>rw[e]at h2;cases h2|some _=>rfl
    rw[this,h1];simp;omega
   .have hm:(f=x\/f∈l)↔f∈l:=by simp[e]
    rw[hm];cases e1:cn x with
    |none=>split <;> simp <;> constructor <;> intros <;> first|omega|(have:=h3 (by assumption);omega)
    |some j=>
     rw[e1]at hx;have h5:=hx rfl;have:(AU x).isNone=false:=by cases e:AU x with|none=>rw[e]at h5;cases h5|some _=>rfl
     simp[this];exact⟨λh=>by have:=h3 h;omega,h4⟩
 exact(key _ λx hx=>dM.1 hx).1 (dM.2 hf)
theorem FK{M:Nat}(h:N<=M)(cn:Nat->Option Nat):miss N cn<=miss M cn:=by
 unfold miss;obtain⟨k,rfl⟩:∃k,M=N+k:=⟨M-N,by omega⟩;rw[List.range_add,List.filter_append,aK];omega
end
end Go.Proofs.YteknjeohbcgpdaaGreatDoor