/- 23 -/
import Derived.Test.YtplgooajigigkaaGreatDoorQ20
import Derived.WideMake
set_option maxRecDepth 100000
set_option maxHeartbeats 4000000
namespace Go.Proofs.YtplgooajigigkaaGreatDoor
open Tryz
section
open Go.RowKit
def mg(n:Nat):Nat:=if n<10 then 48+n else 87+n
def xn:Nat->Nat->List Nat
 | 0,_=>[]
 |k+1,n=>if n<36 then [mg n]else xn k (n / 36)++[mg (n % 36)]
def yB(n:Nat):List Nat:=xn 4 n
theorem X3{k n:Nat}(h:n<36):xn (k+1) n=[mg n]:=by rw[xn,if_pos h]
theorem Nj:(prog.info? 5).map (λi=>(i.zero,i.size,i.bytes))=some (some (.int .u8 0),1,1):=by kernel_rfl
theorem NB{r:Nat}(h:r<36):(({ data:=#[48,49,50,51,52,53,54,55,56,57,97,98,99,100,101,102,103,104,105,106,107,108,109,110,111,112,113,114,115,116,117,118,119,120,121,122] }:ByteArray)[r]'h).toNat=mg r:=by
 have key:∀r:Fin 36,(({ data:=#[48,49,50,51,52,53,54,55,56,57,97,98,99,100,101,102,103,104,105,106,107,108,109,110,111,112,113,114,115,116,117,118,119,120,121,122] }:ByteArray)[r.1]'r.2).toNat=mg r.1:=by decide
 exact key ⟨r,h⟩
def u8s(l:List Nat):List Value:=l.map λ(d:Nat)=>.int .u8 (d:Int)
theorem Dx{j:Nat}{ds:List Nat}(d:Nat):(u8s (List.replicate (j+1) 0++ds)).set j (.int .u8 (d:Int))=u8s (List.replicate j 0++d :: ds):=by
 have e:List.replicate (j+1) 0++ds=List.replicate j 0++0 :: ds:=by rw[List.replicate_succ',dh];rfl
 rw[e,u8s,bz,qJ _ _ (by simp)];simp[u8s]
theorem VT(l:List Nat):∀u∈u8s l,u.oneCell'=true:=by
 intro u hu;obtain⟨x,_,rfl⟩:=ay.1 hu;rfl
theorem formatBits_36(n:Nat)(hn:n<1000000)(sv:Value)(m B:Nat)(xs:List Value)(w:World)(hown:w.ownsRow B 5 1 sv m xs)(hB:B<=w.heap.size)(hm:m<=1000000000):
 Calls prog 213 #[sv,.int .u64 (n:Int),.int .i64 36,.bool false,.bool true] w λe w'=>∃v',e=.returned (.tuple #[v',.string ⟨#[]⟩])/\w'.ownsRow B 5 1 v' (m+(yB n).length) (xs++u8s (yB n))/\dW (λb=>sv.ownBlock=some b) w w'/\(∀b,v'.ownBlock=some b->sv.ownBlock=some b\/w.heap.size<=b):=by
 obtain⟨i0,hi0,hz0,hz1,hz2⟩:=info_parts Nj;obtain⟨a0,c0,rfl,hmc,_⟩:=bu hown;go_enter Tryz.func213,Tryz.ntmps213
 go_wp2
 have hz:(Tryz.zeroCells273).toList=u8s (List.replicate 65 0):=by kernel_rfl
 have hsz:(Tryz.zeroCells273).size=65:=by kernel_rfl
 have ho0:(w.alloc (.cells Tryz.zeroCells273 273)).ownsRow w.heap.size 273 1 (.slice (some ⟨w.heap.size,0,none⟩) 65 65) 65 (u8s (List.replicate 65 0)):=by
  rw[<-hz];exact World.ownsRow_lit w _ _ (ax _) (by decide) (by rw[hsz])
 have hx0:Ext w (w.alloc (.cells Tryz.zeroCells273 273)):=by go_grown
 generalize w.alloc (.cells Tryz.zeroCells273 273)=W0 at *;clear hz hsz;go_loopw [1,13] (λuu ii wr=>∃i u ds,ii=.int .i64 ((i:Nat):Int)/\uu=.int .u64 ((u:Nat):Int)/\62<=i/\i<=65/\u<36 ^ (i-61)/\Ext w wr/\wr.ownsRow w.heap.size 273 1 (.slice (some ⟨w.heap.size,0,none⟩) 65 65) 65 (u8s (List.replicate i 0++ds))/\Hid (ds.length=65-i)/\Hid (xn (i-61) u++ds=yB n)) (λ_ ii _=>(intOf ii).toNat)
 case atStart=>exact⟨65,n,[],rfl,rfl,by omega,by omega,by omega,hx0,by simpa using ho0,rfl,by simp[Hid,yB]⟩
 case round=>
  clear ho0 hx0;obtain⟨i,u,ds,rfl,rfl,hi1,hi2,hu,hE,ho,HL,HB⟩:=hrel;have hu6:u<1679616:=aJ hu (df (Nat.pow_le_pow_right (by omega) (by omega:i-61<=4)) (by decide));by_cases hlt:36<=u
  .have hi3:63<=i:=by
    by_cases c:i=62
    .subst c;simp at hu;omega
    .omega
   have h1:(36:Int)<=(u:Int):=(by omega);obtain⟨j,rfl⟩:∃j,i=j+1:=⟨i-1,by omega⟩;have hj1:((j+1:Nat):Int)-1=(j:Int):=(by omega);have hcl:(u8s (List.replicate (j+1) 0++ds)).length=65:=(by have:=ho.1;simpa using this);have cj:=ho.cellAt j (by omega);rw[ae (by omega)]at cj;have fj:=ho.frozenAt j;go_wp2
   go_roundw
   case rel=>
    (repeat apply Exists.intro)
    refine⟨?_,rfl⟩;refine⟨j,u / 36,mg (u % 36):: ds,rfl,?_,by omega,by omega,?_,?_,?_,?_,?_⟩
    .rw[show((u / 36:Nat):Int)=(u:Int) / 36 by omega]
    .have e:j+1-61=(j-61)+1:=by omega
     rw[e,Nat.pow_succ]at hu;exact Nat.div_lt_of_lt_mul (by rw[kP];exact hu)
    .exact hE.setCell (p:=⟨w.heap.size,j,none⟩) (ax _) _
    .rw[NB (show u-u / 36*36<36 by omega),show u-u / 36*36=u % 36 by omega,<-Dx]
     exact(ho.stored j _).1
    .have:=HL.out
     show(mg (u % 36):: ds).length=65-j;rw[l9];omega
    .have h:=HB.out
     have e:j+1-61=(j-61)+1:=(by omega);rw[e,xn,if_neg (by omega)]at h;show xn (j-61) (u / 36)++mg (u % 36):: ds=yB n;rw[<-h,dh];rfl
   case measure=>simp[intOf]
  .have h1:¬((36:Int)<=(u:Int)):=by omega
   obtain⟨j,rfl⟩:∃j,i=j+1:=⟨i-1,by omega⟩;have hj1:((j+1:Nat):Int)-1=(j:Int):=(by omega);have hcl:(u8s (List.replicate (j+1) 0++ds)).length=65:=(by have:=ho.1;simpa using this);have cj:=ho.cellAt j (by omega);rw[ae (by omega)]at cj;have fj:=ho.frozenAt j;have harr:prog.arrayLen 273=65:=(by kernel_rfl);have hsl:=λW:World=>run_sliceAt_array_l (P:=prog) W 273 ⟨w.heap.size,0,none⟩ underlying273 .i64 (j:Int) (by omega) (by rw[harr];omega)
   have hsz:=λW:World=>(by kernel_rfl:(sizeOf (prog.elem 273)).run prog W=.ok 1 W)
   simp only[hsz,Result.andThen_ok,slicedAt,harr,eB]at hsl;rw[if_neg (by omega),show(⟨w.heap.size,0,none⟩:Addr).add (j*1)=⟨w.heap.size,j,none⟩ by simp[Addr.add];omega]at hsl;have Sq:u<36:=(by omega);have hd:=NB Sq;have HL2:Hid (u8s (mg u :: ds)=((u8s (List.replicate j 0++mg u :: ds)).drop j).take (65-j)):=by
    have hl:=HL.out;unfold Hid u8s;rw[bz,List.drop_append_of_le_length (by simp),List.drop_of_length_le (by simp),gX,dH (by simp;omega)]
   have hb:yB n=mg u :: ds:=by
    have h:=HB.out;obtain⟨k,hk⟩:∃k,j+1-61=k+1:=⟨j-61,by omega⟩;rw[hk,X3 Sq]at h;exact h.symm
   have HBN:=aI hb;have ho2:(wr.setCell ⟨w.heap.size,j,none⟩ (.int .u8 (((({ data:=#[48,49,50,51,52,53,54,55,56,57,97,98,99,100,101,102,103,104,105,106,107,108,109,110,111,112,113,114,115,116,117,118,119,120,121,122] }:ByteArray)[u]'Sq).toNat:Nat):Int))).ownsRow w.heap.size 273 1 (.slice (some ⟨w.heap.size,0,none⟩) 65 65) 65 (u8s (List.replicate j 0++mg u :: ds)):=by
    rw[hd,<-Dx];exact(ho.stored j (.int .u8 ((mg u:Nat):Int))).1
   have hE2:Ext w (wr.setCell ⟨w.heap.size,j,none⟩ (.int .u8 (((({ data:=#[48,49,50,51,52,53,54,55,56,57,97,98,99,100,101,102,103,104,105,106,107,108,109,110,111,112,113,114,115,116,117,118,119,120,121,122] }:ByteArray)[u]'Sq).toNat:Nat):Int))):=hE.setCell (p:=⟨w.heap.size,j,none⟩) (ax _) _;have HHD:=aI hd;clear hb hd;go_upto_region 29 with fail
   generalize wr.setCell ⟨w.heap.size,j,none⟩ (.int .u8 (((({ data:=#[48,49,50,51,52,53,54,55,56,57,97,98,99,100,101,102,103,104,105,106,107,108,109,110,111,112,113,114,115,116,117,118,119,120,121,122] }:ByteArray)[u]'Sq).toNat:Nat):Int))=W2 at *;have hown2:=bW hown hE2;have hz2':=hE2.size;have hsrc:=xH ho2 (fJ _ _) j (65-j) (by omega);rw[<-HL2.out]at hsrc;have hln:(u8s (mg u :: ds)).length=65-j:=(by have:=HL.out;simp[u8s];omega);have wK:=aI hln;clear hln cj fj hE ho;go_wp2_with (at_builtin;refine dm rfl (.tmp 95) (.tmp 97) 39 rfl B 5 i0 (.int .u8 0) 1 1 underlying39 hi0 hz0 hz1 hz2 rfl (by decide) (.slice a0 m c0) m xs rfl hown2 (some ⟨w.heap.size,j,none⟩) (65-j) (65-j) (u8s (mg u :: ds)) rfl (by rw[wK.out,jo]) (.inr ⟨_,rfl,hsrc⟩) (VT _) (by unfold maxLen;omega) (by omega) (by omega) ?_;intro v5 w5 ji hg5 hl5)
   go_ret2
   refine⟨v5,rfl,?_,⟨hg5.os.trans hE2.os,hg5.tape.trans hE2.tape,hg5.output.trans hE2.output,by have:=hg5.size;omega,λk hk hn=>by rw[hg5.block k (by omega) (λe=>hn e.symm)];exact hE2.block k hk⟩,λb hb=>by
    rcases hl5 with h|⟨g,h,h2⟩
    .exact .inl (by rw[<-h];exact hb)
    .rw[h]at hb;injection hb with hb;exact .inr (by omega)⟩
   rw[HBN.out];have:(mg u :: ds).length=65-j:=(by have:=wK.out;simpa [u8s]using this);rw[this];exact ji
def F7(n:Nat)(sv:Value)(m B:Nat)(xs:List Value)(w:World)(e:Ending)(w':World):Prop:=
 ∃v',e=.returned v'/\w'.ownsRow B 5 1 v' (m+(yB n).length) (xs++u8s (yB n))/\dW (λb=>sv.ownBlock=some b) w w'/\(∀b,v'.ownBlock=some b->sv.ownBlock=some b\/w.heap.size<=b)
theorem AppendInt_36(n:Nat)(hn:n<1000000)(sv:Value)(m B:Nat)(xs:List Value)(w:World)(hown:w.ownsRow B 5 1 sv m xs)(hB:B<=w.heap.size)(hm:m<=1000000000):
 Calls prog 173 #[sv,.int .i64 (n:Int),.int .i64 36] w (F7 n sv m B xs w):=by
 obtain⟨a0,c0,rfl,hmc,_⟩:=bu hown;have h1:Calls prog 253 #[.slice a0 m c0,.int .u64 (n:Int),.int .i64 36] w (F7 n (.slice a0 m c0) m B xs w):=by
  go_enter Tryz.func253,Tryz.ntmps253
  go_wp2_with (go_at_call 213;refine(formatBits_36 n hn _ m B xs _ hown hB hm).mono ?_;rintro e w1 ⟨v',rfl,h1,h2,h3⟩)
  go_ret
  exact⟨v',rfl,h1,h2,h3⟩
 have h2:Calls prog 206 #[.slice a0 m c0,.int .i64 (n:Int),.int .i64 36] w (F7 n (.slice a0 m c0) m B xs w):=by
  go_enter Tryz.func206,Tryz.ntmps206
  go_wp2_with (go_at_call 253;refine h1.mono ?_;rintro e w1 ⟨v',rfl,h1,h2,h3⟩)
  go_ret
  exact⟨v',rfl,h1,h2,h3⟩
 go_enter Tryz.func173,Tryz.ntmps173
 go_wp2_with (go_at_call 206;refine h2.mono ?_;rintro e w1 ⟨v',rfl,h1,h2,h3⟩)
 go_ret
 exact⟨v',rfl,h1,h2,h3⟩
end
section
variable {d:Nat} {l r:List Nat}
def und(x:Nat):Nat:=if x<58 then x-48 else x-87
theorem MF(h:d<36):und (mg d)=d:=by unfold und mg;split <;> split <;> omega
theorem Eo(h:d<36):48<=mg d/\mg d<=122:=by unfold mg;split <;> omega
theorem sZ:∀k n x,x∈xn k n->48<=x/\x<=122
 | 0,n,x,h=>by simp[xn]at h
 |k+1,n,x,h=>by
  rw[xn]at h;split at h
  .rename_i hn
   simp at h;subst h;exact Eo hn
  .rcases aM.1 h with h|h
   .exact sZ k _ x h
   .simp at h;subst h;exact Eo (Nat.mod_lt _ (by omega))
def TR(l:List Nat):Nat:=l.foldl (λa x=>a*36+und x) 0
theorem Cm:∀k n,n<36 ^ k->TR (xn k n)=n
 | 0,n,h=>by simp at h;subst h;rfl
 |k+1,n,h=>by
  rw[xn];split
  .rename_i hn
   simp[TR,MF hn]
  .have ih:=Cm k (n / 36) (by rw[Nat.div_lt_iff_lt_mul (by omega)];rw[Nat.pow_succ]at h;exact h)
   unfold TR at ih ⊢;rw[List.foldl_append,ih];simp only[List.foldl_cons,List.foldl_nil,MF (Nat.mod_lt n (show 36 > 0 by omega))];omega
theorem X4{n m:Nat}(hn:n<1000000)(hm:m<1000000)(h:yB n=yB m):n=m:=by
 have e1:=Cm 4 n (by omega);have e2:=Cm 4 m (by omega);unfold yB at h;rw[<-e1,<-e2,h]
def jG(l:List Nat):List Nat:=l.flatMap λi=>yB i++[44]
def sK(l r:List Nat):List Nat:=jG l++124 :: jG r
theorem O3(l:List Nat)(i:Nat):jG (l++[i])=jG l++(yB i++[44]):=by simp[jG]
theorem TU{c:Nat}:∀{a b x y:List Nat},c ∉ a->c ∉ b->a++c :: x=b++c :: y->a=b/\x=y
 |[],[],x,y,_,_,h=>by simpa using h
 |[],d :: b,x,y,_,hb,h=>by simp at h;exact absurd h.1 (λe=>hb (by simp[e]))
 |d :: a,[],x,y,ha,_,h=>by simp at h;exact absurd h.1.symm (λe=>ha (by simp[e]))
 |d :: a,e :: b,x,y,ha,hb,h=>by
  simp only[List.cons_append,iZ]at h;obtain⟨rfl,h⟩:=h;obtain⟨rfl,h2⟩:=TU (λk=>ha (List.mem_cons_of_mem _ k)) (λk=>hb (List.mem_cons_of_mem _ k)) h;exact⟨rfl,h2⟩
def Stop(t:List Nat):Prop:=∀x,t.head?=some x->x=124
theorem Jv(i:Nat)(x:List Nat):¬Stop (yB i++[44]++x):=λh=>by
 cases hb:yB i with
 |nil=>rw[hb]at h;have:=h 44 (by simp);omega
 |cons a b=>
  rw[hb]at h;have:=h a (by simp);have h2:=sZ 4 i a (by show a∈yB i;rw[hb];simp);omega
theorem ab8(i:Nat):44 ∉ yB i:=λh=>by have:=sZ 4 i 44 h;omega
theorem BN:∀{l m t u:List Nat},(∀i,i∈l->i<1000000)->(∀i,i∈m->i<1000000)->Stop t->Stop u->jG l++t=jG m++u->l=m/\t=u
 |[],[],t,u,_,_,_,_,h=>by simpa [jG]using h
 |[],j :: m,t,u,_,_,ht,_,h=>by
  simp only[jG,List.flatMap_nil,gX,jr]at h;rw[h,dh]at ht;exact absurd ht (Jv j _)
 |i :: l,[],t,u,_,_,_,hu,h=>by
  simp only[jG,List.flatMap_nil,gX,jr]at h;rw[<-h,dh]at hu;exact absurd hu (Jv i _)
 |i :: l,j :: m,t,u,hl,hm,ht,hu,h=>by
  have e:yB i++44 :: (jG l++t)=yB j++44 :: (jG m++u):=by simpa [jG]using h
  obtain⟨e1,e2⟩:=TU (ab8 i) (ab8 j) e;have:=X4 (hl i (by simp)) (hm j (by simp)) e1;obtain⟨e3,e4⟩:=BN (λx hx=>hl x (by simp[hx])) (λx hx=>hm x (by simp[hx])) ht hu e2;exact⟨by rw[this,e3],e4⟩
theorem R6{m s:List Nat}(h1:∀i,i∈l->i<1000000)(h2:∀i,i∈r->i<1000000)(h3:∀i,i∈m->i<1000000)(h4:∀i,i∈s->i<1000000)(h:sK l r=sK m s):l=m/\r=s:=by
 have hs:∀x:List Nat,Stop (124 :: x):=λx y hy=>by simpa using hy.symm
 obtain⟨e1,e2⟩:=BN h1 h3 (hs _) (hs _) h;simp only[iZ,true_and]at e2;have hn:Stop []:=λx hx=>by simp at hx
 exact⟨e1,(BN h2 h4 hn hn (by simpa using e2)).1⟩
theorem BO{x:Nat}(h:x∈sK l r):x<128:=by
 have hp:∀l:List Nat,x∈jG l->x<128:=λl h=>by
  obtain⟨i,_,hi⟩:=List.mem_flatMap.1 h;rcases aM.1 hi with h|h
  .have:=sZ 4 i x h;omega
  .simp at h;omega
 rcases aM.1 h with h|h
 .exact hp l h
 .rcases dZ.1 h with h|h
  .omega
  .exact hp r h
end
section
open Go.RowKit
theorem alloc_at{w:World}{X:Obj}{k:Nat}(h:k=w.heap.size):(w.alloc X).heap[k]?=some X:=by subst h;exact dV w X
def Yd(w:World)(e:Ending)(w':World):Prop:=
 ∃h,h=w.heap.size/\e=.returned (.pointer (some ⟨h+1+1+1+1+1,0,none⟩))/\
  w'.heap[h+1+1+1+1+1]?=some (.cells #[.slice none 0 0,.slice none 0 0,.slice none 0 0,.map (some h),.map (some (h+1)),.map (some (h+1+1)),.map (some (h+1+1+1)),.map (some (h+1+1+1+1))] 156 (0,0))/\
  (∀m,h<=m->m<h+1+1+1+1+1->w'.heap[m]?=some (.map #[] 0))/\w'.heap.size=h+6/\Ext w w'
theorem zI(w:World):Calls prog 55 #[] w (Yd w):=by
 have hm1:=λw:World=>run_makeMap_plain (P:=prog) (w:=w) 125
 have hm2:=λw:World=>run_makeMap_plain (P:=prog) (w:=w) 151
 have Ga:=λw:World=>run_makeMap_plain (P:=prog) (w:=w) 152
 have Af:=λw:World=>run_makeMap_plain (P:=prog) (w:=w) 153
 go_enter Tryz.func55,Tryz.ntmps55
 go_wp2
 go_ret
 refine⟨w.heap.size,rfl,rfl,alloc_at (by simp only[eX]),λm h1 h2=>?_,by simp only[eX],by go_grown⟩;have:m=w.heap.size\/m=w.heap.size+1\/m=w.heap.size+1+1\/m=w.heap.size+1+1+1\/m=w.heap.size+1+1+1+1:=by omega
 rw[gI _ _ _ (by simp only[eX];omega)];rcases this with rfl|rfl|rfl|rfl|rfl
 .rw[gI _ _ _ (by simp only[eX];omega),gI _ _ _ (by simp only[eX];omega),gI _ _ _ (by simp only[eX];omega),gI _ _ _ (by simp only[eX];omega)]
  exact alloc_at rfl
 .rw[gI _ _ _ (by simp only[eX];omega),gI _ _ _ (by simp only[eX];omega),gI _ _ _ (by simp only[eX];omega)]
  exact alloc_at (by simp only[eX])
 .rw[gI _ _ _ (by simp only[eX];omega),gI _ _ _ (by simp only[eX];omega)]
  exact alloc_at (by simp only[eX])
 .rw[gI _ _ _ (by simp only[eX];omega)]
  exact alloc_at (by simp only[eX])
 .exact alloc_at (by simp only[eX])
end
