/-
  A region that draws its order, by a small table of who waits for whom: what is reckoned at each step runs over numbers alone. (4 texts.)
-/
import Derived.Test.YteknjeohbcgpdaaGreatDoorK0
import Derived.Test.YteknjeohbcgpdaaGreatDoorProg
import Derived.WalkKit
import Derived.Lib.Hide
import Derived.BigQuiet
import Derived.Deep.RegionHeld3
set_option maxRecDepth 100000
namespace Go.Proofs.YteknjeohbcgpdaaGreatDoor
open Tryz
section
open Go.RowKit
variable {k:Nat} {l:List Int}
theorem gE.{u} {α:Type u}:(∀(l:List α) (i:Nat),l.toArray[i]?=l[i]?)/\(∀(a:α) (l:List α) (i:Nat),(a :: l)[i+1]?=l[i]?)/\∀(a:α) (l:List α),(a :: l)[0]?=some a:=⟨λ_ _=>by simp,λ_ _ _=>by simp,λ_ _=>by simp⟩
theorem nE.{u} {α:Type u}:(∀(l:List α) (i:Nat) (a:α),l.toArray.setIfInBounds i a=(l.set i a).toArray)/\(∀(a b:α) (l:List α),(a :: l).set 0 b=b :: l)/\∀(a b:α) (l:List α) (i:Nat),(a :: l).set (i+1) b=a :: l.set i b:=⟨λ_ _ _=>by simp,λ_ _ _=>by simp,λ_ _ _ _=>by simp⟩
theorem nP:(∀(a:Act) (i:Nat) (v:Value),a.put (some i) v={ a with tmps:=a.tmps.setIfInBounds i v })/\(∀(a:Act) (v:Value),a.put none v=a)/\(∀(l:List Value) (i:Nat) (a:Value),l.toArray.setIfInBounds i a=(l.set i a).toArray)/\(∀(a b:Value) (l:List Value),(a :: l).set 0 b=b :: l)/\∀(a b:Value) (l:List Value) (i:Nat),(a :: l).set (i+1) b=a :: l.set i b:=⟨λ_ _ _=>rfl,λ_ _=>rfl,λ_ _ _=>by simp,λ_ _ _=>by simp,λ_ _ _ _=>by simp⟩
theorem aH{p:Prop}(h:p):Hid p:=h
theorem fw(w:World)(o:Obj):(w.alloc o).heap.size=w.heap.size+1:=by simp
theorem kK{k:IntKind}{a b:Int}(h:a=b):Ending.returned (.int k a)=.returned (.int k b):=by rw[h]
theorem jq{a b:Bool}(h:a=b):Ending.returned (.bool a)=.returned (.bool b):=by rw[h]
theorem pX{P:Program}{f:FuncId}{args:Array Value}{w:World}{a n:Nat}{v:Value}
 (h:Calls P f args (w.drewN (a+n)) λe w'=>e=.returned v/\∃m,w'=(w.drewN (a+n)).drewN m):
 Calls P f args (w.drewN (a+n)) λe w''=>e=.returned v/\∃m,w''=w.drewN (a+m):=
 h.mono λ_ _ ⟨he,m,hm⟩=>⟨he,n+m,by rw[hm,World.drewN_drewN,Nat.add_assoc]⟩
def RD(w w':World):Prop:=∃n,w'=w.drewN n
theorem su(w:World):RD w w:=⟨0,rfl⟩
theorem xc(w:World)(n:Nat):RD w (w.drewN n):=⟨n,rfl⟩
theorem wY(w:World)(n m:Nat):RD w ((w.drewN n).drewN m):=⟨n+m,by simp⟩
theorem wW(w:World)(n m k:Nat):RD w (((w.drewN n).drewN m).drewN k):=⟨n+m+k,by simp⟩
def jv(l:List Int)(k:Nat):Int:=l[k]?.getD 0
theorem o6(h:k<l.length):jv l k=l[k]:=by simp[jv,h]
theorem Fx(h:k<l.length):jv l k∈l:=by rw[o6 h];exact ah h
theorem qb(h:k<l.length):l.take (k+1)=l.take k++[jv l k]:=by
 rw[bg h,o6 h]
def mO(l:List Int)(n:Int):Bool:=decide (n∈l)
def Ints(w:World)(v:Value)(l:List Int):Prop:=
 ∃a cap,v=.slice a l.length cap/\l.length<=cap/\l.length<=1152921504606846976/\
  (0<l.length->∃b off,a=some ⟨b,off,none⟩/\∀i,i<l.length->w.cell? ⟨b,off+i,none⟩=some (.int .i64 (jv l i)))
end
section
open Go.RowKit
variable {l:List Int} {lo hi:Int}
def DJ(x a b:Int):Bool:=decide (a<=x) && decide (x<=b)
theorem jr(x a b:Int)(w:World):Calls prog 60 #[.int .i64 x,.int .i64 a,.int .i64 b] w λe w'=>e=.returned (.bool (DJ x a b))/\RD w w':=by
 by_cases h1:a<=x
 .go_enter Tryz.func60,Tryz.ntmps60
  go_wp2
  go_ret
  exact⟨jq (by simp[DJ,h1]),(by first|exact su _|exact xc _ _|exact wY _ _ _|exact wW _ _ _ _)⟩
 .have hd:decide (a<=x)=false:=by simpa using h1
  go_enter Tryz.func60,Tryz.ntmps60
  go_wp2
  go_ret
  exact⟨jq (by simp[DJ,hd]),(by first|exact su _|exact xc _ _|exact wY _ _ _|exact wW _ _ _ _)⟩
theorem jL(a b:Int)(w:World):Calls prog 158 #[.int .i64 a,.int .i64 b] w λe w'=>e=.returned (.int .i64 (max a b))/\RD w w':=by
 go_enter Tryz.func158,Tryz.ntmps158
 go_wp2
 all_goals go_ret
 all_goals exact⟨kK (by omega),(by first|exact su _|exact xc _ _|exact wY _ _ _|exact wW _ _ _ _)⟩
theorem Pt(l:List Int)(x n:Int):mO (l++[x]) n=(mO l n || decide (n=x)):=by
 simp[mO]
theorem pY(v:Value)(l:List Int)(n:Int)(w:World)(h:Ints w v l):
 Calls prog 207 #[v,.int .i64 n] w λe w'=>e=.returned (.bool (mO l n))/\RD w w':=by
 obtain⟨a,cap,rfl,hlc,hcap,hc⟩:=h;go_enter Tryz.func207,Tryz.ntmps207
 go_wp2
 go_loop [5] (λi=>∃k:Nat,k<=l.length/\i=.int .i64 k/\Hid (mO (l.take k) n=false)) (λi=>l.length-(intOf i).toNat)
 case atStart=>exact⟨0,az _,rfl,by simp[Hid,mO]⟩
 case round=>
  obtain⟨k,hk,rfl,HN⟩:=hrel;by_cases hlt:k<l.length
  .obtain⟨b,off,rfl,hcell⟩:=hc (by omega)
   have hck:=hcell k hlt;clear hcell hc;go_wp2
   .have heq:(jv l k == n)=true:=by assumption
    go_ret
    refine⟨jq ?_,(by first|exact su _|exact xc _ _|exact wY _ _ _|exact wW _ _ _ _)⟩;have e:jv l k=n:=(by simpa using heq);have:=Fx hlt;simp[mO,<-e,this]
   .have hne:(jv l k == n)=false:=by assumption
    go_round
    case rel=>
     refine⟨k+1,by omega,by go_num,?_⟩;have:=HN.out;show mO _ _=_;rw[qb hlt,Pt,this];simp at hne ⊢;exact λh=>hne h.symm
    case measure=>simp[intOf];omega
  .go_wp2
   go_ret
   refine⟨jq ?_,(by first|exact su _|exact xc _ _|exact wY _ _ _|exact wW _ _ _ _)⟩;have:=HN.out;rw[cO (by omega)]at this;exact this.symm
def tX(a b:List Int):Bool:=decide (a=b)
theorem qi(v u:Value)(l m:List Int)(w:World)(h:Ints w v l)(g:Ints w u m):
 Calls prog 181 #[v,u] w λe w'=>e=.returned (.bool (tX l m))/\RD w w':=by
 obtain⟨a,cap,rfl,hlc,hcap,hc⟩:=h;obtain⟨a',cap',rfl,V8,NH,hc'⟩:=g;by_cases hll:l.length=m.length
 .have hb:((l.length:Int)== m.length)=true:=by simp[hll]
  have hb':((l.length:Int) != m.length)=false:=by simp[hll]
  have HL:=aH hll;have hle:m.length<=l.length:=by omega
  have alB:l.length<=m.length:=by omega
  clear hll;go_enter Tryz.func181,Tryz.ntmps181
  go_wp2
  go_loopw [5] (λi wr=>∃k:Nat,k<=l.length/\i=.int .i64 k/\RD w wr/\Hid (l.take k=m.take k)) (λi _=>l.length-(intOf i).toNat)
  case atStart=>exact⟨0,az _,rfl,su _,by simp[Hid]⟩
  case round=>
   obtain⟨k,hk,rfl,⟨n,rfl⟩,HN⟩:=hrel;by_cases hlt:k<l.length
   .have abZ:k<m.length:=by omega
    obtain⟨b,off,rfl,hcell⟩:=hc (by omega);obtain⟨b',off',rfl,hcell'⟩:=hc' (by omega);have hck:=hcell k hlt;have Ti:=hcell' k abZ;clear hcell hc hcell' hc';go_wp2
    go_quiet (fail)
    go_wp2
    .have hne:(jv l k != jv m k)=true:=by assumption
     go_ret
     refine⟨jq ?_,(by first|exact su _|exact xc _ _|exact wY _ _ _|exact wW _ _ _ _)⟩;have:l≠m:=λe=>by rw[e]at hne;simp at hne
     simp[tX,this]
    .have hne:(jv l k != jv m k)=false:=by assumption
     go_roundw
     case rel=>
      refine⟨k+1,by omega,by go_num,(by first|exact su _|exact xc _ _|exact wY _ _ _|exact wW _ _ _ _),?_⟩;show _=_;rw[qb hlt,qb abZ,HN.out];simp at hne;rw[hne]
     case measure=>simp[intOf];omega
   .go_wp2
    go_ret
    refine⟨jq ?_,(by first|exact su _|exact xc _ _|exact wY _ _ _|exact wW _ _ _ _)⟩;have:=HN.out;rw[cO (by omega),cO (by omega)]at this;simp[tX,this]
 .have hb:((l.length:Int)== m.length)=false:=by simp;omega
  have hb':((l.length:Int) != m.length)=true:=by simp;omega
  have HL:=aH hll;clear hll;go_enter Tryz.func181,Tryz.ntmps181
  go_wp2
  go_ret
  refine⟨jq ?_,(by first|exact su _|exact xc _ _|exact wY _ _ _|exact wW _ _ _ _)⟩;have:l≠m:=λe=>HL.out (by rw[e])
  simp[tX,this]
def FT(l:List Int)(lo hi:Int)(k:Nat):Prop:=∀j,j<k->lo<=jv l j/\jv l j<=hi/\(0<j->jv l (j-1)<jv l j)
def rises(l:List Int)(lo hi:Int):Bool:=(List.range l.length).all λj=>decide (lo<=jv l j) && decide (jv l j<=hi) && decide (0<j->jv l (j-1)<jv l j)
theorem zG:rises l lo hi=true↔FT l lo hi l.length:=by simp[rises,FT,and_assoc,Nat.pos_iff_ne_zero,Classical.or_iff_not_imp_left]
theorem II{k:Nat}(hk:k<l.length)(h:¬(lo<=jv l k/\jv l k<=hi/\(0<k->jv l (k-1)<jv l k))):rises l lo hi=false:=by
 rw[jm];intro e;exact h (zG.1 e k hk)
set_option maxHeartbeats 400000 in
theorem Gb(v:Value)(l:List Int)(lo hi:Int)(w:World)(h:Ints w v l):
 Calls prog 136 #[v,.int .i64 lo,.int .i64 hi] w λe w'=>e=.returned (.bool (rises l lo hi))/\RD w w':=by
 obtain⟨a,cap,rfl,hlc,hcap,hc⟩:=h;go_enter Tryz.func136,Tryz.ntmps136
 go_wp2
 go_loopw [7] (λi wr=>∃k:Nat,k<=l.length/\i=.int .i64 k/\RD w wr/\Hid (FT l lo hi k)) (λi _=>l.length-(intOf i).toNat)
 case atStart=>exact⟨0,az _,rfl,su _,λj h=>absurd h (by omega)⟩
 case round=>
  obtain⟨k,hk,rfl,⟨n,rfl⟩,HN⟩:=hrel;by_cases hlt:k<l.length
  .obtain⟨b,off,rfl,hcell⟩:=hc (by omega)
   have hck:=hcell k hlt;by_cases hin:DJ (jv l k) lo hi=true
   .by_cases h0:0<k
    .have nz:=hcell (k-1) (by omega)
     obtain⟨j,rfl⟩:∃j,k=j+1:=⟨k-1,by omega⟩;clear hcell hc;simp only[ko]at nz;by_cases hge:jv l (j+1)<=jv l j
     .go_wp2
      go_quiet ((go_at_call 60;first|exact Calls.quiet_of (jr _ _ _ _)|exact pX (jr _ _ _ _)))
      go_wp2
      go_ret
      exact⟨jq (II hlt (λh=>by have:=h.2.2 (by omega);simp at this;omega)).symm,(by first|exact su _|exact xc _ _|exact wY _ _ _|exact wW _ _ _ _)⟩
     .have hd:decide (jv l (j+1)<=jv l j)=false:=by simpa using hge
      go_wp2
      go_quiet ((go_at_call 60;first|exact Calls.quiet_of (jr _ _ _ _)|exact pX (jr _ _ _ _)))
      go_wp2
      go_roundw
      case rel=>
       refine⟨j+1+1,by omega,by go_num,(by first|exact su _|exact xc _ _|exact wY _ _ _|exact wW _ _ _ _),λi hi=>?_⟩;rcases dX i (j+1)with h|h
       .exact HN.out i h
       .obtain rfl:i=j+1:=by omega
        have:=hin;simp[DJ]at this;exact⟨this.1,this.2,λ_=>by simp;omega⟩
      case measure=>simp[intOf];omega
    .have hd0:decide ((0:Int)<(k:Int))=false:=by simp;omega
     clear hcell hc;go_wp2
     go_quiet ((go_at_call 60;first|exact Calls.quiet_of (jr _ _ _ _)|exact pX (jr _ _ _ _)))
     go_wp2
     go_roundw
     case rel=>
      refine⟨k+1,by omega,by go_num,(by first|exact su _|exact xc _ _|exact wY _ _ _|exact wW _ _ _ _),λi hi=>?_⟩;obtain rfl:i=k:=(by omega);have:=hin;simp[DJ]at this;exact⟨this.1,this.2,λh=>absurd h (by omega)⟩
     case measure=>simp[intOf];omega
   .have hin':DJ (jv l k) lo hi=false:=by simpa using hin
    clear hcell hc hin;go_wp2
    go_quiet ((go_at_call 60;first|exact Calls.quiet_of (jr _ _ _ _)|exact pX (jr _ _ _ _)))
    go_wp2
    go_ret
    refine⟨jq (II hlt (λh=>?_)).symm,(by first|exact su _|exact xc _ _|exact wY _ _ _|exact wW _ _ _ _)⟩;have:=hin';simp[DJ]at this;omega
  .go_wp2
   go_ret
   refine⟨jq ?_,(by first|exact su _|exact xc _ _|exact wY _ _ _|exact wW _ _ _ _)⟩;have:=HN.out;rw[show k=l.length by omega]at this;exact(zG.2 this).symm
end
section
open Go Go.RowKit
section
variable {P:Program} {ops:Array Oper} {Q:Exit->Act->World->Prop} {md:Region.Mode} {S:World->Prop} {T:List Nat}
variable {listed:Array Bool} {i fuel:Nat} {oi o:Oper} {v:Value} {U:List Nat} {a:Act} {w:World}
def iH(P:Program)(md:Region.Mode)(ops:Array Oper)(Q:Exit->Act->World->Prop)(S:World->Prop)(T:List Nat):Nat->Array Bool->Act->World->Prop
 | 0,listed,a,w=>Region.ready md ops listed=[]/\Q .normal a w
 |fuel+1,listed,a,w=>
  (Region.ready md ops listed=[]->Q .normal a w)/\
  ∀i∈Region.ready md ops listed,wpOp P ops Q i (λa' w'=>(T.contains i=false->S w')/\iH P md ops Q S T fuel (listed.setIfInBounds i true) a' w') a w
theorem BS:∀(fuel:Nat) (listed:Array Bool) (a:Act) (w:World),iH P md ops Q S T fuel listed a w->wpAny P md ops Q fuel listed a w
 | 0,_,_,_,h=>h
 |fuel+1,_,_,_,h=>⟨h.1,λi hi=>wpOp_mono (λa' w' h'=>BS fuel _ a' w' h'.2) (h.2 i hi)⟩
theorem QK{u:Nat}(h:listed.getD u true=false):listed.getD u false=false:=by
 rcases dX u listed.size with h'|h'
 .simpa [h']using h
 .simp[h']
def N9(md:Region.Mode)(ops:Array Oper)(U:List Nat)(i:Nat):Prop:=∀u,u∈U->u≠i->∃o,ops[u]?=some o/\∃e,e∈o.after/\Region.binds md e=true/\e.on∈U
theorem x8(hi:ops[i]?=some oi)(hsel:∀(j:Nat) (o:Oper) cs b,ops[j]?=some o->o.op≠.select cs b)
 (hQ:∀c a w,Q (.panic c) (a.put oi.dst v) w->Q (.panic c) a w) (hU:N9 md ops U i) (hT:∀t,T.contains t=true->t∈U):
 ∀(fuel:Nat) (listed:Array Bool) (a:Act) (w:World),
  (∀j oj,ops[j]?=some oj->j≠i->listed.getD j true=false->(∀e∈oj.after,Region.binds md e=true->e.on≠i)->oi.apart ops oj=true)->
  (∀u,u∈U->listed.getD u true=false)->
  i∈Region.ready md ops listed->YieldsIf P ops S oi v a->S w->
  iH P md ops Q S T fuel (listed.setIfInBounds i true) (a.put oi.dst v) w->iH P md ops Q S T (fuel+1) listed a w:=by
 intro fuel
 induction fuel with
 |zero=>
  intro listed a w _ hul hr hy hS H;refine⟨λh=>(by rw[h]at hr;cases hr),λj hj=>?_⟩;by_cases hji:j=i
  .subst hji;exact hy.wpOp hi hS ⟨λ_=>hS,H⟩
  .have:=ready_mono hj hji
   rw[H.1]at this;cases this
 |succ fuel ih=>
  intro listed a w hfree hul hr hy hS H;refine⟨λh=>(by rw[h]at hr;cases hr),λj hj=>?_⟩;by_cases hji:j=i
  .subst hji;exact hy.wpOp hi hS ⟨λ_=>hS,H⟩
  .have h1:=H.2 j (ready_mono hj hji)
   obtain⟨hjun,oj,hoj,hall⟩:=mem_ready.1 hj;have hjU:j ∉ U:=λh=>by
    obtain⟨o,ho,e,he,hb,hon⟩:=hU j h hji;obtain rfl:o=oj:=(by rw[ho]at hoj;injection hoj);have h2:=hall e he hb;rw[QK (hul _ hon)]at h2;cases h2
   have hjT:T.contains j=false:=by
    cases h:T.contains j with
    |false=>rfl
    |true=>exact absurd (hT j h) hjU
   have hnot:∀e∈oj.after,Region.binds md e=true->e.on≠i:=λe he hb heq=>by
    have h1:=hall e he hb;have h0:=(mem_ready.1 hr).1;rw[heq]at h1;rcases dX i listed.size with h'|h'
    .simp[h']at h0 h1;rw[h0]at h1;cases h1
    .simp[Array.getElem?_eq_none h']at h1
   have h2:=wpOp_putIf hoj (hfree j oj hoj hji hjun hnot) (λcs b=>hsel i oi cs b hi) (λcs b=>hsel j oj cs b hoj) hQ hy h1
   have hfree':∀k ok,ops[k]?=some ok->k≠i->(listed.setIfInBounds j true).getD k true=false->
    (∀e∈ok.after,Region.binds md e=true->e.on≠i)->oi.apart ops ok=true:=λk ok hk hki hun hno=>by
    refine hfree k ok hk hki ?_ hno;by_cases hjk:j=k
    .subst hjk;exact hjun
    .rw[getD_set_ne true hjk]at hun;exact hun
   have afb:∀u,u∈U->(listed.setIfInBounds j true).getD u true=false:=λu hu=>by
    rw[getD_set_ne true (λe=>hjU (by rw[e];exact hu))];exact hul u hu
   refine wpOp_mono (λa' w' h3=>⟨λ_=>h3.2.1 hjT,ih (listed.setIfInBounds j true) a' w' hfree' afb (ready_mono hr (Ne.symm hji)) h3.1 (h3.2.1 hjT) ?_⟩) h2;rw[Array.setIfInBounds_comm _ _ hji];exact h3.2.2
def Yo(md:Region.Mode)(ops:Array Oper)(i:Nat):List Nat:=(List.range ops.size).foldl (λU j=>if (match ops[j]? with|some o=>o.after.any (λe=>Region.binds md e && U.contains e.on)|none=>false)then U++[j]else U) [i]
def QG(md:Region.Mode)(ops:Array Oper)(U:List Nat)(i:Nat):Bool:=U.all λu=>u == i || (match ops[u]? with|some o=>o.after.any (λe=>Region.binds md e && U.contains e.on)|none=>false)
def QM(md:Region.Mode)(ops:Array Oper)(T:List Nat)(listed:Array Bool)(i:Nat):Bool:=
 QG md ops (Yo md ops i) i && T.all (λt=>(Yo md ops i).contains t) && (Yo md ops i).all (λu=>!listed.getD u true)
theorem Kv(h:QG md ops U i=true):N9 md ops U i:=by
 intro u hu hne;have h1:=List.all_eq_true.1 h u hu;simp only[Bool.or_eq_true,beq_iff_eq,hne,false_or]at h1;cases ho:ops[u]? with
 |none=>simp[ho]at h1
 |some o=>
  simp only[ho]at h1;obtain⟨e,he,hb⟩:=Array.any_eq_true'.1 h1;simp only[eP]at hb;exact⟨o,rfl,e,he,hb.1,by simpa using hb.2⟩
theorem Hu(hi:ops[i]?=some oi)
 (hs:Region.noSelect ops=true) (hf:Region.free md ops listed i=true) (hr:(Region.ready md ops listed).contains i=true) (ht:QM md ops T listed i=true)
 (hQ:∀c a w,Q (.panic c) (a.put oi.dst v) w->Q (.panic c) a w) (hS:S w) (hy:YieldsIf P ops S oi v a)
 (h:iH P md ops Q S T fuel (listed.setIfInBounds i true) (a.put oi.dst v) w):iH P md ops Q S T (fuel+1) listed a w:=by
 simp only[QM,eP]at ht;obtain⟨⟨h1,h2⟩,h3⟩:=ht;refine x8 hi (Region.noSelect_spec hs) hQ (Kv h1) (λt ht=>?_) fuel listed a w (Region.free_spec hi hf) (λu hu=>?_) (by simpa using hr) hy hS h
 .have:=List.all_eq_true.1 h2 t (by simpa using ht)
  simpa using this
 .have:=List.all_eq_true.1 h3 u hu
  simpa using this
theorem kW(i:Nat){a':Act}(hS:S w)(h:iH P md ops Q S T fuel (listed.setIfInBounds i true) a' w)(hi:ops[i]?=some oi:=by simp only[gE];rfl)
 (hy:YieldsIf P ops S oi v a:=by exact Or.inl ⟨by rfl,by intro w' hSw;(try dsimp only at hSw);go_simp;(try with_reducible rfl)⟩)
 (hs:Region.noSelect ops=true:=by kernel_rfl) (hf:Region.free md ops listed i=true:=by kernel_rfl) (hr:(Region.ready md ops listed).contains i=true:=by kernel_rfl) (ht:QM md ops T listed i=true:=by kernel_rfl)
 (ha:a.put oi.dst v=a':=by first|(simp only[nP];done)|(simp only[nP];rfl)|rfl)
 (hQ:∀c a w,Q (.panic c) (a.put oi.dst v) w->Q (.panic c) a w:=by exact λ_ _ _ h=>h):iH P md ops Q S T (fuel+1) listed a w:=
 Hu hi hs hf hr ht hQ hS hy (by rw[ha];exact h)
theorem Aq(hr:Region.ready md ops listed=[i])(ho:ops[i]?=some o)
 (h:∀K':Act->World->Prop,Shut (∀a w,(T.contains i=false->S w)->iH P md ops Q S T fuel (listed.setIfInBounds i true) a w->K' a w)->if Region.wanted o (yielded ops a.tmps)=true then Oper.wp P o a w K' Q else K' (a.put o.dst undef) w):
 iH P md ops Q S T (fuel+1) listed a w:=by
 refine⟨λh0=>(by rw[hr]at h0;cases h0),λj hj=>?_⟩;rw[hr]at hj;obtain rfl:j=i:=by simpa using hj
 exact wpOp_step ho (λK' hK=>h K' (λa w hS hW=>hK a w ⟨hS,hW⟩))
def StepT(P:Program)(md:Region.Mode)(ops:Array Oper)(Q:Exit->Act->World->Prop)(S:World->Prop)(T:List Nat)(fuel:Nat)(listed:Array Bool)(a:Act)(w:World)(i:Nat):Prop:=
 wpOp P ops Q i (λa' w'=>(T.contains i=false->S w')/\iH P md ops Q S T fuel (listed.setIfInBounds i true) a' w') a w
theorem StepT.run(ho:ops[i]?=some o)
 (h:∀K':Act->World->Prop,Shut (∀a w,(T.contains i=false->S w)->iH P md ops Q S T fuel (listed.setIfInBounds i true) a w->K' a w)->if Region.wanted o (yielded ops a.tmps)=true then Oper.wp P o a w K' Q else K' (a.put o.dst undef) w):
 StepT P md ops Q S T fuel listed a w i:=wpOp_step ho (λK' hK=>h K' (λa w hS hW=>hK a w ⟨hS,hW⟩))
theorem stA
 (h:∀K':Act->World->Prop,Shut (∀a w,(T.contains i=false->S w)->iH P md ops Q S T fuel (listed.setIfInBounds i true) a w->K' a w)->if Region.wanted o (yielded ops a.tmps)=true then Oper.wp P o a w K' Q else K' (a.put o.dst undef) w)
 (hr:Region.ready md ops listed=[i]:=by kernel_rfl) (ho:ops[i]?=some o:=by simp only[gE];rfl):iH P md ops Q S T (fuel+1) listed a w:=Aq hr ho h
theorem rnA
 (h:∀K':Act->World->Prop,Shut (∀a w,(T.contains i=false->S w)->iH P md ops Q S T fuel (listed.setIfInBounds i true) a w->K' a w)->if Region.wanted o (yielded ops a.tmps)=true then Oper.wp P o a w K' Q else K' (a.put o.dst undef) w)
 (ho:ops[i]?=some o:=by simp only[gE];rfl):StepT P md ops Q S T fuel listed a w i:=StepT.run ho h
theorem xD{j:Nat}(hr:Region.ready md ops listed=[i,j])(h1:StepT P md ops Q S T fuel listed a w i)(h2:StepT P md ops Q S T fuel listed a w j):
 iH P md ops Q S T (fuel+1) listed a w:=by
 refine⟨λh0=>(by rw[hr]at h0;cases h0),λk hk=>?_⟩;rw[hr]at hk;rcases dD.1 hk with rfl|hk
 .exact h1
 .obtain rfl:k=j:=by simpa using hk
  exact h2
def chainB(md:Region.Mode)(ops:Array Oper):List Nat->Array Bool->Bool
 |[],listed=>Region.ready md ops listed == []
 |i :: rs,listed=>Region.ready md ops listed == [i] && chainB md ops rs (listed.setIfInBounds i true)
theorem uq:∀(rs:List Nat) (os:List Oper) (fuel:Nat) (listed:Array Bool) (a:Act) (w:World),rs.length<=fuel->chainB md ops rs listed=true->rs.all (λi=>T.contains i)=true->rs.map (λi=>ops[i]?)=os.map some->
 wpList P ops Q os a w->iH P md ops Q S T fuel listed a w
 |[],[],0,listed,a,w,_,hc,_,_,h=>⟨by simpa [chainB]using hc,h⟩
 |[],[],fuel+1,listed,a,w,_,hc,_,_,h=>⟨λ_=>h,λj hj=>by have h0:Region.ready md ops listed=[]:=(by simpa [chainB]using hc);rw[h0]at hj;cases hj⟩
 |i :: rs,o :: os,fuel+1,listed,a,w,hl,hc,hT,hm,h=>by
  simp only[chainB,eP,beq_iff_eq]at hc;simp only[List.all_cons,eP]at hT;simp only[eZ,jU]at hm;refine⟨λh0=>(by rw[hc.1]at h0;cases h0),λj hj=>?_⟩;rw[hc.1]at hj;obtain rfl:j=i:=by simpa using hj
  unfold wpOp;simp only[hm.1];have ih:=λa w hw=>uq rs os fuel (listed.setIfInBounds j true) a w (by simpa using hl) hc.2 hT.2 hm.2 hw
  unfold wpList at h;by_cases hw:Region.wanted o (yielded ops a.tmps)=true
  .rw[if_pos hw]at h
   rw[if_pos hw];exact h.imp (Oper.wp_mono λa' w' hh=>⟨λhn=>(by rw[hT.1]at hn;cases hn),ih a' w' hh⟩) id
  .rw[if_neg hw]at h
   rw[if_neg hw];exact⟨λhn=>(by rw[hT.1]at hn;cases hn),ih _ _ h⟩
 |[],_ :: _,_,_,_,_,_,_,_,hm,_=>by simp at hm
 |_ :: _,[],_,_,_,_,_,_,_,hm,_=>by simp at hm
 |_ :: _,_ :: _,0,_,_,_,hl,_,_,_,_=>by simp at hl
theorem Yq(rs:List Nat)(os:List Oper)(h:wpList P ops Q os a w)(hl:rs.length<=fuel:=by simp)(hc:chainB md ops rs listed=true:=by kernel_rfl)(hT:rs.all (λi=>T.contains i)=true:=by rfl)
 (hm:rs.map (λi=>ops[i]?)=os.map some:=by simp only[eZ,lU,gE];rfl):iH P md ops Q S T fuel listed a w:=uq rs os fuel listed a w hl hc hT hm h
theorem lD{id:Nat}(S:World->Prop)(T:List Nat)(hm:P.follows .mixedOrders=true)(hS:S w.drew)
 (h:S w.drew->iH P .any ops Q S T ops.size (Array.replicate ops.size false) a w.drew):(Code.region id ops true).wp P Q a w:=
 wp_region_any hm (BS _ _ _ _ (h hS))
end
end
section
open Go Go.RowKit
variable {x n u:Nat} {l L:List Nat}
structure Row where
 no:Nat
 after:List Nat
 dst:Nat
 looks:List Nat
def rowOf(md:Region.Mode)(ops:Array Oper)(k:Nat)(o:Oper):Row:=⟨k,(o.after.toList.filter (Region.binds md)).map (·.on),match o.dst with|some d=>d+1|none=>0,o.looksAt ops⟩
def qB(md:Region.Mode)(ops:Array Oper):Nat->List Oper->List Row
 |_,[]=>[]
 |k,o :: l=>rowOf md ops k o :: qB md ops (k+1) l
def Ev(md:Region.Mode)(ops:Array Oper):List Row:=qB md ops 0 ops.toList
def uF(x:Nat):List Nat->Bool
 |[]=>false
 |y :: l=>Nat.beq x y || uF x l
theorem qg:uF x l=true↔x∈l:=by
 induction l with
 |nil=>simp[uF]
 |cons y l ih=>simp[uF,ih]
theorem oV:uF x l=false↔x ∉ l:=by rw[<-qg];simp
def eT(n:Nat):List Nat->Array Bool
 |[]=>Array.replicate n false
 |i :: L=>(eT n L).setIfInBounds i true
theorem AP(n:Nat)(L:List Nat):(eT n L).size=n:=by
 induction L with
 |nil=>simp[eT]
 |cons i L ih=>simp[eT,ih]
theorem CK(h:u<n):(eT n L)[u]?=some (uF u L):=by
 induction L with
 |nil=>simp[eT,uF,h]
 |cons i L ih=>
  simp only[eT,uF];rw[Array.getElem?_setIfInBounds];by_cases e:i=u
  .subst e
   rw[if_pos rfl,if_pos (by rw[AP];exact h)];simp
  .rw[if_neg e,ih]
   have:Nat.beq u i=false:=by cases hb:Nat.beq u i with|false=>rfl|true=>exact absurd (Nat.eq_of_beq_eq_true hb).symm e
   rw[this];simp
theorem listed_none(h:¬u<n):(eT n L)[u]?=none:=Array.getElem?_eq_none (by rw[AP];omega)
theorem vV:(eT n L).getD u true=false↔u<n/\u ∉ L:=by
 rw[Array.getD_eq_getD_getElem?];by_cases h:u<n
 .rw[CK h];simp[oV,h]
 .rw[listed_none h];simp[h]
theorem ET:(eT n L).getD u false=true↔u<n/\u∈L:=by
 rw[Array.getD_eq_getD_getElem?];by_cases h:u<n
 .rw[CK h];simp[qg,h]
 .rw[listed_none h];simp[h]
section
variable {P:Program} {ops:Array Oper} {Q:Exit->Act->World->Prop} {md:Region.Mode} {S:World->Prop} {T:List Nat} {tab:List Row}
variable {r:Row} {j i fuel:Nat} {o oi:Oper} {l:List Row} {L:List Nat} {v:Value} {a:Act} {w:World}
theorem Ih(l:List Oper):∀k j,(qB md ops k l)[j]?=(l[j]?).map (rowOf md ops (k+j)):=by
 induction l with
 |nil=>intro k j;simp[qB]
 |cons o l ih=>
  intro k j;cases j with
  |zero=>simp[qB]
  |succ j=>simp only[qB,dJ];rw[ih];congr 1;funext o;congr 1;omega
theorem MV(h:Ev md ops=tab)(j:Nat):tab[j]?=(ops[j]?).map (rowOf md ops j):=by
 rw[<-h,Ev,Ih,iD];simp
theorem FH(h:Ev md ops=tab)(hr:r∈tab):∃o,ops[r.no]?=some o/\r=rowOf md ops r.no o:=by
 obtain⟨j,hj,e⟩:=aO.1 hr;have h1:=MV h j;rw[aa hj,e]at h1;cases ho:ops[j]? with
 |none=>rw[ho]at h1;simp at h1
 |some o=>
  rw[ho]at h1;simp at h1;have hn:r.no=j:=by rw[h1];rfl
  exact⟨o,by rw[hn];exact ho,by rw[hn];exact h1⟩
theorem MU(h:Ev md ops=tab)(ho:ops[j]?=some o):rowOf md ops j o∈tab:=by
 have h1:=MV h j;rw[ho]at h1;exact dU h1
def GK(p:Nat->Bool):List Nat->Bool
 |[]=>true
 |x :: l=>p x && GK p l
theorem rX{p:Nat->Bool}{l:List Nat}:GK p l=true↔∀x,x∈l->p x=true:=by
 induction l with
 |nil=>simp[GK]
 |cons x l ih=>simp[GK,ih]
def EE(p:Row->Bool):List Row->Bool
 |[]=>true
 |x :: l=>p x && EE p l
theorem ED{p:Row->Bool}:EE p l=true↔∀x,x∈l->p x=true:=by
 induction l with
 |nil=>simp[EE]
 |cons x l ih=>simp[EE,ih]
def O6(L:List Nat)(r:Row):Bool:=!uF r.no L && GK (λe=>uF e L) r.after
structure nI(md:Region.Mode)(ops:Array Oper)(tab:List Row):Prop where
 eqn:Ev md ops=tab
 sel:Region.noSelect ops=true
 edge:EE (λr=>GK (λe=>Nat.blt e ops.size) r.after) tab=true
theorem nI.lt(h:nI md ops tab)(ho:ops[j]?=some o){e:Edge}(he:e∈o.after)(hb:Region.binds md e=true):e.on<ops.size:=by
 have h1:=rX.1 (ED.1 h.edge _ (MU h.eqn ho)) e.on (by simp only[rowOf,aI,eU,Array.mem_toList_iff];exact⟨e,⟨he,hb⟩,rfl⟩);rw[Nat.blt_eq]at h1;exact h1
theorem vT{md:Region.Mode}{ops:Array Oper}{x:Nat}:x∈(rowOf md ops j o).after↔∃e,e∈o.after/\Region.binds md e=true/\e.on=x:=by
 simp only[rowOf,aI,eU,Array.mem_toList_iff,and_assoc]
theorem EJ(h:nI md ops tab):j∈Region.ready md ops (eT ops.size L)↔∃o,ops[j]?=some o/\O6 L (rowOf md ops j o)=true:=by
 rw[mem_ready];constructor
 .rintro⟨h1,o,ho,h2⟩
  refine⟨o,ho,?_⟩;simp only[O6,eP,mi];refine⟨oV.2 (vV.1 h1).2,rX.2 λx hx=>?_⟩;obtain⟨e,he,hb,rfl⟩:=vT.1 hx;exact qg.2 (ET.1 (h2 e he hb)).2
 .rintro⟨o,ho,hm⟩
  simp only[O6,eP,mi]at hm;refine⟨vV.2 ⟨(fH.1 ho).1,oV.1 hm.1⟩,o,ho,λe he hb=>ET.2 ⟨h.lt ho he hb,qg.1 (rX.1 hm.2 _ (vT.2 ⟨e,he,hb,rfl⟩))⟩⟩
def qN(L:List Nat):List Row->List Nat
 |[]=>[]
 |r :: l=>if O6 L r then r.no :: qN L l else qN L l
theorem DX(L:List Nat)(l:List Row):qN L l=(l.filter (O6 L)).map (·.no):=by
 induction l with
 |nil=>rfl
 |cons r l ih=>simp only[qN,List.filter_cons];split <;> simp[ih]
theorem Ky(l:List Oper):∀k,(qB md ops k l).map (·.no)=List.range' k l.length:=by
 induction l with
 |nil=>intro k;rfl
 |cons o l ih=>intro k;simp[qB,ih,List.range'_succ,rowOf]
theorem ready_eq(h:nI md ops tab)(L:List Nat):Region.ready md ops (eT ops.size L)=qN L tab:=by
 have hno:tab.map (·.no)=List.range ops.size:=by rw[<-h.eqn,Ev,Ky,List.range_eq_range',Array.length_toList]
 have e1:Region.ready md ops (eT ops.size L)=(List.range ops.size).filter (λj=>decide (j∈Region.ready md ops (eT ops.size L))):=by
  conv=>lhs;unfold Region.ready
  refine List.filter_congr λj hj=>?_
  rw[iW,decide_eq_true_iff];unfold Region.ready;rw[eU];exact⟨λk=>⟨hj,k⟩,λk=>k.2⟩
 rw[e1,DX,<-hno,List.filter_map];congr 1;refine List.filter_congr λr hr=>?_
 rw[iW];show decide (r.no∈_)=true↔_;rw[decide_eq_true_iff,EJ h];obtain⟨o,ho,e⟩:=FH h.eqn hr;constructor
 .rintro⟨o',ho',hm⟩
  rw[ho]at ho';injection ho' with ho';subst ho';rw[e];exact hm
 .intro hm
  exact⟨o,ho,by rw[<-e];exact hm⟩
def Pz(i:Nat):List Row->Option Row
 |[]=>none
 |r :: l=>if Nat.beq r.no i then some r else Pz i l
theorem TM(h:Pz i l=some r):r∈l/\r.no=i:=by
 induction l with
 |nil=>simp[Pz]at h
 |cons x l ih=>
  simp only[Pz]at h;split at h
  .rename_i hb;injection h with h;subst h;exact⟨by simp,Nat.eq_of_beq_eq_true hb⟩
  .have:=ih h;exact⟨by simp[this.1],this.2⟩
def MC(x y:Row):Bool:=
 (match x.dst with
  |d+1=>!uF d y.looks && !Nat.beq y.dst (d+1)
  | 0=>true) &&
 (match y.dst with
  |d+1=>!uF d x.looks
  | 0=>true)
theorem J2{x y:Oper}(h:MC (rowOf md ops i x) (rowOf md ops j y)=true):x.apart ops y=true:=by
 unfold MC rowOf at h;unfold Oper.apart;cases hx:x.dst with
 |none=>
  cases hy:y.dst with
  |none=>rfl
  |some d=>simp only[hx,hy,Bool.true_and,mi,oV]at h;simpa using h
 |some d=>
  cases hy:y.dst with
  |none=>
   simp only[hx,hy,Bool.and_true,eP,mi,oV]at h
   simpa using h.1
  |some d'=>
   simp only[hx,hy,eP,mi,oV]at h;have hne:d'≠d:=λe=>by
    have h3:=h.1.2;rw[e]at h3;rw[Nat.beq_refl]at h3;cases h3
   simp[h.1.1,h.2,hne]
def xG:List Nat->List Row->List Nat
 |U,[]=>U
 |U,r :: l=>if GK (λe=>!uF e U) r.after then xG U l else xG (r.no :: U) l
theorem yh(h:nI md ops tab)(i:Nat):∀(l:List Row) (U:List Nat),(∀r,r∈l->r∈tab)->N9 md ops U i->N9 md ops (xG U l) i:=by
 intro l
 induction l with
 |nil=>intro U _ hU;exact hU
 |cons r l ih=>
  intro U hl hU;simp only[xG];split
  .exact ih U (λx hx=>hl x (by simp[hx])) hU
  .rename_i hn
   refine ih _ (λx hx=>hl x (by simp[hx])) λu hu hne=>?_
   rcases dD.1 hu with rfl|hu
   .obtain⟨o,ho,e⟩:=FH h.eqn (hl r (by simp))
    have:∃x,x∈r.after/\x∈U:=by
     refine Classical.byContradiction λhc=>hn (rX.2 λx hx=>?_)
     simp only[mi,oV];exact λhx'=>hc ⟨x,hx,hx'⟩
    obtain⟨x,hx,hxU⟩:=this;rw[e]at hx;obtain⟨ed,he,hb,rfl⟩:=vT.1 hx;exact⟨o,ho,ed,he,hb,by simp[hxU]⟩
   .obtain⟨o,ho,ed,he,hb,hm⟩:=hU u hu hne
    exact⟨o,ho,ed,he,hb,by simp[hm]⟩
def takeB(tab:List Row)(L T:List Nat)(i:Nat):Bool:=
 match Pz i tab with
 |none=>false
 |some r=>O6 L r && EE (λs=>Nat.beq s.no i || uF s.no L || uF i s.after || MC r s) tab && GK (λt=>uF t (xG [i] tab)) T && GK (λu=>!uF u L) (xG [i] tab)
theorem fM(h:nI md ops tab)(hi:ops[i]?=some oi)(hc:takeB tab L T i=true)
 (hQ:∀c a w,Q (.panic c) (a.put oi.dst v) w->Q (.panic c) a w) (hS:S w) (hy:YieldsIf P ops S oi v a)
 (hr:iH P md ops Q S T fuel (eT ops.size (i :: L)) (a.put oi.dst v) w):iH P md ops Q S T (fuel+1) (eT ops.size L) a w:=by
 unfold takeB at hc;cases hg:Pz i tab with
 |none=>simp[hg]at hc
 |some r=>
  simp only[hg,eP]at hc;obtain⟨⟨⟨h1,h2⟩,h3⟩,h4⟩:=hc;obtain⟨hm,hno⟩:=TM hg;obtain⟨o,ho,e⟩:=FH h.eqn hm;rw[hno]at ho e;rw[hi]at ho;injection ho with ho;subst ho;have YV:i∈Region.ready md ops (eT ops.size L):=(EJ h).2 ⟨oi,hi,by rw[<-e];exact h1⟩;have hup:∀u,u∈xG [i] tab->(eT ops.size L).getD u true=false:=λu hu=>by
   have hn:=rX.1 h4 u hu;simp only[mi,oV]at hn;refine vV.2 ⟨?_,hn⟩;by_cases hui:u=i
   .subst hui;exact(fH.1 hi).1
   .obtain⟨o',ho',_⟩:=yh h i tab [i] (λ_ hr=>hr) (λu hu hne=>by simp at hu;exact absurd hu hne) u hu hui
    exact(fH.1 ho').1
  refine x8 hi (Region.noSelect_spec h.sel) hQ (yh h i tab [i] (λ_ hr=>hr) (λu hu hne=>by simp at hu;exact absurd hu hne)) (λt ht=>qg.1 (rX.1 h3 t (by simpa using ht))) fuel _ a w (λj oj hj hji hun hno=>?_) hup YV hy hS hr;have h5:=ED.1 h2 _ (MU h.eqn hj);simp only[Bool.or_eq_true]at h5;rcases h5 with((h5|h5)|h5)|h5
  .exact absurd (Nat.eq_of_beq_eq_true h5) hji
  .exact absurd (qg.1 h5) (vV.1 hun).2
  .obtain⟨ed,he,hb,hon⟩:=vT.1 (qg.1 h5)
   exact absurd hon (hno ed he hb)
  .rw[e]at h5;exact J2 h5
theorem bT(i:Nat)(h:nI md ops tab){a':Act}(hS:S w)(hr:iH P md ops Q S T fuel (eT ops.size (i :: L)) a' w)(hi:ops[i]?=some oi:=by simp only[gE];rfl)
 (hy:YieldsIf P ops S oi v a:=by exact Or.inl ⟨by rfl,by intro w' hSw;(try dsimp only at hSw);go_simp;(try with_reducible rfl)⟩) (hc:takeB tab L T i=true:=by kernel_rfl)
 (ha:a.put oi.dst v=a':=by first|(simp only[nP];done)|(simp only[nP];rfl)|rfl)
 (hQ:∀c a w,Q (.panic c) (a.put oi.dst v) w->Q (.panic c) a w:=by exact λ_ _ _ h=>h):iH P md ops Q S T (fuel+1) (eT ops.size L) a w:=
 fM h hi hc hQ hS hy (by rw[ha];exact hr)
theorem Hy(h:nI md ops tab)(hr:qN L tab=[i])(ho:ops[i]?=some o)
 (hk:∀K':Act->World->Prop,Shut (∀a w,(T.contains i=false->S w)->iH P md ops Q S T fuel (eT ops.size (i :: L)) a w->K' a w)->if Region.wanted o (yielded ops a.tmps)=true then Oper.wp P o a w K' Q else K' (a.put o.dst undef) w):
 iH P md ops Q S T (fuel+1) (eT ops.size L) a w:=Aq ((ready_eq h L).trans hr) ho hk
theorem lK(h:nI md ops tab)(hr:qN L tab=[i,j])(h1:StepT P md ops Q S T fuel (eT ops.size L) a w i)(h2:StepT P md ops Q S T fuel (eT ops.size L) a w j):
 iH P md ops Q S T (fuel+1) (eT ops.size L) a w:=xD ((ready_eq h L).trans hr) h1 h2
theorem adv.run{i:Nat}{o:Oper}{fuel:Nat}{L:List Nat}{a:Act}{w:World}(ho:ops[i]?=some o)
 (hk:∀K':Act->World->Prop,Shut (∀a w,(T.contains i=false->S w)->iH P md ops Q S T fuel (eT ops.size (i :: L)) a w->K' a w)->if Region.wanted o (yielded ops a.tmps)=true then Oper.wp P o a w K' Q else K' (a.put o.dst undef) w):
 StepT P md ops Q S T fuel (eT ops.size L) a w i:=StepT.run ho hk
def Ab(tab:List Row):List Nat->List Nat->Bool
 |[],L=>match qN L tab with|[]=>true|_=>false
 |i :: rs,L=>(match qN L tab with|[j]=>Nat.beq i j|_=>false) && Ab tab rs (i :: L)
theorem JR(h:nI md ops tab):∀(rs L:List Nat),Ab tab rs L=true->chainB md ops rs (eT ops.size L)=true:=by
 intro rs
 induction rs with
 |nil=>
  intro L hc;simp only[Ab]at hc;simp only[chainB,beq_iff_eq,ready_eq h];split at hc
  .assumption
  .cases hc
 |cons i rs ih=>
  intro L hc;simp only[Ab,eP]at hc;simp only[chainB,eP,beq_iff_eq,ready_eq h];refine⟨?_,ih (i :: L) hc.2⟩;have h1:=hc.1;split at h1
  .rename_i j hj;rw[hj,Nat.eq_of_beq_eq_true h1]
  .cases h1
theorem Hw(h:nI md ops tab)(rs:List Nat)(os:List Oper)(fuel:Nat)(L:List Nat)(a:Act)(w:World)(hl:rs.length<=fuel)(hc:Ab tab rs L=true)(hT:rs.all (λi=>T.contains i)=true)(hm:rs.map (λi=>ops[i]?)=os.map some)
 (hw:wpList P ops Q os a w):iH P md ops Q S T fuel (eT ops.size L) a w:=uq rs os fuel _ a w hl (JR h rs L hc) hT hm hw
theorem oZ(h:nI md ops tab)
 (hk:∀K':Act->World->Prop,Shut (∀a w,(T.contains i=false->S w)->iH P md ops Q S T fuel (eT ops.size (i :: L)) a w->K' a w)->if Region.wanted o (yielded ops a.tmps)=true then Oper.wp P o a w K' Q else K' (a.put o.dst undef) w)
 (hr:qN L tab=[i]:=by kernel_rfl) (ho:ops[i]?=some o:=by simp only[gE];rfl):iH P md ops Q S T (fuel+1) (eT ops.size L) a w:=Hy h hr ho hk
theorem G8
 (hk:∀K':Act->World->Prop,Shut (∀a w,(T.contains i=false->S w)->iH P md ops Q S T fuel (eT ops.size (i :: L)) a w->K' a w)->if Region.wanted o (yielded ops a.tmps)=true then Oper.wp P o a w K' Q else K' (a.put o.dst undef) w)
 (ho:ops[i]?=some o:=by simp only[gE];rfl):StepT P md ops Q S T fuel (eT ops.size L) a w i:=adv.run ho hk
theorem ow(h:nI md ops tab)(rs:List Nat)(os:List Oper)(hw:wpList P ops Q os a w)(hl:rs.length<=fuel:=by simp)(hc:Ab tab rs L=true:=by kernel_rfl)(hT:rs.all (λi=>T.contains i)=true:=by rfl)
 (hm:rs.map (λi=>ops[i]?)=os.map some:=by simp only[eZ,lU,gE];rfl):iH P md ops Q S T fuel (eT ops.size L) a w:=Hw h rs os fuel L a w hl hc hT hm hw
theorem bW{id:Nat}(S:World->Prop)(T:List Nat)(tab:List Row)(hm:P.follows .mixedOrders=true)(h:nI .any ops tab)(hS:S w.drew)
 (hk:nI .any ops tab->S w.drew->iH P .any ops Q S T ops.size (eT ops.size []) a w.drew):(Code.region id ops true).wp P Q a w:=lD S T hm hS (hk h)
end
end
end Go.Proofs.YteknjeohbcgpdaaGreatDoor