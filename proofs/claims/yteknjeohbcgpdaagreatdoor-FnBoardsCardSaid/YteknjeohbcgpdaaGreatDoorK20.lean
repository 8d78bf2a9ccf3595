/-
  Contract of the drawing of test inputs: spoilt. (3 texts.)
-/
import Derived.Test.YteknjeohbcgpdaaGreatDoorK3
import Derived.Test.YteknjeohbcgpdaaGreatDoorK4
import Derived.Deep.DeepCutAuto
import Derived.Deep.CutBlock
set_option maxRecDepth 100000
namespace Go.Proofs.YteknjeohbcgpdaaGreatDoor
open Tryz
section
open Go.RowKit
variable {w0 w:World} {pc k:Nat} {cv:Value} {us:List Nat}
def Ia(us:List Nat):List Value:=us.map λu=>.int .u8 ((u:Nat):Int)
structure yL(w0 w:World)(pc:Nat)(cv:Value)(us:List Nat)(k:Nat):Prop where
 code:lN w0 cv (Ia us)
 small:∀u,u∈us->u<256
 ext:Ext w0 w
 pcz:w0.heap.size<=pc
 blk:∃s:Int,w.heap[pc]?=some (.cells #[cv,.int .i64 ((k:Nat):Int),.int .u64 s] 77 (0,0))
theorem yL.open(h:yL w0 w pc cv us k):∃a cap,cv=.slice a us.length cap/\us.length<=1152921504606846976/\∀i (hi:i<us.length),∃b off,a=some ⟨b,off,none⟩/\w.cell? ⟨b,off+i,none⟩=some (.int .u8 ((us[i]:Nat):Int)):=by
 obtain⟨a,cap,e,hcap,p8,hcl⟩:=h.code.ext h.ext;have hz:(Ia us).length=us.length:=by simp[Ia]
 refine⟨a,cap,by rw[e,hz],by omega,λi hi=>?_⟩;obtain⟨b,off,e,hc⟩:=hcl (by omega);refine⟨b,off,e,?_⟩;rw[hc i (by omega)];simp[Ia]
def oF(w0 w w':World)(pc:Nat)(cv:Value)(us:List Nat)(k n:Nat):Prop:=(∃k',k'<=k+n/\yL w0 w' pc cv us k')/\dX (λb=>b=pc) w w'
theorem Uj(x:Int)(h0:0<=x)(h1:x<18446744073709551616):∃n:Nat,n<256/\wrap64 (bits BinOp.and IntKind.u64 x 255)=((n:Nat):Int):=by
 have h:=bits_mask .u64 64 (by decide) (λn h0 h1=>by rw[IntKind.wrap_u64];omega) 8 (by decide) x h0 (by omega);have e:bits BinOp.and IntKind.u64 x 255=x % 256:=by simpa using h
 refine⟨(x % 256).toNat,by omega,?_⟩;rw[e];unfold wrap64;omega
theorem yL.go{w':World}{s:Int}(h:yL w0 w pc cv us k)(hb:w'.heap[pc]?=some (.cells #[cv,.int .i64 (((k:Nat):Int)+1),.int .u64 s] 77 (0,0)))(hk:dX (λb=>b=pc) w w'):oF w0 w w' pc cv us k 1:=
 ⟨⟨k+1,ay _,h.code,h.small,⟨hk.os.trans h.ext.os,hk.tape.trans h.ext.tape,hk.output.trans h.ext.output,dn h.ext.size hk.size,λb hb=>(hk.block b (bz hb h.ext.size) (λe=>by have:=h.pcz;omega)).trans (h.ext.block b hb)⟩,h.pcz,s,by rw[hb,Int.natCast_succ]⟩,hk⟩
def Ou:List Row:=[⟨0,[],5,[0]⟩,⟨1,[0],6,[4]⟩,⟨2,[1],7,[5]⟩,⟨3,[2],8,[6]⟩,⟨4,[],9,[0]⟩,⟨5,[4],10,[8]⟩,⟨6,[5],11,[9]⟩,⟨7,[6],12,[10]⟩,⟨8,[7],13,[11]⟩,⟨9,[3,8],14,[7,12]⟩]
def Yh:List Row:=[⟨0,[],15,[0]⟩,⟨1,[0],16,[14]⟩,⟨2,[1],17,[15]⟩,⟨3,[2],18,[16]⟩,⟨4,[],19,[0]⟩,⟨5,[4],20,[18]⟩,⟨6,[5],21,[19]⟩,⟨7,[6],22,[20]⟩,⟨8,[3,7],23,[17,21]⟩,⟨9,[8],24,[22]⟩,⟨10,[9],25,[23]⟩,⟨11,[10,0,1,2,3,4,5,6,7,8,9,10],4,[24]⟩]
def Ot:List Row:=[⟨0,[],45,[0]⟩,⟨1,[0],46,[44]⟩,⟨2,[1],47,[45]⟩,⟨3,[2],48,[46]⟩,⟨4,[],49,[0]⟩,⟨5,[4],50,[48]⟩,⟨6,[5],51,[49]⟩,⟨7,[6],52,[50]⟩,⟨8,[7],53,[51]⟩,⟨9,[3,8],54,[47,52]⟩]
set_option maxHeartbeats 1000000 in
theorem Uc(h:yL w0 w pc cv us k)(hk:k<=1000000):
 Calls prog 152 #[.pointer (some ⟨pc,0,none⟩)] w λe w'=>∃x:Nat,x<256/\e=.returned (.int .i64 ((x:Nat):Int))/\oF w0 w w' pc cv us k 1:=by
 obtain⟨s,hb⟩:=h.blk;obtain⟨a,cap,rfl,p8,hcl⟩:=h.open;have c0:=cell_of_row w pc 0 _ _ _ hb;have c1:=cell_of_row w pc 1 _ _ _ hb;have c2:=cell_of_row w pc 2 _ _ _ hb;simp only[gE]at c0 c1 c2;have H:=aQ h;go_enter Tryz.func152,Tryz.ntmps152
 have f1:=frozen_of_row w pc 1 _ _ hb;have f2:=frozen_of_row w pc 2 _ _ hb;by_cases hlt:k<us.length
 .obtain⟨b,off,rfl,hu⟩:=hcl k hlt
  have hu8:=h.small _ (ai hlt);generalize us[k]=u at hu hu8;have sJ:((k:Nat):Int)<((us.length:Nat):Int):=by omega
  have hwu:IntKind.i64.wrap ((u:Nat):Int)=((u:Nat):Int):=(Go.IntWalk.i64_left _).trans (by unfold wrap64;omega);clear hcl hlt;go_upto_region 2 with fail
  refine bV (λV=>V.cell? ⟨pc,0,none⟩=some (.slice (some ⟨b,off,none⟩) us.length cap)/\V.cell? ⟨pc,1,none⟩=some (.int .i64 ((k:Nat):Int))) [] Ou (by kernel_rfl) ⟨by kernel_rfl,by kernel_rfl,by kernel_rfl⟩ ⟨c0,c1⟩ (λaz ah=>?_);(refine bT 0 az ah ?_;refine bT 1 az ah ?_;refine bT 2 az ah ?_;refine bT 3 az ah ?_;refine bT 4 az ah ?_;refine bT 5 az ah ?_;refine bT 6 az ah ?_;refine bT 7 az ah ?_;refine bT 8 az ah ?_;refine bT 9 az ah ?_);refine nU az [] [] ?_ (hm:=rfl);clear az ah;go_upto_region 3 with fail
  refine bV (λV=>V.cell? ⟨pc,0,none⟩=some (.slice (some ⟨b,off,none⟩) us.length cap)/\V.cell? ⟨pc,1,none⟩=some (.int .i64 ((k:Nat):Int))/\V.cell? ⟨b,off+k,none⟩=some (.int .u8 ((u:Nat):Int))) [] Yh (by kernel_rfl) ⟨by kernel_rfl,by kernel_rfl,by kernel_rfl⟩ ⟨c0,c1,hu⟩ (λaz ah=>?_);(refine bT 0 az ah ?_;refine bT 1 az ah ?_;refine bT 2 az ah ?_;refine bT 3 az ah ?_;refine bT 4 az ah ?_;refine bT 5 az ah ?_;refine bT 6 az ah ?_;refine bT 7 az ah ?_;refine bT 8 az ah ?_;refine bT 9 az ah ?_;refine bT 10 az ah ?_;refine bT 11 az ah ?_);refine nU az [] [] ?_ (hm:=rfl);clear az ah;go_upto_region 5 with fail
  have hb1:((w.setCell ⟨pc,1,none⟩ (.int .i64 (((k:Nat):Int)+1))).drew.drew).heap[pc]?=some (.cells #[.slice (some ⟨b,off,none⟩) us.length cap,.int .i64 (((k:Nat):Int)+1),.int .u64 s] 77 (0,0)):=by
   have:=heap_setCell_same w pc 1 _ _ (.int .i64 (((k:Nat):Int)+1)) hb;simp only[nE]at this;exact this
  have hk1:dX (λx=>x=pc) w ((w.setCell ⟨pc,1,none⟩ (.int .i64 (((k:Nat):Int)+1))).drew.drew):=⟨rfl,rfl,rfl,by simp,λx _ hn=>heap_setCell_other _ _ _ _ (λe=>hn e)⟩;generalize ((w.setCell ⟨pc,1,none⟩ (.int .i64 (((k:Nat):Int)+1))).drew.drew)=W1 at *;clear c0 c1 c2 f1 f2;have c2:=cell_of_row W1 pc 2 _ _ _ hb1;simp only[gE]at c2;have f2:=frozen_of_row W1 pc 2 _ _ hb1;go_upto_region 6 with fail
  generalize IntKind.u64.wrap (IntKind.u64.wrap (IntKind.u64.wrap (s*6364136223846793005)+((u:Nat):Int))+868868)=s2 at *;have hb2:(W1.setCell ⟨pc,2,none⟩ (.int .u64 s2)).heap[pc]?=some (.cells #[.slice (some ⟨b,off,none⟩) us.length cap,.int .i64 (((k:Nat):Int)+1),.int .u64 s2] 77 (0,0)):=by
   have:=heap_setCell_same W1 pc 2 _ _ (.int .u64 s2) hb1;simp only[nE]at this;exact this
  have hk2:dX (λx=>x=pc) w (W1.setCell ⟨pc,2,none⟩ (.int .u64 s2)):=hk1.trans ⟨rfl,rfl,rfl,by simp,λx _ hn=>heap_setCell_other _ _ _ _ (λe=>hn e)⟩ (λ_ _ h=>h);generalize W1.setCell ⟨pc,2,none⟩ (.int .u64 s2)=W2 at *;clear c2 f2 hb1 hk1;have c0:=cell_of_row W2 pc 0 _ _ _ hb2;have c1:=cell_of_row W2 pc 1 _ _ _ hb2;simp only[gE]at c0 c1;have hle:((k:Nat):Int)+1<=((us.length:Nat):Int):=by omega
  refine bV (λV=>V.cell? ⟨pc,0,none⟩=some (.slice (some ⟨b,off,none⟩) us.length cap)/\V.cell? ⟨pc,1,none⟩=some (.int .i64 (((k:Nat):Int)+1))) [] Ot (by kernel_rfl) ⟨by kernel_rfl,by kernel_rfl,by kernel_rfl⟩ ⟨c0,c1⟩ (λaz ah=>?_);(refine bT 0 az ah ?_;refine bT 1 az ah ?_;refine bT 2 az ah ?_;refine bT 3 az ah ?_;refine bT 4 az ah ?_;refine bT 5 az ah ?_;refine bT 6 az ah ?_;refine bT 7 az ah ?_;refine bT 8 az ah ?_;refine bT 9 az ah ?_);refine nU az [] [] ?_ (hm:=rfl);clear az ah;go_wp2
  go_ret
  exact⟨u,hu8,rfl,H.out.go hb2 ⟨hk2.os,hk2.tape,hk2.output,hk2.size,hk2.block⟩⟩
 .have sJ:¬(((k:Nat):Int)<((us.length:Nat):Int)):=by omega
  clear hcl hlt;go_upto_region 2 with fail
  refine bV (λV=>V.cell? ⟨pc,0,none⟩=some (.slice a us.length cap)/\V.cell? ⟨pc,1,none⟩=some (.int .i64 ((k:Nat):Int))) [] Ou (by kernel_rfl) ⟨by kernel_rfl,by kernel_rfl,by kernel_rfl⟩ ⟨c0,c1⟩ (λaz ah=>?_);(refine bT 0 az ah ?_;refine bT 1 az ah ?_;refine bT 2 az ah ?_;refine bT 3 az ah ?_;refine bT 4 az ah ?_;refine bT 5 az ah ?_;refine bT 6 az ah ?_;refine bT 7 az ah ?_;refine bT 8 az ah ?_;refine bT 9 az ah ?_);refine nU az [] [] ?_ (hm:=rfl);clear az ah;go_upto_region 5 with fail
  have hb1:((w.setCell ⟨pc,1,none⟩ (.int .i64 (((k:Nat):Int)+1))).drew).heap[pc]?=some (.cells #[.slice a us.length cap,.int .i64 (((k:Nat):Int)+1),.int .u64 s] 77 (0,0)):=by
   have:=heap_setCell_same w pc 1 _ _ (.int .i64 (((k:Nat):Int)+1)) hb;simp only[nE]at this;exact this
  have hk1:dX (λx=>x=pc) w ((w.setCell ⟨pc,1,none⟩ (.int .i64 (((k:Nat):Int)+1))).drew):=⟨rfl,rfl,rfl,by simp,λx _ hn=>heap_setCell_other _ _ _ _ (λe=>hn e)⟩;generalize ((w.setCell ⟨pc,1,none⟩ (.int .i64 (((k:Nat):Int)+1))).drew)=W1 at *;clear c0 c1 c2 f1 f2;have c2:=cell_of_row W1 pc 2 _ _ _ hb1;simp only[gE]at c2;have f2:=frozen_of_row W1 pc 2 _ _ hb1;go_upto_region 6 with fail
  obtain⟨s2,hs2,hs3⟩:∃s2,IntKind.u64.wrap (IntKind.u64.wrap (IntKind.u64.wrap (s*6364136223846793005))+868868)=s2/\0<=s2/\s2<18446744073709551616:=⟨_,rfl,by rw[IntKind.wrap_u64];omega,by rw[IntKind.wrap_u64];omega⟩;rw[hs2];have hb2:(W1.setCell ⟨pc,2,none⟩ (.int .u64 s2)).heap[pc]?=some (.cells #[.slice a us.length cap,.int .i64 (((k:Nat):Int)+1),.int .u64 s2] 77 (0,0)):=by
   have:=heap_setCell_same W1 pc 2 _ _ (.int .u64 s2) hb1;simp only[nE]at this;exact this
  have hk2:dX (λx=>x=pc) w (W1.setCell ⟨pc,2,none⟩ (.int .u64 s2)):=hk1.trans ⟨rfl,rfl,rfl,by simp,λx _ hn=>heap_setCell_other _ _ _ _ (λe=>hn e)⟩ (λ_ _ h=>h);generalize W1.setCell ⟨pc,2,none⟩ (.int .u64 s2)=W2 at *;have HS3:=aQ hs3;clear c2 f2 hb1 hk1 hs2 hs3;have c0:=cell_of_row W2 pc 0 _ _ _ hb2;have c1:=cell_of_row W2 pc 1 _ _ _ hb2;have c2:=cell_of_row W2 pc 2 _ _ _ hb2;simp only[gE]at c0 c1 c2;have hle:¬(((k:Nat):Int)+1<=((us.length:Nat):Int)):=by omega
  refine bV (λV=>V.cell? ⟨pc,0,none⟩=some (.slice a us.length cap)/\V.cell? ⟨pc,1,none⟩=some (.int .i64 (((k:Nat):Int)+1))) [] Ot (by kernel_rfl) ⟨by kernel_rfl,by kernel_rfl,by kernel_rfl⟩ ⟨c0,c1⟩ (λaz ah=>?_);(refine bT 0 az ah ?_;refine bT 1 az ah ?_;refine bT 2 az ah ?_;refine bT 3 az ah ?_;refine bT 4 az ah ?_;refine bT 5 az ah ?_;refine bT 6 az ah ?_;refine bT 7 az ah ?_;refine bT 8 az ah ?_;refine bT 9 az ah ?_);refine nU az [] [] ?_ (hm:=rfl);clear az ah;go_wp2
  have hm:=Uj (s2 / 1099511627776) (by have:=HS3.out;omega) (by have:=HS3.out;omega);generalize wrap64 (bits BinOp.and IntKind.u64 (s2 / 1099511627776) 255)=x at *;obtain⟨n,hn,rfl⟩:=hm;go_ret
  exact⟨n,hn,rfl,H.out.go hb2 ⟨hk2.os,hk2.tape,hk2.output,hk2.size,hk2.block⟩⟩
end
section
open Go.RowKit
variable {w0 w w':World} {pc k n:Nat} {cv:Value} {us:List Nat}
theorem oF.refl(h:yL w0 w pc cv us k)(e:dX (λb=>b=pc) w w')(hh:w'.heap=w.heap):oF w0 w w' pc cv us k n:=
 ⟨⟨k,by omega,h.code,h.small,⟨e.os.trans h.ext.os,e.tape.trans h.ext.tape,e.output.trans h.ext.output,dn h.ext.size e.size,λb hb=>by rw[hh];exact h.ext.block b hb⟩,h.pcz,by rw[hh];exact h.blk⟩,e⟩
theorem oF.drew(h:oF w0 w w' pc cv us k n)(m:Nat):oF w0 w (w'.drewN m) pc cv us k n:=by
 obtain⟨⟨k',h1,c⟩,e⟩:=h;exact⟨⟨k',h1,c.code,c.small,⟨c.ext.os,c.ext.tape,c.ext.output,c.ext.size,c.ext.block⟩,c.pcz,c.blk⟩,⟨e.os,e.tape,e.output,e.size,e.block⟩⟩
theorem yL.drew(c:yL w0 w pc cv us k)(m:Nat):yL w0 (w.drewN m) pc cv us k:=⟨c.code,c.small,⟨c.ext.os,c.ext.tape,c.ext.output,c.ext.size,c.ext.block⟩,c.pcz,c.blk⟩
theorem l9(h:yL w0 w pc cv us k)(hk:k<=1000000)(n:Nat)(hn:n<=200):
 Calls prog 92 #[.pointer (some ⟨pc,0,none⟩),.int .i64 ((n:Nat):Int)] w λe w'=>∃x:Nat,(x=0\/x<n)/\e=.returned (.int .i64 ((x:Nat):Int))/\oF w0 w w' pc cv us k 1:=by
 have H:=aQ h;clear h;by_cases hn1:n<=1
 .have h1:((n:Nat):Int)<=1:=by omega
  go_enter Tryz.func92,Tryz.ntmps92
  go_wp2
  go_ret
  exact⟨0,.inl rfl,rfl,oF.refl H.out ⟨rfl,rfl,rfl,ay _,λ_ _ _=>rfl⟩ rfl⟩
 .have h1:¬(((n:Nat):Int)<=1):=by omega
  have h2:¬(200<((n:Nat):Int)):=by omega
  have h3:((n:Nat):Int)≠0:=by omega
  go_enter Tryz.func92,Tryz.ntmps92
  go_wp2_with (go_at_call 152;refine(Uc H.out hk).mono ?_;rintro e w1 ⟨x,hx,rfl,hg⟩)
  go_ret
  exact⟨x % n,.inr (Nat.mod_lt _ (by omega)),rfl,hg⟩
theorem Yr(h:yL w0 w pc cv us k)(hk:k<=1000000)(n:Nat)(hn:n<=200):
 Calls prog 94 #[.pointer (some ⟨pc,0,none⟩),.int .i64 ((n:Nat):Int)] w λe w'=>∃b:Bool,e=.returned (.bool b)/\oF w0 w w' pc cv us k 1:=by
 have H:=aQ h;clear h;go_enter Tryz.func94,Tryz.ntmps94
 go_wp2_with (go_at_call 92;refine(l9 H.out hk n hn).mono ?_;rintro e w1 ⟨x,hx,rfl,hg⟩)
 go_ret
 exact⟨_,rfl,hg⟩
theorem WM{w1:World}{b off cap x:Nat}{l:List Int}(hv:Ints w (.slice (some ⟨b,off,none⟩) l.length cap) l)(hne:∀g,Value.ownBlock (.slice (some ⟨b,off,none⟩) l.length cap)=some g->g≠pc)(hl:0<l.length)(hg:oF w0 w w1 pc cv us k 1)(hx:x=0\/x<l.length):x<l.length/\((x:Nat):Int)<((l.length:Nat):Int)/\w1.cell? ⟨b,off+x,none⟩=some (.int .i64 (jo l x)):=by
 have hx':x<l.length:=by omega
 have hn:l≠[]:=by intro e;simp[e]at hl
 have hv1:Ints w1 (.slice (some ⟨b,off,none⟩) l.length cap) l:=hv.keep λg _ hg'=>hg.2.block g (hv.blk hn hg') (hne g hg')
 obtain⟨a,c,e,_,_,hc⟩:=hv1;obtain⟨b',off',e',hcl⟩:=hc hl;simp only[Value.slice.injEq]at e;obtain⟨rfl,-,-⟩:=e;simp only[bN,Addr.mk.injEq,and_true]at e';obtain⟨rfl,rfl⟩:=e';exact⟨hx',by omega,hcl x hx'⟩
theorem Ro(h:yL w0 w pc cv us k)(hk:k<=1000000)(v:Value)(l:List Int)(hv:Ints w v l)(hl:0<l.length/\l.length<=200)(hne:∀b,v.ownBlock=some b->b≠pc):
 Calls prog 52 #[.pointer (some ⟨pc,0,none⟩),v] w λe w'=>∃z:Int,z∈l/\e=.returned (.int .i64 z)/\oF w0 w w' pc cv us k 1:=by
 have H:=aQ h;obtain⟨a,cap,rfl,hcap,p8,hc⟩:=id hv;obtain⟨b,off,rfl,hcl⟩:=hc hl.1;have HL:=aQ hl;have HV:=aQ (And.intro hv hne);clear h hc hv hne hl hcl;go_enter Tryz.func52,Tryz.ntmps52
 go_wp2_with (go_at_call 92;refine(l9 H.out hk l.length HL.out.2).mono ?_;rintro e w1 ⟨x,hx,rfl,hg⟩;obtain⟨hx',hx2,hc1⟩:=WM HV.out.1 HV.out.2 HL.out.1 hg hx)
 go_ret
 exact⟨_,Gt hx',rfl,hg⟩
end
section
open Go.RowKit
def Yf:List Row:=[⟨0,[],29,[1]⟩,⟨1,[],30,[7]⟩,⟨2,[0,1],31,[28,29]⟩,⟨3,[],32,[8]⟩,⟨4,[2,3],33,[30,31]⟩,⟨5,[],34,[1]⟩,⟨6,[],35,[7]⟩,⟨7,[5,6],36,[33,34]⟩,⟨8,[4,7],37,[32,35]⟩,⟨9,[8,0,1,2,3,4,5,6,7,8],7,[36]⟩]
def Ye:List Row:=[⟨0,[],40,[1]⟩,⟨1,[],41,[7]⟩,⟨2,[0,1],42,[39,40]⟩,⟨3,[],43,[8]⟩,⟨4,[2,3],44,[41,42]⟩,⟨5,[],45,[1]⟩,⟨6,[],46,[7]⟩,⟨7,[6],47,[45]⟩,⟨8,[5,7],48,[44,46]⟩,⟨9,[4,8],49,[43,47]⟩,⟨10,[9,0,1,2,3,4,5,6,7,8,9],7,[48]⟩]
def Tg:List Row:=[⟨0,[],50,[1]⟩,⟨1,[],51,[7]⟩,⟨2,[0,1],52,[49,50]⟩,⟨3,[],53,[1]⟩,⟨4,[],54,[7]⟩,⟨5,[4],55,[53]⟩,⟨6,[3,5],56,[52,54]⟩,⟨7,[2,6],57,[51,55]⟩,⟨8,[7,0,1,2,3,4,5,6,7],7,[56]⟩]
set_option maxHeartbeats 1000000 in
theorem LV{w0 w:World}{pc:Nat}{cv:Value}{us:List Nat}{k:Nat}(h:yL w0 w pc cv us k)(hk:k<=900000)(t u:ByteArray)(hu:u.size=3)(ht:t.size<=200):
 Calls prog 108 #[.pointer (some ⟨pc,0,none⟩),.string t,.string u] w λe w'=>∃t':ByteArray,t'.size<=t.size+1/\e=.returned (.string t')/\oF w0 w w' pc cv us k 3:=by
 have H:=aQ h;clear h;have hu1:(1:Int)<=((u.size:Nat):Int):=by omega
 cases hE:t.toList.isEmpty with
 |true=>
  go_enter Tryz.func108,Tryz.ntmps108
  go_wp2
  go_ret
  exact⟨_,by rw[ByteArray.size_extract];omega,rfl,oF.refl H.out ⟨rfl,rfl,rfl,ay _,λ_ _ _=>rfl⟩ rfl⟩
 |false=>
  have ht1:0<t.size:=by
   rcases qi t.size with e|e
   .have:t=⟨#[]⟩:=ByteArray.ext (Array.eq_empty_of_size_eq_zero (by simpa using e))
    subst this;exact absurd hE (by simp)
   .exact e
  go_enter Tryz.func108,Tryz.ntmps108
  go_upto_region 4 with(go_at_call 92;refine(l9 H.out (by omega) t.size ht).mono ?_;rintro e w1 ⟨x,hx,rfl,hg⟩)
  have hx1:x<t.size:=by omega
  have hxi:((x:Nat):Int)<=((t.size:Nat):Int):=by omega
  obtain⟨⟨k1,hk1,h1⟩,e1⟩:=hg;have E1:=aQ e1;clear e1 hx;go_upto_region 5 with(go_at_call 92;refine(l9 h1 (by omega) 3 (by omega)).mono ?_;rintro e w2 ⟨y,hy,rfl,hg⟩;have hy1:((y:Nat):Int)<=((u.size:Nat):Int):=(by omega))
  obtain⟨s8,hs8⟩:∃s8:ByteArray,s8=(u.extract y 3).extract 0 1:=⟨_,rfl⟩;rw[<-hs8];have hz8:s8.size<=1:=by rw[hs8,ByteArray.size_extract];omega
  obtain⟨⟨k2,hk2,h2⟩,e2⟩:=hg;have E2:=aQ (E1.out.trans e2 λ_ _ h=>h);have hxj:((x:Nat):Int)+1<=((t.size:Nat):Int):=by omega
  have hwx:wrap64 (((x:Nat):Int)+1)=((x:Nat):Int)+1:=by unfold wrap64;omega
  clear hs8 e2 hE hy hy1 E1 h1;have key:∀w3,oF w0 w2 w3 pc cv us k2 1->∀m,oF w0 w (w3.drewN m) pc cv us k 3:=λw3 hg m=>by
   obtain⟨⟨k3,hk3,h3⟩,e3⟩:=hg;exact oF.drew ⟨⟨k3,by omega,h3⟩,E2.out.trans e3 λ_ _ h=>h⟩ m
  have KEY:=aQ key;clear key;go_upto_region 6 with(go_at_call 92;refine(l9 h2 (by omega) 3 (by omega)).mono ?_;rintro e w3 ⟨z,hz,rfl,hg⟩)
  have HG:=aQ hg;have hz3:z=0\/z=1\/z=2:=by omega
  clear hg hz;have hA:¬(9223372036854775807<min x t.size+s8.size):=by omega
  have hB:¬(9223372036854775807<min x t.size+s8.size+(t.size-x)):=by omega
  have hC:¬(9223372036854775807<min x t.size+(t.size-(x+1))):=by omega
  have hD:¬(9223372036854775807<min x t.size+s8.size+(t.size-(x+1))):=by omega
  have hwi:IntKind.i64.wrap (((x:Nat):Int)+1)=((x:Nat):Int)+1:=(Go.IntWalk.i64_left _).trans hwx;have htn:(((x:Nat):Int)+1).toNat=x+1:=by omega
  have h0x:(0:Int)<=((x:Nat):Int)+1:=by omega
  rcases hz3 with rfl|rfl|rfl
  .go_upto_region 7 with fail
   refine bV (λ_=>True) [] Yf (by kernel_rfl) ⟨by kernel_rfl,by kernel_rfl,by kernel_rfl⟩ trivial (λaz ah=>?_);(refine bT 0 az ah ?_;refine bT 1 az ah ?_;refine bT 2 az ah ?_;refine bT 3 az ah ?_;refine bT 4 az ah ?_;refine bT 5 az ah ?_;refine bT 6 az ah ?_;refine bT 7 az ah ?_;refine bT 8 az ah ?_;refine bT 9 az ah ?_);refine nU az [] [] ?_ (hm:=rfl);clear az ah;go_wp2
   go_ret
   exact⟨_,by simp only[nI,ByteArray.size_extract];omega,rfl,KEY.out _ HG.out 1⟩
  .go_upto_region 9 with fail
   refine bV (λ_=>True) [] Ye (by kernel_rfl) ⟨by kernel_rfl,by kernel_rfl,by kernel_rfl⟩ trivial (λaz ah=>?_);(refine bT 0 az ah ?_;refine bT 1 az ah ?_;refine bT 2 az ah ?_;refine bT 3 az ah ?_;refine bT 4 az ah ?_;refine bT 5 az ah ?_;refine bT 6 az ah ?_;refine bT 7 az ah ?_;refine bT 8 az ah ?_;refine bT 9 az ah ?_;refine bT 10 az ah ?_);refine nU az [] [] ?_ (hm:=rfl);clear az ah;go_wp2
   go_ret
   exact⟨_,by simp only[nI,ByteArray.size_extract];omega,rfl,KEY.out _ HG.out 1⟩
  .go_upto_region 10 with fail
   refine bV (λ_=>True) [] Tg (by kernel_rfl) ⟨by kernel_rfl,by kernel_rfl,by kernel_rfl⟩ trivial (λaz ah=>?_);(refine bT 0 az ah ?_;refine bT 1 az ah ?_;refine bT 2 az ah ?_;refine bT 3 az ah ?_;refine bT 4 az ah ?_;refine bT 5 az ah ?_;refine bT 6 az ah ?_;refine bT 7 az ah ?_;refine bT 8 az ah ?_);refine nU az [] [] ?_ (hm:=rfl);clear az ah;go_wp2
   go_ret
   exact⟨_,by simp only[nI,ByteArray.size_extract];omega,rfl,KEY.out _ HG.out 1⟩
end
end Go.Proofs.YteknjeohbcgpdaaGreatDoor