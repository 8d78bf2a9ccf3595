/-
  Memory of the reference's l5Sum. (11 texts.)
-/
import Derived.Test.YteknjeohbcgpdaaGreatDoorK21
import Derived.Test.YteknjeohbcgpdaaGreatDoorK22
set_option maxRecDepth 100000
namespace Go.Proofs.YteknjeohbcgpdaaGreatDoor
open Tryz
section
open Go.RowKit
variable {w0 w:World} {pc k:Nat} {cv:Value} {us:List Nat}
def JV(us:List Nat):List Value:=us.map λu=>.int .u8 ((u:Nat):Int)
structure Am(w0 w:World)(pc:Nat)(cv:Value)(us:List Nat)(k:Nat):Prop where
 code:lS w0 cv (JV us)
 small:∀u,u∈us->u<256
 ext:Ext w0 w
 Yz:w0.heap.size<=pc
 blk:∃s:Int,w.heap[pc]?=some (.cells #[cv,.int .i64 ((k:Nat):Int),.int .u64 s] 77 (0,0))
theorem Am.open(h:Am w0 w pc cv us k):∃a cap,cv=.slice a us.length cap/\us.length<=1152921504606846976/\∀i (hi:i<us.length),∃b off,a=some ⟨b,off,none⟩/\w.cell? ⟨b,off+i,none⟩=some (.int .u8 ((us[i]:Nat):Int)):=by
 obtain⟨a,cap,e,hcap,xP,hcl⟩:=h.code.ext h.ext;have hz:(JV us).length=us.length:=by simp[JV]
 refine⟨a,cap,by rw[e,hz],by omega,λi hi=>?_⟩;obtain⟨b,off,e,hc⟩:=hcl (by omega);refine⟨b,off,e,?_⟩;rw[hc i (by omega)];simp[JV]
def mf(w0 w w':World)(pc:Nat)(cv:Value)(us:List Nat)(k n:Nat):Prop:=(∃k',k'<=k+n/\Am w0 w' pc cv us k')/\fe (λb=>b=pc) w w'
theorem RS(x:Int)(h0:0<=x)(h1:x<18446744073709551616):∃n:Nat,n<256/\wrap64 (bits BinOp.and IntKind.u64 x 255)=((n:Nat):Int):=by
 have h:=bits_mask .u64 64 (by decide) (λn h0 h1=>by rw[IntKind.wrap_u64];omega) 8 (by decide) x h0 (by omega);have e:bits BinOp.and IntKind.u64 x 255=x % 256:=by simpa using h
 refine⟨(x % 256).toNat,by omega,?_⟩;rw[e];unfold wrap64;omega
theorem Am.go{w':World}{s:Int}(h:Am w0 w pc cv us k)(hb:w'.heap[pc]?=some (.cells #[cv,.int .i64 (((k:Nat):Int)+1),.int .u64 s] 77 (0,0)))(hk:fe (λb=>b=pc) w w'):mf w0 w w' pc cv us k 1:=
 ⟨⟨k+1,ai _,h.code,h.small,⟨hk.os.trans h.ext.os,hk.tape.trans h.ext.tape,hk.output.trans h.ext.output,bU h.ext.size hk.size,λb hb=>(hk.block b (aQ hb h.ext.size) (λe=>by have:=h.Yz;omega)).trans (h.ext.block b hb)⟩,h.Yz,s,by rw[hb,Int.natCast_succ]⟩,hk⟩
def M5:List Row:=[⟨0,[],5,[0]⟩,⟨1,[0],6,[4]⟩,⟨2,[1],7,[5]⟩,⟨3,[2],8,[6]⟩,⟨4,[],9,[0]⟩,⟨5,[4],10,[8]⟩,⟨6,[5],11,[9]⟩,⟨7,[6],12,[10]⟩,⟨8,[7],13,[11]⟩,⟨9,[3,8],14,[7,12]⟩]
def Vz:List Row:=[⟨0,[],15,[0]⟩,⟨1,[0],16,[14]⟩,⟨2,[1],17,[15]⟩,⟨3,[2],18,[16]⟩,⟨4,[],19,[0]⟩,⟨5,[4],20,[18]⟩,⟨6,[5],21,[19]⟩,⟨7,[6],22,[20]⟩,⟨8,[3,7],23,[17,21]⟩,⟨9,[8],24,[22]⟩,⟨10,[9],25,[23]⟩,⟨11,[10,0,1,2,3,4,5,6,7,8,9,10],4,[24]⟩]
def M0:List Row:=[⟨0,[],45,[0]⟩,⟨1,[0],46,[44]⟩,⟨2,[1],47,[45]⟩,⟨3,[2],48,[46]⟩,⟨4,[],49,[0]⟩,⟨5,[4],50,[48]⟩,⟨6,[5],51,[49]⟩,⟨7,[6],52,[50]⟩,⟨8,[7],53,[51]⟩,⟨9,[3,8],54,[47,52]⟩]
set_option maxHeartbeats 1000000 in
theorem RL(h:Am w0 w pc cv us k)(hk:k<=1000000):
 Calls prog 152 #[.pointer (some ⟨pc,0,none⟩)] w λe w'=>∃x:Nat,x<256/\e=.returned (.int .i64 ((x:Nat):Int))/\mf w0 w w' pc cv us k 1:=by
 obtain⟨s,hb⟩:=h.blk;obtain⟨a,cap,rfl,xP,hcl⟩:=h.open;have c0:=cell_of_row w pc 0 _ _ _ hb;have c1:=cell_of_row w pc 1 _ _ _ hb;have c2:=cell_of_row w pc 2 _ _ _ hb;simp only[gE]at c0 c1 c2;have H:=aH h;go_enter Tryz.func152,Tryz.ntmps152
 have f1:=frozen_of_row w pc 1 _ _ hb;have f2:=frozen_of_row w pc 2 _ _ hb;by_cases hlt:k<us.length
 .obtain⟨b,off,rfl,hu⟩:=hcl k hlt
  have hu8:=h.small _ (ah hlt);generalize us[k]=u at hu hu8;have uf:((k:Nat):Int)<((us.length:Nat):Int):=by omega
  have hwu:IntKind.i64.wrap ((u:Nat):Int)=((u:Nat):Int):=(Go.IntWalk.i64_left _).trans (by unfold wrap64;omega);clear hcl hlt;go_upto_region 2 with fail
  refine bW (λV=>V.cell? ⟨pc,0,none⟩=some (.slice (some ⟨b,off,none⟩) us.length cap)/\V.cell? ⟨pc,1,none⟩=some (.int .i64 ((k:Nat):Int))) [] M5 (by kernel_rfl) ⟨by kernel_rfl,by kernel_rfl,by kernel_rfl⟩ ⟨c0,c1⟩ (λax ae=>?_);(refine bT 0 ax ae ?_;refine bT 1 ax ae ?_;refine bT 2 ax ae ?_;refine bT 3 ax ae ?_;refine bT 4 ax ae ?_;refine bT 5 ax ae ?_;refine bT 6 ax ae ?_;refine bT 7 ax ae ?_;refine bT 8 ax ae ?_;refine bT 9 ax ae ?_);refine ow ax [] [] ?_ (hm:=rfl);clear ax ae;go_upto_region 3 with fail
  refine bW (λV=>V.cell? ⟨pc,0,none⟩=some (.slice (some ⟨b,off,none⟩) us.length cap)/\V.cell? ⟨pc,1,none⟩=some (.int .i64 ((k:Nat):Int))/\V.cell? ⟨b,off+k,none⟩=some (.int .u8 ((u:Nat):Int))) [] Vz (by kernel_rfl) ⟨by kernel_rfl,by kernel_rfl,by kernel_rfl⟩ ⟨c0,c1,hu⟩ (λax ae=>?_);(refine bT 0 ax ae ?_;refine bT 1 ax ae ?_;refine bT 2 ax ae ?_;refine bT 3 ax ae ?_;refine bT 4 ax ae ?_;refine bT 5 ax ae ?_;refine bT 6 ax ae ?_;refine bT 7 ax ae ?_;refine bT 8 ax ae ?_;refine bT 9 ax ae ?_;refine bT 10 ax ae ?_;refine bT 11 ax ae ?_);refine ow ax [] [] ?_ (hm:=rfl);clear ax ae;go_upto_region 5 with fail
  have hb1:((w.setCell ⟨pc,1,none⟩ (.int .i64 (((k:Nat):Int)+1))).drew.drew).heap[pc]?=some (.cells #[.slice (some ⟨b,off,none⟩) us.length cap,.int .i64 (((k:Nat):Int)+1),.int .u64 s] 77 (0,0)):=by
   have:=heap_setCell_same w pc 1 _ _ (.int .i64 (((k:Nat):Int)+1)) hb;simp only[nE]at this;exact this
  have hk1:fe (λx=>x=pc) w ((w.setCell ⟨pc,1,none⟩ (.int .i64 (((k:Nat):Int)+1))).drew.drew):=⟨rfl,rfl,rfl,by simp,λx _ hn=>heap_setCell_other _ _ _ _ (λe=>hn e)⟩;generalize ((w.setCell ⟨pc,1,none⟩ (.int .i64 (((k:Nat):Int)+1))).drew.drew)=W1 at *;clear c0 c1 c2 f1 f2;have c2:=cell_of_row W1 pc 2 _ _ _ hb1;simp only[gE]at c2;have f2:=frozen_of_row W1 pc 2 _ _ hb1;go_upto_region 6 with fail
  generalize IntKind.u64.wrap (IntKind.u64.wrap (IntKind.u64.wrap (s*6364136223846793005)+((u:Nat):Int))+868868)=s2 at *;have hb2:(W1.setCell ⟨pc,2,none⟩ (.int .u64 s2)).heap[pc]?=some (.cells #[.slice (some ⟨b,off,none⟩) us.length cap,.int .i64 (((k:Nat):Int)+1),.int .u64 s2] 77 (0,0)):=by
   have:=heap_setCell_same W1 pc 2 _ _ (.int .u64 s2) hb1;simp only[nE]at this;exact this
  have hk2:fe (λx=>x=pc) w (W1.setCell ⟨pc,2,none⟩ (.int .u64 s2)):=hk1.trans ⟨rfl,rfl,rfl,by simp,λx _ hn=>heap_setCell_other _ _ _ _ (λe=>hn e)⟩ (λ_ _ h=>h);generalize W1.setCell ⟨pc,2,none⟩ (.int .u64 s2)=W2 at *;clear c2 f2 hb1 hk1;have c0:=cell_of_row W2 pc 0 _ _ _ hb2;have c1:=cell_of_row W2 pc 1 _ _ _ hb2;simp only[gE]at c0 c1;have hle:((k:Nat):Int)+1<=((us.length:Nat):Int):=by omega
  refine bW (λV=>V.cell? ⟨pc,0,none⟩=some (.slice (some ⟨b,off,none⟩) us.length cap)/\V.cell? ⟨pc,1,none⟩=some (.int .i64 (((k:Nat):Int)+1))) [] M0 (by kernel_rfl) ⟨by kernel_rfl,by kernel_rfl,by kernel_rfl⟩ ⟨c0,c1⟩ (λax ae=>?_);(refine bT 0 ax ae ?_;refine bT 1 ax ae ?_;refine bT 2 ax ae ?_;refine bT 3 ax ae ?_;refine bT 4 ax ae ?_;refine bT 5 ax ae ?_;refine bT 6 ax ae ?_;refine bT 7 ax ae ?_;refine bT 8 ax ae ?_;refine bT 9 ax ae ?_);refine ow ax [] [] ?_ (hm:=rfl);clear ax ae;go_wp2
  go_ret
  exact⟨u,hu8,rfl,H.out.go hb2 ⟨hk2.os,hk2.tape,hk2.output,hk2.size,hk2.block⟩⟩
 .have uf:¬(((k:Nat):Int)<((us.length:Nat):Int)):=by omega
  clear hcl hlt;go_upto_region 2 with fail
  refine bW (λV=>V.cell? ⟨pc,0,none⟩=some (.slice a us.length cap)/\V.cell? ⟨pc,1,none⟩=some (.int .i64 ((k:Nat):Int))) [] M5 (by kernel_rfl) ⟨by kernel_rfl,by kernel_rfl,by kernel_rfl⟩ ⟨c0,c1⟩ (λax ae=>?_);(refine bT 0 ax ae ?_;refine bT 1 ax ae ?_;refine bT 2 ax ae ?_;refine bT 3 ax ae ?_;refine bT 4 ax ae ?_;refine bT 5 ax ae ?_;refine bT 6 ax ae ?_;refine bT 7 ax ae ?_;refine bT 8 ax ae ?_;refine bT 9 ax ae ?_);refine ow ax [] [] ?_ (hm:=rfl);clear ax ae;go_upto_region 5 with fail
  have hb1:((w.setCell ⟨pc,1,none⟩ (.int .i64 (((k:Nat):Int)+1))).drew).heap[pc]?=some (.cells #[.slice a us.length cap,.int .i64 (((k:Nat):Int)+1),.int .u64 s] 77 (0,0)):=by
   have:=heap_setCell_same w pc 1 _ _ (.int .i64 (((k:Nat):Int)+1)) hb;simp only[nE]at this;exact this
  have hk1:fe (λx=>x=pc) w ((w.setCell ⟨pc,1,none⟩ (.int .i64 (((k:Nat):Int)+1))).drew):=⟨rfl,rfl,rfl,by simp,λx _ hn=>heap_setCell_other _ _ _ _ (λe=>hn e)⟩;generalize ((w.setCell ⟨pc,1,none⟩ (.int .i64 (((k:Nat):Int)+1))).drew)=W1 at *;clear c0 c1 c2 f1 f2;have c2:=cell_of_row W1 pc 2 _ _ _ hb1;simp only[gE]at c2;have f2:=frozen_of_row W1 pc 2 _ _ hb1;go_upto_region 6 with fail
  obtain⟨s2,hs2,hs3⟩:∃s2,IntKind.u64.wrap (IntKind.u64.wrap (IntKind.u64.wrap (s*6364136223846793005))+868868)=s2/\0<=s2/\s2<18446744073709551616:=⟨_,rfl,by rw[IntKind.wrap_u64];omega,by rw[IntKind.wrap_u64];omega⟩;rw[hs2];have hb2:(W1.setCell ⟨pc,2,none⟩ (.int .u64 s2)).heap[pc]?=some (.cells #[.slice a us.length cap,.int .i64 (((k:Nat):Int)+1),.int .u64 s2] 77 (0,0)):=by
   have:=heap_setCell_same W1 pc 2 _ _ (.int .u64 s2) hb1;simp only[nE]at this;exact this
  have hk2:fe (λx=>x=pc) w (W1.setCell ⟨pc,2,none⟩ (.int .u64 s2)):=hk1.trans ⟨rfl,rfl,rfl,by simp,λx _ hn=>heap_setCell_other _ _ _ _ (λe=>hn e)⟩ (λ_ _ h=>h);generalize W1.setCell ⟨pc,2,none⟩ (.int .u64 s2)=W2 at *;have HS3:=aH hs3;clear c2 f2 hb1 hk1 hs2 hs3;have c0:=cell_of_row W2 pc 0 _ _ _ hb2;have c1:=cell_of_row W2 pc 1 _ _ _ hb2;have c2:=cell_of_row W2 pc 2 _ _ _ hb2;simp only[gE]at c0 c1 c2;have hle:¬(((k:Nat):Int)+1<=((us.length:Nat):Int)):=by omega
  refine bW (λV=>V.cell? ⟨pc,0,none⟩=some (.slice a us.length cap)/\V.cell? ⟨pc,1,none⟩=some (.int .i64 (((k:Nat):Int)+1))) [] M0 (by kernel_rfl) ⟨by kernel_rfl,by kernel_rfl,by kernel_rfl⟩ ⟨c0,c1⟩ (λax ae=>?_);(refine bT 0 ax ae ?_;refine bT 1 ax ae ?_;refine bT 2 ax ae ?_;refine bT 3 ax ae ?_;refine bT 4 ax ae ?_;refine bT 5 ax ae ?_;refine bT 6 ax ae ?_;refine bT 7 ax ae ?_;refine bT 8 ax ae ?_;refine bT 9 ax ae ?_);refine ow ax [] [] ?_ (hm:=rfl);clear ax ae;go_wp2
  have hm:=RS (s2 / 1099511627776) (by have:=HS3.out;omega) (by have:=HS3.out;omega);generalize wrap64 (bits BinOp.and IntKind.u64 (s2 / 1099511627776) 255)=x at *;obtain⟨n,hn,rfl⟩:=hm;go_ret
  exact⟨n,hn,rfl,H.out.go hb2 ⟨hk2.os,hk2.tape,hk2.output,hk2.size,hk2.block⟩⟩
end
section
open Go.RowKit
variable {w0 w w':World} {pc k n:Nat} {cv:Value} {us:List Nat}
theorem mf.refl(h:Am w0 w pc cv us k)(e:fe (λb=>b=pc) w w')(hh:w'.heap=w.heap):mf w0 w w' pc cv us k n:=
 ⟨⟨k,by omega,h.code,h.small,⟨e.os.trans h.ext.os,e.tape.trans h.ext.tape,e.output.trans h.ext.output,bU h.ext.size e.size,λb hb=>by rw[hh];exact h.ext.block b hb⟩,h.Yz,by rw[hh];exact h.blk⟩,e⟩
theorem mf.drew(h:mf w0 w w' pc cv us k n)(m:Nat):mf w0 w (w'.drewN m) pc cv us k n:=by
 obtain⟨⟨k',h1,c⟩,e⟩:=h;exact⟨⟨k',h1,c.code,c.small,⟨c.ext.os,c.ext.tape,c.ext.output,c.ext.size,c.ext.block⟩,c.Yz,c.blk⟩,⟨e.os,e.tape,e.output,e.size,e.block⟩⟩
theorem Am.drew(c:Am w0 w pc cv us k)(m:Nat):Am w0 (w.drewN m) pc cv us k:=⟨c.code,c.small,⟨c.ext.os,c.ext.tape,c.ext.output,c.ext.size,c.ext.block⟩,c.Yz,c.blk⟩
theorem mY(h:Am w0 w pc cv us k)(hk:k<=1000000)(n:Nat)(hn:n<=200):
 Calls prog 92 #[.pointer (some ⟨pc,0,none⟩),.int .i64 ((n:Nat):Int)] w λe w'=>∃x:Nat,(x=0\/x<n)/\e=.returned (.int .i64 ((x:Nat):Int))/\mf w0 w w' pc cv us k 1:=by
 have H:=aH h;clear h;by_cases hn1:n<=1
 .have h1:((n:Nat):Int)<=1:=by omega
  go_enter Tryz.func92,Tryz.ntmps92
  go_wp2
  go_ret
  exact⟨0,.inl rfl,rfl,mf.refl H.out ⟨rfl,rfl,rfl,ai _,λ_ _ _=>rfl⟩ rfl⟩
 .have h1:¬(((n:Nat):Int)<=1):=by omega
  have h2:¬(200<((n:Nat):Int)):=by omega
  have h3:((n:Nat):Int)≠0:=by omega
  go_enter Tryz.func92,Tryz.ntmps92
  go_wp2_with (go_at_call 152;refine(RL H.out hk).mono ?_;rintro e w1 ⟨x,hx,rfl,hg⟩)
  go_ret
  exact⟨x % n,.inr (Nat.mod_lt _ (by omega)),rfl,hg⟩
theorem BB(h:Am w0 w pc cv us k)(hk:k<=1000000)(n:Nat)(hn:n<=200):
 Calls prog 94 #[.pointer (some ⟨pc,0,none⟩),.int .i64 ((n:Nat):Int)] w λe w'=>∃b:Bool,e=.returned (.bool b)/\mf w0 w w' pc cv us k 1:=by
 have H:=aH h;clear h;go_enter Tryz.func94,Tryz.ntmps94
 go_wp2_with (go_at_call 92;refine(mY H.out hk n hn).mono ?_;rintro e w1 ⟨x,hx,rfl,hg⟩)
 go_ret
 exact⟨_,rfl,hg⟩
theorem UE{w1:World}{b off cap x:Nat}{l:List Int}(hv:Ints w (.slice (some ⟨b,off,none⟩) l.length cap) l)(hne:∀g,Value.ownBlock (.slice (some ⟨b,off,none⟩) l.length cap)=some g->g≠pc)(hl:0<l.length)(hg:mf w0 w w1 pc cv us k 1)(hx:x=0\/x<l.length):x<l.length/\((x:Nat):Int)<((l.length:Nat):Int)/\w1.cell? ⟨b,off+x,none⟩=some (.int .i64 (jv l x)):=by
 have hx':x<l.length:=by omega
 have hn:l≠[]:=by intro e;simp[e]at hl
 have hv1:Ints w1 (.slice (some ⟨b,off,none⟩) l.length cap) l:=hv.keep λg _ hg'=>hg.2.block g (hv.blk hn hg') (hne g hg')
 obtain⟨a,c,e,_,_,hc⟩:=hv1;obtain⟨b',off',e',hcl⟩:=hc hl;simp only[Value.slice.injEq]at e;obtain⟨rfl,-,-⟩:=e;simp only[bJ,Addr.mk.injEq,and_true]at e';obtain⟨rfl,rfl⟩:=e';exact⟨hx',by omega,hcl x hx'⟩
theorem Fg(h:Am w0 w pc cv us k)(hk:k<=1000000)(v:Value)(l:List Int)(hv:Ints w v l)(hl:0<l.length/\l.length<=200)(hne:∀b,v.ownBlock=some b->b≠pc):
 Calls prog 52 #[.pointer (some ⟨pc,0,none⟩),v] w λe w'=>∃z:Int,z∈l/\e=.returned (.int .i64 z)/\mf w0 w w' pc cv us k 1:=by
 have H:=aH h;obtain⟨a,cap,rfl,hcap,xP,hc⟩:=id hv;obtain⟨b,off,rfl,hcl⟩:=hc hl.1;have HL:=aH hl;have HV:=aH (And.intro hv hne);clear h hc hv hne hl hcl;go_enter Tryz.func52,Tryz.ntmps52
 go_wp2_with (go_at_call 92;refine(mY H.out hk l.length HL.out.2).mono ?_;rintro e w1 ⟨x,hx,rfl,hg⟩;obtain⟨hx',hx2,hc1⟩:=UE HV.out.1 HV.out.2 HL.out.1 hg hx)
 go_ret
 exact⟨_,Fx hx',rfl,hg⟩
end
section
open Go.RowKit
open bz (rZ GB qM Cs)
theorem zY{a b c:World}{G:Nat->Prop}(h:Ext a b)(k:fe G b c)(hG:∀x,G x->a.heap.size<=x):Ext a c:=
 ⟨k.os.trans h.os,k.tape.trans h.tape,k.output.trans h.output,bU h.size k.size,λx hx=>(k.block x (aQ hx h.size) (λg=>Nat.not_le.2 hx (hG x g))).trans (h.block x hx)⟩
end
section
open Go.RowKit
theorem Am.keep{w0 w w':World}{pc:Nat}{cv:Value}{us:List Nat}{k:Nat}{F:Nat->Prop}(c:Am w0 w pc cv us k)(h:fe F w w')(hF:∀b,F b->pc<b):Am w0 w' pc cv us k:=by
 have hz:=c.Yz;obtain⟨s,hb⟩:=c.blk;exact⟨c.code,c.small,zY c.ext h (λb hb=>by have:=hF b hb;omega),c.Yz,s,(h.block _ (bG hb) (λe=>by have:=hF _ e;omega)).trans hb⟩
end
section
open Go.RowKit
open bz (rZ GB qM Cs VL YD plc VH VI can fr)
def ah2(W:World)(ys:List Value)(b:rZ):Prop:=∃a c ss,ys=[.slice a (List.length ss) c]/\Strs W (.slice a (List.length ss) c) ss/\bd ss=b
end
section
open Go.RowKit
open bz (rZ GB qM Cs fr Grown sub ZU WN none_ GQ Z9 Bd)
theorem Ld(n:Nat):(madeCells #[Value.bool false] n).toList=(List.replicate n false).map Value.bool:=by
 apply List.ext_getElem?;intro i;by_cases h:i<n
 .simp[madeCells,h,Nat.mod_one]
 .simp[madeCells,h]
section
variable {w w1 wr w2:World} {box cv ov:Value} {sl:Nat->Value} {hh ww:Nat} {cl:Cl} {xs:List Value} {bs:List rZ}
end
end
section
open bz (dC Gm Canon iK fq eu Same plus rZ GB Cs Bd fr gB cnt adh kB YD VL can WN ZU GQ none_ nM lay)
theorem Ey{k:Nat}:∀{Fs:List dC},(∀F,F∈Fs->F.length<=k)->sizes Fs<=Fs.length*k:=by
 intro Fs
 induction Fs with
 |nil=>intro _;simp[sizes]
 |cons F Fs ih=>
  intro h;have:=ih λG hG=>h G (by simp[hG])
  have:=h F (by simp);simp only[sizes,eZ,jS,dO,nZ]at *;omega
theorem ZP{L L' R R':List Gm}(h1:∀x,x∈L->∃y,y∈L'/\iK x y)(h2:∀y,y∈L'->∃x,x∈L/\iK x y)(h3:∀x,x∈R->∃y,y∈R'/\iK x y)(h4:∀y,y∈R'->∃x,x∈R/\iK x y):iK (.mk L R) (.mk L' R'):=by
 constructor
 .refine bz.A8 (λr hr=>?_) (λl hl=>?_)
  .obtain⟨y,hy,e⟩:=h3 r hr;exact .inl ⟨y,hy,e.1⟩
  .obtain⟨x,hx,e⟩:=h2 l hl;exact .inl ⟨x,hx,e.1⟩
 .refine bz.A8 (λr hr=>?_) (λl hl=>?_)
  .obtain⟨x,hx,e⟩:=h4 r hr;exact .inl ⟨x,hx,e.2⟩
  .obtain⟨y,hy,e⟩:=h1 l hl;exact .inl ⟨y,hy,e.2⟩
theorem Fb:fu [([],[])] nM:=by
 have hw:bz.WF [([],[])]:=λi nd h=>by
  cases i with
  |zero=>simp at h;subst h;exact⟨λk hk=>(by cases hk),λk hk=>(by cases hk)⟩
  |succ i=>simp at h
 have no:∀{x:Gm},x∈([]:List Gm)->False:=λh=>by cases h
 refine⟨⟨⟨hw,λnd h=>?_,by simp⟩,by simp,λi j h hj=>by simp at hj;omega,λi hi=>?_⟩,nM,?_,?_,iK.refl _⟩
 .simp at h;subst h;exact⟨List.Pairwise.nil,List.Pairwise.nil⟩
 .have:i=0:=by simp at hi;omega
  subst this;exact bz.Reach.here
 .have e:eu [([],[])]=nM:=rfl
  rw[e];exact bz.jV _
 .exact Canon.mk _ ⟨λ_ _ h=>(no h).elim,λ_ _ h=>(no h).elim,λ_ h=>(no h).elim,λ_ h=>(no h).elim⟩ (λ_ h=>(no h).elim) (λ_ h=>(no h).elim)
end
section
open Go.RowKit
open bz (dC Nd vl Same Gm Canon iK Ge rZ GB qM fr gB adh kB)
variable {w w':World} {px b q:Nat} {vt vf Bt Bu v v':Value} {S S':Nat->Prop}
structure TG(w w':World)(px:Nat)(vt vf:Value)(S:Nat->Prop)(Bt Bu:Value)(S':Nat->Prop):Prop where
 keep:fe (kR px vt vf) w w'
 ins:∀b,kR px Bt Bu b->kR px vt vf b\/w.heap.size<=b
 s1:∀b,S b->S' b
 s2:∀b,S' b->S b\/w.heap.size<=b
theorem TG.ext(h:Ext w w'):TG w w' px vt vf S vt vf S:=⟨fV h,λ_ h=>.inl h,λ_ h=>h,λ_ h=>.inl h⟩
theorem TG.trans{a b c:World}{px:Nat}{t1 f1 t2 f2 t3 f3:Value}{S1 S2 S3:Nat->Prop}(h:TG a b px t1 f1 S1 t2 f2 S2)(k:TG b c px t2 f2 S2 t3 f3 S3):TG a c px t1 f1 S1 t3 f3 S3:=by
 have hz:=h.keep.size;refine⟨h.keep.trans k.keep (λx hx hi=>by rcases h.ins x hi with h|h;exact h;omega),λx hx=>?_,λx hx=>k.s1 x (h.s1 x hx),λx hx=>?_⟩
 .rcases k.ins x hx with h1|h1
  .exact h.ins x h1
  .exact .inr (by omega)
 .rcases k.s2 x hx with h1|h1
  .exact h.s2 x h1
  .exact .inr (by omega)
theorem TG.set(h:TG w w' px vt vf S Bt Bu S'){p:Addr}(hp:w.heap.size<=p.block)(u:Value):TG w (w'.setCell p u) px vt vf S Bt Bu S':=
 ⟨⟨h.keep.os,h.keep.tape,h.keep.output,by rw[World.size_setCell];exact h.keep.size,λk hk hn=>by rw[heap_setCell_other _ _ _ _ (by omega)];exact h.keep.block k hk hn⟩,h.ins,h.s1,h.s2⟩
theorem TG.sup{T:Nat->Prop}{A:World->Prop}(h:TG w w' px vt vf S Bt Bu S')(k:oP T A w)(hd:∀b,T b->¬kR px vt vf b):oP T A w':=k.keep h.keep hd
theorem TG.block{w w':World}{px:Nat}{vt vf Bt Bu:Value}{S S':Nat->Prop}(h:TG w w' px vt vf S Bt Bu S'){b:Nat}(h1:b<w.heap.size)(h2:¬kR px vt vf b):w'.heap[b]?=w.heap[b]?:=h.keep.block b h1 h2
theorem TG.VD(h:TG w w' px vt vf S Bt Bu S')(h1:b<w.heap.size)(h2:¬kR px vt vf b)(h3:¬S b):¬kR px Bt Bu b/\¬S' b:=
 ⟨λk=>by rcases h.ins b k with k|k;exact h2 k;omega,λk=>by rcases h.s2 b k with k|k;exact h3 k;omega⟩
theorem Np(hl:mM w v v')(hb:b<w.heap.size)(hn:v.ownBlock≠some b):v'.ownBlock≠some b:=λe=>by
 rcases hl with k|⟨g,k,k2⟩
 .exact hn (by rw[<-k];exact e)
 .rw[k]at e;injection e with e;omega
theorem BG(hl:mM w v v')(h:v'.ownBlock=some b):v.ownBlock=some b\/w.heap.size<=b:=by
 rcases hl with k|⟨g,k,k2⟩
 .exact .inl (by rw[<-k];exact h)
 .rw[k]at h;injection h with h;exact .inr (by omega)
def SS(bs:Nat)(f:Nat->Value)(b:Nat):Prop:=b=bs\/(f 0).ownBlock=some b\/(f 1).ownBlock=some b
theorem Qi(h:q<2):q=0\/q=1:=by omega
theorem SS.of{bs:Nat}{f:Nat->Value}(hq:q<2)(h:(f q).ownBlock=some b):SS bs f b:=by
 rcases Qi hq with rfl|rfl
 .exact .inr (.inl h)
 .exact .inr (.inr h)
section
variable {w wr w1:World} {px:Nat} {Fy FC:Value} {S0:Nat->Prop} {L0:List (ByteArray × dC)} {X0:Obj} {bl:Nat->List rZ} {kk:Nat} {bs:Nat} {vt vf:Value} {S:Nat->Prop} {L:List (ByteArray × dC)} {f:Nat->Value} {Fs:Nat->List dC}
theorem SS.push{bs q:Nat}{f:Nat->Value}{wr:World}{v5:Value}(hq:q<2)(hl:mM wr (f q) v5):∀b,SS bs (λp=>if p=q then v5 else f p) b->SS bs f b\/wr.heap.size<=b:=by
 intro b hb;have key:∀p,p<2->((λp=>if p=q then v5 else f p) p).ownBlock=some b->SS bs f b\/wr.heap.size<=b:=λp hp hb=>by
  by_cases c:p=q
  .subst c
   simp only[if_true]at hb;rcases hl with k|⟨g,k,k2⟩
   .exact .inl (SS.of hq (by rw[<-k];exact hb))
   .rw[k]at hb;injection hb with hb;exact .inr (by omega)
  .simp only[c,if_false]at hb
   exact .inl (SS.of hp hb)
 rcases hb with hb|hb|hb
 .exact .inl (.inl hb)
 .exact key 0 (by omega) hb
 .exact key 1 (by omega) hb
end
end
section
open Go.RowKit
open bz (Stp kC jW eQ mU qh)
variable {w w1 wr:World} {ov:Value} {ss:List ByteArray} {k:Nat}
structure Ro(w w1 wr:World)(ov:Value)(ss:List ByteArray):Prop where
 keep:fe (λb=>b=w.heap.size) w1 wr
 own:wr.ownsRow w.heap.size 9 1 ov ss.length (ss.map Value.string)
 sep:∀b,ov.ownBlock=some b->b=w.heap.size\/w1.heap.size<=b
theorem Ro.new(hx:Ext (w.alloc (.cells #[] 9)) w1):Ro w w1 w1 (.slice (some ⟨w.heap.size,0,none⟩) 0 0) []:=
 ⟨fV (Below.refl _ _),dn (fC w _ (ai _) _) hx,λb hb=>by simp[Value.ownBlock]at hb;exact .inl hb.symm⟩
theorem Ro.to{w2:World}(m:Ro w w1 wr ov ss)(h:Ext wr w2):Ro w w1 w2 ov ss:=
 ⟨m.keep.trans (fV (F:=λb=>b=w.heap.size) h) λ_ _ e=>e,dn m.own h,m.sep⟩
theorem Ro.ext(m:Ro w w1 wr ov ss)(hx:Ext w w1):Ext w wr:=zY hx m.keep λx h=>by omega
theorem Ro.put{w5:World}{v5:Value}{s:ByteArray}{X:Obj}(m:Ro w w1 wr ov ss)
 (ho:w5.ownsRow w.heap.size 9 1 v5 (ss.length+1) (ss.map Value.string++[.string s])) (hg:(wr.alloc X).grownBy w5 ov.ownBlock) (hl:mM (wr.alloc X) ov v5):Ro w w1 w5 v5 (ss++[s]):=by
 have hz:(wr.alloc X).heap.size=wr.heap.size+1:=fw _ _;have z1:=m.keep.size;refine⟨?_,by rw[aU,aj];exact ho,λb hb=>?_⟩
 .have hk:fe (λb=>ov.ownBlock=some b) wr w5:=⟨hg.os,hg.tape,hg.output,by have:=hg.size;omega,λb hb hn=>by
   rw[hg.block b (by omega) (λe=>hn e.symm),Below.heap_alloc _ _ _ (by omega)]⟩
  exact m.keep.trans hk λb hb e=>by rcases m.sep b e with k|k;exact k;omega
 .rcases hl with e|⟨q,e,k⟩
  .exact m.sep b (by rw[<-e];exact hb)
  .rw[e]at hb;injection hb with hb;exact .inr (by omega)
theorem Ro.strs{v:Value}{ts:List ByteArray}(m:Ro w w1 wr ov ss)(h:Strs w1 v ts)(hv:∀b,v.ownBlock=some b->b≠w.heap.size):Strs wr v ts:=
 lS.keep h λb hl hb=>m.keep.block b (lS.blk h hl hb) (hv b hb)
def zJ(k:Nat)(l:List Stp)(i:Nat):List Stp:=(l.take i).filter λt=>!kC k t
theorem ry{l:List Stp}{i:Nat}(h:i<l.length):zJ k l (i+1)=zJ k l i++if kC k l[i]then []else [l[i]]:=by
 unfold zJ;rw[bg h,List.filter_append];congr 1;cases hv:kC k l[i] <;> simp[hv]
theorem Cg:∀(m:Nat) (s:Stp) (p:Option UInt8),s.length<=m->(bz.runs p s).length<=s.length
 |_,[],p,_=>by rw[bz.Cf];simp
 |m+1,c :: s,p,hm=>by
  have hm:s.length<=m:=by simpa using hm
  rw[bz.runs];split
  .have h1:=(List.dropWhile_sublist (l:=s) (· == (46:UInt8))).length_le
   have:=Cg m (s.dropWhile (· == 46)) none (by omega);simp only[dO];omega
  .have:=Cg m s (some c) hm
   simp only[dO];omega
theorem mH(s:Stp):(jW k s).length<=s.length+1/\∀t,t∈jW k s->t.length<=s.length:=by
 unfold jW;split
 .exact⟨by simp,λt ht=>by rw[eH.1 ht];exact ai _⟩
 .split
  .have:=bz.rT s
   exact⟨by omega,λt ht=>(bz.uU ht).2⟩
  .have:=Cg _ s none (ai _)
   exact⟨by omega,λt ht=>by have:=((bz.ru (ai 2) _ s none (ai _) (λ_ h=>by cases h)).2 t ht).2.1;simpa using this⟩
set_option maxHeartbeats 1000000 in
theorem yN(hk:k<=3)(s:ByteArray)(hs:s.size<=12)(w:World):Calls prog 58 #[.int .i64 ((k:Nat):Int),.string s] w (jJ w (eQ k (bH s))):=by
 obtain⟨i0,hi0,hz0,hz1,hz2⟩:=info_parts fO;have hx0:Ext w (w.alloc (.cells #[] 9)):=bK (Below.refl _ _) _;have Vl:=aH (mH (k:=k) (bH s));have HSZ:Hid ((w.alloc (.cells #[] 9)).heap.size=w.heap.size+1):=aH (fw _ _);go_enter Tryz.func58,Tryz.ntmps58
 go_upto_region 3 with(go_at_call 102;refine(Lp hk s hs _).mono ?_;rintro e w1 hr;obtain⟨ar,raw,cr,rfl,hmr,hl,hn⟩:=hr.open;have HL:=aH hl;have HN:=aH hn;clear hn hl hr)
 have hm:=Ro.new hmr.ext;have hx1:=ay hx0 hmr.ext;have hrl:raw.length<=13:=by have:=Vl.out.1;have:=HN.out;rw[bN]at *;omega
 have GU:=aH (Strs.eO hmr.own (by omega));have Oc:Hid (∀b,(Value.slice ar raw.length cr).ownBlock=some b->b≠w.heap.size):=aH λb hb=>by have:=(hmr.own.lt b hb).1;have:=HSZ.out;omega
 have Kq:=aH hx1;clear hx0 hmr hx1;go_wp2
 go_loopw [5,7] (λov ii wr=>∃(i:Nat) (ss:List ByteArray),ii=.int .i64 ((i:Nat):Int)/\i<=raw.length/\ss.length<=i/\Ro w w1 wr ov ss/\Hid (ss.map bH=zJ k (jW k (bH s)) i)) (λ_ ii _=>raw.length-(intOf ii).toNat)
 case atStart=>exact⟨0,[],rfl,az _,az _,hm,aH rfl⟩
 case round=>
  clear hm;obtain⟨i,ss,rfl,hi,hsl,hm,fK⟩:=hrel;obtain⟨ao,co,rfl,-,-⟩:=bD hm.own;by_cases hlt:i<raw.length
  .have h1:((i:Nat):Int)<((raw.length:Nat):Int):=by omega
   have dK:=aH hlt;obtain⟨b,off,rfl,hc⟩:=(hm.strs GU.out Oc.out).at hlt;have hce:=hc i hlt;have uf:i<(jW k (bH s)).length:=(by rw[<-HL.out,aJ];exact hlt);have hel:(jW k (bH s))[i]'uf=bH (raw[i]'hlt):=by
    have e:(raw.map bH)[i]?=(jW k (bH s))[i]?:=(by rw[HL.out]);rw[dB,aa hlt,aa uf]at e;simp only[iG,bJ]at e;exact e.symm
   have hps:=ry (k:=k) uf;rw[hel]at hps;have hrz:(raw[i]'hlt).size<=12:=by
    have:=Vl.out.2 _ (ah uf);rw[hel,bN,bN]at this;omega
   obtain⟨r,her⟩:∃r,r=raw[i]'hlt:=⟨_,rfl⟩;rw[<-her]at hce hps hrz;have hO:=Ji hk r hrz;cases hv:kC k (bH r)with
   |true=>
    rw[hv]at hps hO;rw[if_pos rfl,bq]at hps;have Eg:=aH hps;have HO:=aH hO;clear hps hO hv her hrz hel uf hlt hc;go_wp2_with (go_at_call 103;refine(HO.out _).mono ?_;rintro e w2 ⟨rfl,hx⟩;have hm:=hm.to hx)
    go_roundw
    case rel=>exact⟨i+1,ss,by go_num,dK.out,by omega,hm,aH (by rw[fK.out,Eg.out])⟩
    case measure=>have:=dK.out;simp[intOf];omega
   |false=>
    rw[hv]at hps hO;rw[if_neg (by simp)]at hps;have Eg:=aH hps;have HO:=aH hO;clear hps hO hv her hrz hel uf hlt hc
    go_wp2_with (first
     |(go_at_call 103;refine(HO.out _).mono ?_;rintro e w2 ⟨rfl,hx⟩;have hm:=hm.to hx;have al5:=(hx.cell (lt_of_cell hce)).trans hce)
     |(at_builtin;refine bQ rfl (.tmp 25) (.tmp 30) 22 rfl w.heap.size 9 i0 (.string ⟨#[]⟩) 1 16 underlying22 hi0 hz0 hz1 hz2 rfl (by decide) (.slice ao ss.length co) ss.length (ss.map Value.string) rfl (hm.own.alloc _) _ 1 _ [.string r] rfl rfl (.inr ⟨_,rfl,cK (bP _ _ _)⟩) dH (by unfold maxLen;omega) (by omega) (by have:=(hm.ext Kq.out).size;rw[fw];omega) ?_;intro v5 w5 fI hg5 hl5;have hm:=hm.put fI hg5 hl5))
    go_roundw
    case rel=>exact⟨i+1,ss++[r],by go_num,dK.out,by rw[aj,bV];omega,hm,aH (by rw[aU,fK.out,Eg.out];rfl)⟩
    case measure=>have:=dK.out;simp[intOf];omega
  .have hie:i=raw.length:=by omega
   subst hie;go_wp2
   go_ret
   exact⟨_,ss,rfl,⟨hm.own,hm.ext Kq.out⟩,by rw[fK.out,zJ,cO (by rw[<-HL.out,aJ];exact ai _)];rfl⟩
end
section
open Go.RowKit
open bz (dC Nd vl Same plus)
variable {D D' F G:dC} {at_:List Nat} {i k:Nat}
def qp(D F G:dC)(at_:List Nat):Prop:=∀m (h:m<at_.length),at_[m]<D.length/\∀i k,m=i*G.length+k->k<G.length->Same (vl D at_[m]) (plus (vl F i) (vl G k))
def DV(F G:dC)(at_:List Nat)(i k:Nat):List Nat:=((F.getD i ([],[])).1.map λx=>at_.getD (x*G.length+k) 0)++(G.getD k ([],[])).1.map λy=>at_.getD (i*G.length+y) 0
def DU(F G:dC)(at_:List Nat)(i k:Nat):List Nat:=((F.getD i ([],[])).2.map λx=>at_.getD (x*G.length+k) 0)++(G.getD k ([],[])).2.map λy=>at_.getD (i*G.length+y) 0
theorem qp.nil(D F G:dC):qp D F G []:=λm h=>absurd h (by simp)
theorem qp.more(h:qp D F G at_)(g:bz.WF D)(g':bz.WF D')(hm:∃E,D'=D++E):qp D' F G at_:=by
 obtain⟨E,rfl⟩:=hm;intro m hm;obtain⟨a,b⟩:=h m hm;exact⟨by simp;omega,λi k e hk=>by rw[bz.ib g g' _ a];exact b i k e hk⟩
theorem qp.at(h:qp D F G at_)(hk:k<G.length)(hm:i*G.length+k<at_.length):at_.getD (i*G.length+k) 0<D.length/\Same (vl D (at_.getD (i*G.length+k) 0)) (plus (vl F i) (vl G k)):=by
 rw[aV,aa hm,gz];exact⟨(h _ hm).1,(h _ hm).2 i k rfl hk⟩
theorem qp.snoc{x:Nat}(h:qp D F G at_)(hl:at_.length=i*G.length+k)(hk:k<G.length)(hx:x<D.length)(hs:Same (vl D x) (plus (vl F i) (vl G k))):qp D F G (at_++[x]):=by
 intro m hm;by_cases c:m<at_.length
 .rw[dM c];exact h m c
 .have e:m=at_.length:=by simp at hm;omega
  subst e;rw[eB (ai _)];simp only[Nat.sub_self,List.getElem_cons_zero];refine⟨hx,λi' k' e hk'=>?_⟩;rw[hl]at e;have e1:i=i':=by
   rcases qZ i i' with q|q|q
   .have:=iM G.length (show i+1<=i' from q);rw[Nat.succ_mul]at this;omega
   .exact q
   .have:=iM G.length (show i'+1<=i from q);rw[Nat.succ_mul]at this;omega
  subst e1;have e2:k=k':=by omega
  subst e2;exact hs
theorem vO{n h:Nat}(hi:i<h)(hk:k<n):i*n+k<h*n:=by
 have:=iM n (show i+1<=h from hi);rw[Nat.succ_mul]at this;omega
theorem Vr(h:qp D F G at_)(hF:bz.WF F)(hG:bz.WF G)(hi:i<F.length)(hk:k<G.length)(hl:at_.length=i*G.length+k):(∀x,x∈DV F G at_ i k->x<D.length)/\∀x,x∈DU F G at_ i k->x<D.length:=by
 have dF:F[i]?=some F[i]:=aa hi;have dG:G[k]?=some G[k]:=aa hk;have wF:=hF i _ dF;have wG:=hG k _ dG;have eF:F.getD i ([],[])=F[i]:=by rw[aV,dF];rfl
 have eG:G.getD k ([],[])=G[k]:=by rw[aV,dG];rfl
 have kF:∀x,x<i->at_.getD (x*G.length+k) 0<D.length:=λx hx=>(h.at hk (by rw[hl];have:=vO hx hk;omega)).1
 have kG:∀y,y<k->at_.getD (i*G.length+y) 0<D.length:=λy hy=>(h.at (by omega) (by omega)).1
 refine⟨λx hx=>?_,λx hx=>?_⟩
 .unfold DV at hx;rw[eF,eG]at hx
  rcases aK.1 hx with hx|hx
  .obtain⟨y,hy,rfl⟩:=aI.1 hx;exact kF y (wF.1 y hy)
  .obtain⟨y,hy,rfl⟩:=aI.1 hx;exact kG y (wG.1 y hy)
 .unfold DU at hx;rw[eF,eG]at hx
  rcases aK.1 hx with hx|hx
  .obtain⟨y,hy,rfl⟩:=aI.1 hx;exact kF y (wF.2 y hy)
  .obtain⟨y,hy,rfl⟩:=aI.1 hx;exact kG y (wG.2 y hy)
theorem QR{j:Nat}(g:bz.WF D)(g':bz.WF D')(hF:bz.WF F)(hG:bz.WF G)(hi:i<F.length)(hk:k<G.length)(h:qp D F G at_)(hl:at_.length=i*G.length+k)
 (hp:jo D (DV F G at_ i k) (DU F G at_ i k) D' j):Same (vl D' j) (plus (vl F i) (vl G k)):=by
 have dF:F[i]?=some F[i]:=aa hi;have dG:G[k]?=some G[k]:=aa hk;have wF:=hF i _ dF;have wG:=hG k _ dG;have eF:F.getD i ([],[])=F[i]:=by rw[aV,dF];rfl
 have eG:G.getD k ([],[])=G[k]:=by rw[aV,dG];rfl
 have kF:∀x,x<i->Same (vl D' (at_.getD (x*G.length+k) 0)) (plus (vl F x) (vl G k)):=λx hx=>by
  have:=h.at (i:=x) hk (by rw[hl];have:=vO hx hk;omega);rw[hp.vl g g' this.1];exact this.2
 have kG:∀y,y<k->Same (vl D' (at_.getD (i*G.length+y) 0)) (plus (vl F i) (vl G y)):=λy hy=>by
  have:=h.at (i:=i) (k:=y) (by omega) (by omega);rw[hp.vl g g' this.1];exact this.2
 rw[bz.same_iff,bz.om g' hp.1,bz.oh g' hp.1];refine⟨λy hy=>?_,λy hy=>?_,λy hy=>?_,λy hy=>?_⟩
 .obtain⟨x,hx,rfl⟩:=aI.1 hy
  have hx:=bZ.1 hx;unfold DV at hx;rw[eF,eG]at hx;rcases aK.1 hx with hx|hx
  .obtain⟨z,hz,rfl⟩:=aI.1 hx
   exact⟨_,bz.iw.2 (.inl ⟨_,by rw[bz.om hF dF];exact aW hz,rfl⟩),kF z (wF.1 z hz)⟩
  .obtain⟨z,hz,rfl⟩:=aI.1 hx
   exact⟨_,bz.iw.2 (.inr ⟨_,by rw[bz.om hG dG];exact aW hz,rfl⟩),kG z (wG.1 z hz)⟩
 .rcases bz.iw.1 hy with⟨u,hu,rfl⟩|⟨u,hu,rfl⟩
  .rw[bz.om hF dF]at hu
   obtain⟨z,hz,rfl⟩:=aI.1 hu;exact⟨_,aW (bZ.2 (by unfold DV;rw[eF,eG];exact aK.2 (.inl (aW hz)))),kF z (wF.1 z hz)⟩
  .rw[bz.om hG dG]at hu
   obtain⟨z,hz,rfl⟩:=aI.1 hu;exact⟨_,aW (bZ.2 (by unfold DV;rw[eF,eG];exact aK.2 (.inr (aW hz)))),kG z (wG.1 z hz)⟩
 .obtain⟨x,hx,rfl⟩:=aI.1 hy
  have hx:=bZ.1 hx;unfold DU at hx;rw[eF,eG]at hx;rcases aK.1 hx with hx|hx
  .obtain⟨z,hz,rfl⟩:=aI.1 hx
   exact⟨_,bz.iq.2 (.inl ⟨_,by rw[bz.oh hF dF];exact aW hz,rfl⟩),kF z (wF.2 z hz)⟩
  .obtain⟨z,hz,rfl⟩:=aI.1 hx
   exact⟨_,bz.iq.2 (.inr ⟨_,by rw[bz.oh hG dG];exact aW hz,rfl⟩),kG z (wG.2 z hz)⟩
 .rcases bz.iq.1 hy with⟨u,hu,rfl⟩|⟨u,hu,rfl⟩
  .rw[bz.oh hF dF]at hu
   obtain⟨z,hz,rfl⟩:=aI.1 hu;exact⟨_,aW (bZ.2 (by unfold DU;rw[eF,eG];exact aK.2 (.inl (aW hz)))),kF z (wF.2 z hz)⟩
  .rw[bz.oh hG dG]at hu
   obtain⟨z,hz,rfl⟩:=aI.1 hu;exact⟨_,aW (bZ.2 (by unfold DU;rw[eF,eG];exact aK.2 (.inr (aW hz)))),kG z (wG.2 z hz)⟩
end
section
open Go.RowKit
open bz (dC Nd vl Same plus)
variable {wo wr w5:World} {lv rv v5:Value} {l r:List Nat} {x:Nat} {X:Obj}
structure LR(wo wr:World)(lv rv:Value)(l r:List Nat):Prop where
 el:wr.ownsRow wo.heap.size 3 1 lv l.length ((dx l).map (Value.int .i64))
 er:wr.ownsRow wo.heap.size 3 1 rv r.length ((dx r).map (Value.int .i64))
 ap:∀b,lv.ownBlock=some b->rv.ownBlock≠some b
 ext:Ext wo wr
theorem LR.drew{w2:World}(h:LR wo wr lv rv l r)(hx:Ext wr w2):LR wo w2 lv rv l r:=⟨dn h.el hx,dn h.er hx,h.ap,ay h.ext hx⟩
theorem LR.aa9(h:LR wo wr lv rv l r)(ho:w5.ownsRow wo.heap.size 3 1 v5 (l.length+1) ((dx l).map (Value.int .i64)++[.int .i64 ((x:Nat):Int)]))(hg:(wr.alloc X).grownBy w5 lv.ownBlock)(hl:mM (wr.alloc X) lv v5):LR wo w5 v5 rv (l++[x]) r:=by
 have hz:(wr.alloc X).heap.size=wr.heap.size+1:=fw _ _;have hk:fe (λb=>lv.ownBlock=some b) (wr.alloc X) w5:=⟨hg.os,hg.tape,hg.output,hg.size,λk hk hn=>hg.block k hk (λe=>hn e.symm)⟩;refine⟨by rw[aj];simpa [dx]using ho,bO (h.er.alloc X) hk (λb hb e=>h.ap b e hb),λb hb e=>?_,dZ (bK h.ext X) hg (λk hk=>(h.el.lt k hk).1)⟩;rcases hl with q|⟨c,q,k⟩
 .exact h.ap b (by rw[<-q];exact hb) e
 .rw[q]at hb;injection hb with hb
  have:=(h.er.lt b e).2;omega
theorem LR.aa8(h:LR wo wr lv rv l r)(ho:w5.ownsRow wo.heap.size 3 1 v5 (r.length+1) ((dx r).map (Value.int .i64)++[.int .i64 ((x:Nat):Int)]))(hg:(wr.alloc X).grownBy w5 rv.ownBlock)(hl:mM (wr.alloc X) rv v5):LR wo w5 lv v5 l (r++[x]):=by
 have hz:(wr.alloc X).heap.size=wr.heap.size+1:=fw _ _;have hk:fe (λb=>rv.ownBlock=some b) (wr.alloc X) w5:=⟨hg.os,hg.tape,hg.output,hg.size,λk hk hn=>hg.block k hk (λe=>hn e.symm)⟩;refine⟨bO (h.el.alloc X) hk (λb hb e=>h.ap b hb e),by rw[aj];simpa [dx]using ho,λb hb e=>?_,dZ (bK h.ext X) hg (λk hk=>(h.er.lt k hk).1)⟩;rcases hl with q|⟨c,q,k⟩
 .exact h.ap b hb (by rw[<-q];exact e)
 .rw[q]at e;injection e with e
  have:=(h.el.lt b hb).2;omega
structure SM(w we wr:World)(vf vg av vn vb:Value)(D:dC)(at_:List Nat):Prop where
 bk:eD wr (w.heap.size+3) vn vb D
 go:gZ we wr (w.heap.size+3) (.slice none 0 0) (.slice none 0 0) [] vn vb D
 b0:wr.heap[w.heap.size]?=some (.cells #[vf] 28 (0,0))
 b1:wr.heap[w.heap.size+1]?=some (.cells #[vg] 28 (0,0))
 b2:wr.heap[w.heap.size+2]?=some (.cells #[.slice none 0 0] 28 (0,0))
 own:wr.ownsRow we.heap.size 3 1 av at_.length ((dx at_).map (Value.int .i64))
 sep:∀b,av.ownBlock=some b->we.heap.size<=b/\Beside wr (w.heap.size+3) vn vb D b
 side:∀b,b<w.heap.size+3->Beside wr (w.heap.size+3) vn vb D b
 ext:Ext w wr
 len:D.length<=at_.length
section
variable {w we wr w2:World} {vf vg av vn vb:Value} {D:dC} {at_:List Nat}
theorem SM.ext'(m:SM w we wr vf vg av vn vb D at_)(hx:Ext wr w2):SM w we w2 vf vg av vn vb D at_:=
 ⟨m.bk.ext hx,m.go.trans (gZ.ext m.bk hx),(hx.block _ (bG m.b0)).trans m.b0,(hx.block _ (bG m.b1)).trans m.b1,(hx.block _ (bG m.b2)).trans m.b2,dn m.own hx,λb hb=>⟨(m.sep b hb).1,(m.sep b hb).2.Hl m.bk hx⟩,λb hb=>(m.side b hb).Hl m.bk hx,ay m.ext hx,m.len⟩
theorem SM.push{w3 w5:World}{l r:List Nat}{i2:Nat}{Bf pF v5:Value}{D2:dC}{X:Obj}(m:SM w we wr vf vg av vn vb D at_)
 (hB3:eD w3 (w.heap.size+3) Bf pF D2) (hgo:gZ wr w3 (w.heap.size+3) vn vb D Bf pF D2) (hP:jo D l r D2 i2) (YI:w.heap.size+3<we.heap.size)
 (ho:w5.ownsRow we.heap.size 3 1 v5 (at_.length+1) ((dx at_).map (Value.int .i64)++[.int .i64 ((i2:Nat):Int)])) (hg:(w3.alloc X).grownBy w5 av.ownBlock) (hl:mM (w3.alloc X) av v5):SM w we w5 vf vg v5 Bf pF D2 (at_++[i2]):=by
 have hx4:Ext w3 (w3.alloc X):=bK (Below.refl _ _) _;have Nz:(w3.alloc X).heap.size=w3.heap.size+1:=fw _ _;have hz3:=hgo.keep.size;have hG3:=m.go.trans hgo;have hs3:∀b,av.ownBlock=some b->we.heap.size<=b/\Beside w3 (w.heap.size+3) Bf pF D2 b:=λb hb=>⟨(m.sep b hb).1,(m.sep b hb).2.go (m.own.lt b hb).2 hgo⟩
 obtain⟨TJ,Ke,uQ,hside⟩:=Beside.row hG3 hB3 hs3 hx4 hg hl;have R7:∀b v T,b<w.heap.size+3->wr.heap[b]?=some (.cells #[v] T (0,0))->w5.heap[b]?=some (.cells #[v] T (0,0)):=λb v T hb h=>by
  have hbl:=bG h;rw[hg.block b (by omega) (λe=>by have:=(m.sep b e.symm).1;omega),hx4.block b (by omega),hgo.keep.block b hbl (m.side b hb).ins];exact h
 have hlen:=hP.len;refine⟨TJ,Ke,R7 _ _ _ (by omega) m.b0,R7 _ _ _ (by omega) m.b1,R7 _ _ _ (by omega) m.b2,by rw[aj];simpa [dx]using ho,uQ,λb hb=>hside _ ((m.side b hb).go (by have:=m.go.keep.size;omega) hgo),?_,by rw[aj];have:=m.len;simp;omega⟩;have h1:Ext w w3:=zY m.ext hgo.keep λb hb=>by
  have:=m.go.ins b hb;rcases this with k|k
  .rcases k with k|k|k
   .omega
   .simp[Value.ownBlock]at k
   .simp[Value.ownBlock]at k
  .omega
 exact dZ (bK h1 X) hg λb hb=>by have:=(m.sep b hb).1;omega
end
end
end Go.Proofs.YteknjeohbcgpdaaGreatDoor