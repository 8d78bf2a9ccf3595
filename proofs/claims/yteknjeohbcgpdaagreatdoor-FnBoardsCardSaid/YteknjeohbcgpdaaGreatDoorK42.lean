/-
  Contract of the drawing of test inputs: l21Loose, DrawDominoValue.
-/
import Derived.Test.YteknjeohbcgpdaaGreatDoorK21
set_option maxRecDepth 100000
namespace Go.Proofs.YteknjeohbcgpdaaGreatDoor
open Tryz
open Go.RowKit
theorem FJ{w:World}{B e g n cap k:Nat}{xs:List Value}(h:w.ownsRow B e 1 (.slice (some ⟨g,0,none⟩) n cap) n xs)(hk:k<n):w.frozen? ⟨g,k,none⟩=false/\w.cell? ⟨g,k,none⟩=xs[k]?:=by
 have hc:=World.ownsRow.cellAt h k (by omega);refine⟨?_,hc⟩;rcases h.2 with⟨e1,_⟩|⟨g',cap',cur,e1,hb,hg,_⟩
 .simp at e1
 .simp only[Value.slice.injEq,bN,Addr.mk.injEq,and_true,true_and]at e1
  obtain⟨rfl,rfl⟩:=e1;exact frozen_of_row w g k _ _ hg
section
variable {w0 w wr:World} {pc po k:Nat} {cv ov:Value} {us:List Nat} {out:List ByteArray}
theorem I6.set{g n cap i:Nat}(m:I6 w wr pc po (.slice (some ⟨g,0,none⟩) n cap) out)(c:yL w0 wr pc cv us k)(hn:n=out.length)(hi:i<out.length)(s:ByteArray):
 I6 w (wr.setCell ⟨g,i,none⟩ (.string s)) pc po (.slice (some ⟨g,0,none⟩) n cap) (out.set i s)/\yL w0 (wr.setCell ⟨g,i,none⟩ (.string s)) pc cv us k:=by
 subst hn;have hk:=dV (w:=wr) (p:=⟨g,i,none⟩) (v:=.string s);have hg:=m.own.lt g rfl;have h1:=m.pz;have h2:=m.pcl;have hgp:g≠po:=λe=>m.np (by rw[e];rfl)
 refine⟨⟨(hk.block _ (bu m.b1) (λe=>by have e':w.heap.size=g:=e;omega)).trans m.b1,(hk.block _ (bu m.b2) (λe=>hgp e.symm)).trans m.b2,?_,m.np,m.pz,m.pcl,m.keep.trans hk (λb hb e=>by have e':b=g:=e;omega)⟩,c.keep hk (λb e=>by have e':b=g:=e;omega)⟩;rw[eO,oq];exact Dm m.own hi (.string s)
theorem I6.nil(m:I6 w wr pc po ov out)(c:yL w0 wr pc cv us k):I6 w (wr.setCell ⟨po,0,none⟩ (.slice none 0 0)) pc po (.slice none 0 0) []/\yL w0 (wr.setCell ⟨po,0,none⟩ (.slice none 0 0)) pc cv us k:=by
 have hk:=dV (w:=wr) (p:=⟨po,0,none⟩) (v:=.slice none 0 0);have h1:=m.pz;have h2:=m.pcl;exact⟨⟨(hk.block _ (bu m.b1) (λe=>by have e':w.heap.size=po:=e;omega)).trans m.b1,heap_setCell_same _ _ _ _ _ _ m.b2,⟨by simp,.inl ⟨rfl,rfl⟩⟩,(by intro e;cases e),m.pz,m.pcl,m.keep.trans hk (λb hb e=>by have e':b=po:=e;omega)⟩,c.keep hk (λb e=>by have e':b=po:=e;omega)⟩
end
variable {w w0:World} {po pc k:Nat} {cv:Value} {us:List Nat}
def Um(w:World)(po:Nat):Nat:=match w.cell? ⟨po,0,none⟩with|some (.slice _ n _)=>n|_=>0
theorem JO{n c:Nat}{a:Option Addr}(h:w.cell? ⟨po,0,none⟩=some (.slice a n c)):Um w po=n:=by unfold Um;rw[h]
theorem Fg{l:List ByteArray}{i:Nat}{s:ByteArray}(h:l.length<=9/\∀s,s∈l->s.size<=12)(hs:s.size<=12):(l.set i s).length<=9/\∀x,x∈l.set i s->x.size<=12:=
 ⟨by rw[eO];exact h.1,λx hx=>(List.mem_or_eq_of_mem_set hx).elim (h.2 x) (λe=>by rw[e];exact hs)⟩
def Yi:List Row:=[⟨0,[],22,[5]⟩,⟨1,[0],23,[21]⟩,⟨2,[],24,[6]⟩,⟨3,[],25,[0]⟩,⟨4,[],26,[5]⟩,⟨5,[4],27,[25]⟩,⟨6,[],28,[6]⟩,⟨7,[5,6],29,[26,27]⟩,⟨8,[7],30,[28]⟩,⟨9,[3,8],31,[24,29]⟩,⟨10,[1,2,0,1,2,3,4,5,6,7,8,9],32,[22,23]⟩,⟨11,[10,9,9,0,1,2,3,4,5,6,7,8,9],0,[31,30]⟩]
def Tp:List Row:=[⟨0,[],38,[5]⟩,⟨1,[0],39,[37]⟩,⟨2,[1],40,[38]⟩,⟨3,[],41,[0]⟩,⟨4,[3],42,[40]⟩,⟨5,[4],43,[41]⟩,⟨6,[2,5],44,[39,42]⟩]
def Tn:List Row:=[⟨0,[],45,[5]⟩,⟨1,[0],46,[44]⟩,⟨2,[],47,[5]⟩,⟨3,[2],48,[46]⟩,⟨4,[3],49,[47]⟩,⟨5,[4],50,[48]⟩,⟨6,[5],51,[49]⟩,⟨7,[1,6],52,[45,50]⟩,⟨8,[0,1,2,3,4,5,6,7],53,[5]⟩,⟨9,[8,7,7,0,1,2,3,4,5,6,7],0,[52,51]⟩]
def Tm:List Row:=[⟨0,[],56,[5]⟩,⟨1,[0],57,[55]⟩,⟨2,[],58,[6]⟩,⟨3,[],59,[5]⟩,⟨4,[3],60,[58]⟩,⟨5,[],61,[6]⟩,⟨6,[4,5],62,[59,60]⟩,⟨7,[6],63,[61]⟩,⟨8,[7],64,[62]⟩,⟨9,[1,2,0,1,2,3,4,5,6,7,8],65,[56,57]⟩,⟨10,[9,8,0,1,2,3,4,5,6,7,8],0,[64,63]⟩]
theorem sw{wr:World}{k':Nat}{ov:Value}{out:List ByteArray}(m:I6 w wr pc po ov out)(c:yL w0 wr pc cv us k')(hb:out.length<=9/\∀s,s∈out->s.size<=12)(hk:k'<=k+99):
 Xx w0 w pc cv us k 99 0 9 12 (.returned (.agg #[ov])) (wr.setCell ⟨w.heap.size,0,none⟩ ov):=by
 have hks:=dV (w:=wr) (p:=⟨w.heap.size,0,none⟩) (v:=ov);have h2:=m.pcl;exact⟨_,out,rfl,jV (bI m.own hks (λb hb e=>by have:=(m.own.lt b hb).1;have e':b=w.heap.size:=e;omega)) (by omega),⟨aJ _,hb.1⟩,hb.2,⟨k',hk,c.keep hks (λb e=>by have e':b=w.heap.size:=e;omega)⟩,m.keep.trans hks (λb hb e=>by have e':b=w.heap.size:=e;omega)⟩
set_option maxHeartbeats 1000000 in
theorem QC(h:yL w0 w pc cv us k)(hk:k<=1000)(most:Int)(hpc:pc<w.heap.size):
 Calls prog 64 #[.pointer (some ⟨pc,0,none⟩),.int .i64 most] w (Xx w0 w pc cv us k 99 0 9 12):=by
 obtain⟨i0,hi0,hz0,hz1,hz2⟩:=info_parts pY;have hb1:=heap_alloc_new w (.cells #[.slice none 0 0] 31);have hk0:dX (λ_=>False) w (w.alloc (.cells #[.slice none 0 0] 31)):=⟨rfl,rfl,rfl,by simp,λb hb _=>Below.heap_alloc _ _ _ hb⟩;have hc1:=h.keep hk0 (λb e=>e.elim);have hkp:dX (λb=>b=pc) w (w.alloc (.cells #[.slice none 0 0] 31)):=Cy hk0 λ_ e=>e.elim
 have UR:pc<(w.alloc (.cells #[.slice none 0 0] 31)).heap.size:=by rw[eQ];omega
 have hz1':(w.alloc (.cells #[.slice none 0 0] 31)).heap.size=w.heap.size+1:=eQ _ _;have HZ:=aQ hz1';go_enter Tryz.func64,Tryz.ntmps64
 go_upto_region 1 with fail
 generalize w.alloc (.cells #[.slice none 0 0] 31)=W at *;have HPC:=aQ hpc;clear h hk0 hpc hz1';go_upto_region 2 with(go_at_call 107;refine(EP hc1 (by omega) most UR).mono ?_;rintro e w1 ⟨v1,s1,rfl,ho1,hl1,hs1,hg1⟩;obtain⟨a1,p1,rfl,-,-⟩:=bH ho1)
 rw[HZ.out]at ho1;obtain⟨⟨k1,hk1,hc2⟩,e1⟩:=hg1;have RQ:dX (λ_=>False) w1 (w1.alloc (.cells #[.slice a1 s1.length p1] 31)):=⟨rfl,rfl,rfl,by simp,λb hb _=>Below.heap_alloc _ _ _ hb⟩;have hb2:w1.heap[w.heap.size]?=some (.cells #[.slice none 0 0] 31 (0,0)):=by
  rw[e1.block _ (bu hb1) (λe=>by have:=HPC.out;omega)];exact hb1
 have hM:I6 w (w1.alloc (.cells #[.slice a1 s1.length p1] 31)) pc w1.heap.size (.slice a1 s1.length p1) s1:=
  ⟨by rw[Below.heap_alloc _ _ _ (bu hb2)];exact hb2,heap_alloc_new _ _,bI ho1 RQ (λb hb e=>e.elim),(λe=>by have:=(ho1.lt _ e).2;omega),bu hb2,HPC.out,(hkp.trans e1 λ_ _ h=>h).trans RQ λ_ _ e=>e.elim⟩
 have hC:=hc2.keep RQ λb e=>e.elim
 have HB:Hid (s1.length<=9/\∀s,s∈s1->s.size<=12):=aQ ⟨by omega,λs hs=>by have:=hs1 s hs;omega⟩;have Cj:=aQ hs1;have HL1:=aQ hl1;clear hc1 hc2 hb1 hb2 hkp e1 RQ ho1 UR hs1;go_upto_region 2 with fail
 generalize w1.alloc (.cells #[.slice a1 s1.length p1] 31)=Wa at *;generalize w1.heap.size=po at *;have h1:0<s1.length:=hl1.1;obtain⟨g,p2,e0,-,-,-⟩:=gV hM.own h1;simp only[Value.slice.injEq,true_and]at e0;obtain⟨rfl,rfl⟩:=e0;have HM:=aQ hM;clear hM;go_upto_region 3 with(go_at_call 94;refine(Yr hC (by omega) 12 (by omega)).mono ?_;rintro e w2 ⟨b12,rfl,hg2⟩;have hM2:=HM.out.cur hg2.2;have k0:=cell_of_row _ po 0 _ _ _ hM2.b2;have q1:=cell_of_row _ w.heap.size 0 _ _ _ hM2.b1;have q2:=frozen_of_row _ w.heap.size 0 _ _ hM2.b1;simp only[gE]at k0 q1)
 rotate_left
 .obtain⟨⟨k2,hk2,hC2⟩,-⟩:=hg2
  have HH:=aQ (heap_setCell_same _ w.heap.size 0 _ _ (.slice (some ⟨g,0,none⟩) s1.length p1) hM2.b1);(try simp only[Exit.inBlock,Exit.then]);refine bodyPost_ret (results_cell_row rfl _ _ w.heap.size 31 #[.slice (some ⟨g,0,none⟩) s1.length p1] (0,0) _ rfl HH.out underlying31 rfl (by kernel_rfl)) rfl ?_;exact sw hM2 hC2 HB.out (by omega)
 obtain⟨⟨k2,hk2,hC2⟩,-⟩:=hg2;have Ae:=aQ hM2;have hl4:s1.length<=200:=by omega
 clear q1 q2 hM2;go_upto_region 4 with(go_at_call 92;refine(l9 hC2 (by omega) s1.length hl4).mono ?_;rintro e w3 ⟨i,hi,rfl,hg3⟩)
 have hi1:i<s1.length:=by omega
 have yK:=Ae.out.cur hg3.2;obtain⟨⟨k3,hk3,hC3⟩,-⟩:=hg3;have HI:=aQ hi1;clear k0 hi hC2;go_upto_region 5 with(go_at_call 92;refine(l9 hC3 (by omega) 4 (by omega)).mono ?_;rintro e w4 ⟨z,hz,rfl,hg4⟩)
 have hM:=yK.cur hg4.2;obtain⟨⟨k4,hk4,hC⟩,-⟩:=hg4;have EL:z=0\/z=1\/z=2\/z=3:=by omega
 have hco:=FJ hM.own hi1;rw[dm,aa hi1]at hco;obtain⟨hfz,hce⟩:=hco;obtain⟨si,rU⟩:∃si,si=s1[i]'(HI.out):=⟨_,rfl⟩;rw[<-rU]at hce;have EU:=aQ rU;have hsi:si.size<=4:=by rw[rU];exact Cj.out _ (ai _)
 have hii:((i:Nat):Int)<((s1.length:Nat):Int):=by omega
 have k0:=cell_of_row _ po 0 _ _ _ hM.b2;simp only[gE]at k0;simp only[jP]at hce;have Xo:=aQ (And.intro hM hC);clear yK hC3 hz hM hC rU;rcases EL with rfl|rfl|rfl|rfl
 .go_upto_region 6 with fail
  refine bV (λV=>V.cell? ⟨po,0,none⟩=some (.slice (some ⟨g,0,none⟩) s1.length p1)/\V.cell? ⟨g,i,none⟩=some (.string si)) [10,11] Yi (by kernel_rfl) ⟨by kernel_rfl,by kernel_rfl,by kernel_rfl⟩ ⟨k0,hce⟩ (λaz ah=>?_);(refine bT 0 az ah ?_;refine bT 1 az ah ?_;refine bT 2 az ah ?_;refine bT 3 az ah ?_;refine bT 4 az ah ?_;refine bT 5 az ah ?_;refine bT 6 az ah ?_;refine bT 7 az ah ?_;refine bT 8 az ah ?_);(refine nM az (i:=9) λK hK=>?_;go_simp);refine(LV (Xo.out.2.drew 1) (by omega) si _ rfl (by omega)).mono ?_;rintro e w5 ⟨t,ht,rfl,hg5⟩;have BJ:=Xo.out.1.cur (w3:=w5) ⟨hg5.2.os,hg5.2.tape,hg5.2.output,hg5.2.size,hg5.2.block⟩;obtain⟨⟨k5,hk5,hC5⟩,-⟩:=hg5;have afF:=FJ BJ.own hi1;rw[dm,aa hi1]at afF;have YJ:=cell_of_row _ po 0 _ _ _ BJ.b2;simp only[gE]at YJ;obtain⟨aj9,Y4⟩:=afF;simp only[jP]at Y4;have HC5:=aQ (And.intro BJ hC5);have HT:=aQ ht;rw[<-EU.out]at Y4;clear BJ hC5;refine hK.out _ _ (λ_=>?_) ?_
  .exact⟨YJ,Y4⟩
  clear hK K;(try simp only[nP]);refine nU az [10,11] [_,_] ?_;clear az ah;go_upto_region 14 with fail
  obtain⟨hM,hC⟩:=HC5.out.1.set HC5.out.2 rfl HI.out t;have X8:=aQ (Fg (i:=i) HB.out (show t.size<=12 by have:=HT.out;omega));generalize w5.setCell ⟨g,i,none⟩ (.string t)=w6 at *;clear k0 YJ hce Y4 hfz aj9;have k0:=cell_of_row _ po 0 _ _ _ hM.b2;have q1:=cell_of_row _ w.heap.size 0 _ _ _ hM.b1;have q2:=frozen_of_row _ w.heap.size 0 _ _ hM.b1;simp only[gE]at k0 q1;have NZ:=aQ (And.intro hM hC);clear hM hC;go_wp2
  (try simp only[Exit.inBlock,Exit.then]);refine bodyPost_ret (results_cell_row rfl _ _ w.heap.size 31 _ (0,0) _ rfl (heap_setCell_same _ w.heap.size 0 _ _ _ NZ.out.1.b1) underlying31 rfl (by kernel_rfl)) rfl ?_;exact sw NZ.out.1 NZ.out.2 X8.out (by omega)
 .have f0:=frozen_of_row _ po 0 _ _ Xo.out.1.b2
  go_upto_region 14 with fail
  obtain⟨hM,hC⟩:=Xo.out.1.nil Xo.out.2;have X8:Hid (([]:List ByteArray).length<=9/\∀s,s∈([]:List ByteArray)->s.size<=12):=aQ (by simp);generalize w4.setCell ⟨po,0,none⟩ (.slice none 0 0)=w5 at *;clear k0 f0 hce hfz;have k0:=cell_of_row _ po 0 _ _ _ hM.b2;have q1:=cell_of_row _ w.heap.size 0 _ _ _ hM.b1;have q2:=frozen_of_row _ w.heap.size 0 _ _ hM.b1;simp only[gE]at k0 q1;have NZ:=aQ (And.intro hM hC);clear hM hC;go_wp2
  (try simp only[Exit.inBlock,Exit.then]);refine bodyPost_ret (results_cell_row rfl _ _ w.heap.size 31 _ (0,0) _ rfl (heap_setCell_same _ w.heap.size 0 _ _ _ NZ.out.1.b1) underlying31 rfl (by kernel_rfl)) rfl ?_;exact sw NZ.out.1 NZ.out.2 X8.out (by omega)
 .clear hce hfz k0
  go_upto_region 10 with fail
  go_loopw [] (λwr=>∃(ov:Value) (out:List ByteArray) (k':Nat),I6 w wr pc po ov out/\yL w0 wr pc cv us k'/\1<=out.length/\Hid (out.length<=9/\∀s,s∈out->s.size<=12)/\k'<=k4+out.length) (λwr=>9-Um wr po)
  case atStart=>exact⟨_,s1,k4,Xo.out.1,Xo.out.2,by omega,HB,by omega⟩
  case round=>
   obtain⟨ov,out,k',hM,hC,ho1,X8,hkk⟩:=hrel;obtain⟨ao,co,rfl,Y3,Y2⟩:=bH hM.own;have k0:=cell_of_row wr po 0 _ _ _ hM.b2;simp only[gE]at k0;have qJ:=aQ (JO k0);have UZ:out.length<=9:=X8.out.1;have HM:=aQ (And.intro hM hC);clear hM hC;go_upto_region 10 with fail
   refine bV (λV=>V.cell? ⟨po,0,none⟩=some (.slice ao out.length co)) [6] Tp (by kernel_rfl) ⟨by kernel_rfl,by kernel_rfl,by kernel_rfl⟩ k0 (λaz ah=>?_);(refine bT 0 az ah ?_;refine bT 1 az ah ?_;refine bT 2 az ah ?_;refine bT 3 az ah ?_);(refine nM az (i:=4) λK hK=>?_;go_simp);refine(l9 (HM.out.2.drew 1) (by omega) 2 (by omega)).mono ?_;rintro e w5 ⟨y,hy,rfl,hg5⟩;have BJ:=HM.out.1.cur (w3:=w5) ⟨hg5.2.os,hg5.2.tape,hg5.2.output,hg5.2.size,hg5.2.block⟩;obtain⟨⟨k5,hk5,hC5⟩,-⟩:=hg5;have YJ:=cell_of_row w5 po 0 _ _ _ BJ.b2;simp only[gE]at YJ;have hy2:y<2:=(by omega);have IE:=aQ (And.intro BJ hC5);have iT:=BJ.own;have UA:=bu BJ.b2;have hpz:=BJ.pz;clear BJ hC5 hy;have ah:=YJ;refine hK.out _ _ (λ_=>ah) ?_;clear hK K;(try simp only[nP]);(refine bT 5 az ah ?_);refine nU az [6] [_] ?_;clear az ah;by_cases hcc:out.length<8+y
   .have hci:((out.length:Nat):Int)<8+((y:Nat):Int):=by omega
    obtain⟨g6,p6,e6,-,-,hc6⟩:=gV iT (show 0<out.length by omega);simp only[Value.slice.injEq,true_and]at e6;obtain⟨rfl,rfl⟩:=e6;have hc0:=hc6 0 (by omega);rw[dm,aa (by omega)]at hc0;simp only[jP]at hc0;have HS0:=aQ (X8.out.2 _ (ai (show 0<out.length by omega)));obtain⟨s0,es0⟩:∃s0,s0=out[0]'(by omega):=⟨_,rfl⟩;rw[<-es0]at hc0;have Cj:Hid (s0.size<=12):=aQ (by rw[es0];exact HS0.out);have h0i:0<out.length:=(by omega);clear hc6 es0 HS0 k0;go_upto_region 11 with fail
    refine bV (λV=>V.cell? ⟨po,0,none⟩=some (.slice (some ⟨g6,0,none⟩) out.length co)/\V.cell? ⟨g6,0,none⟩=some (.string s0)) [7,8,9] Tn (by kernel_rfl) ⟨by kernel_rfl,by kernel_rfl,by kernel_rfl⟩ ⟨YJ,hc0⟩ (λaz ah=>?_);(refine bT 0 az ah ?_;refine bT 1 az ah ?_;refine bT 2 az ah ?_;refine bT 3 az ah ?_;refine bT 4 az ah ?_;refine bT 5 az ah ?_);(refine nM az (i:=6) λK hK=>?_;go_simp);(refine hK.out _ _ (λ_=>?_) ?_)
    .exact⟨bK YJ _,bK hc0 _⟩
    clear hK K;(try simp only[nP]);refine nU az [7,8,9] [_,_,_] ?_;clear az ah;go_wp2_with (at_builtin;refine dC rfl (.tmp 45) (.tmp 50) 22 rfl (w.heap.size+1) 9 i0 (.string ⟨#[]⟩) 1 16 underlying22 hi0 hz0 hz1 hz2 rfl (by decide) (.slice (some ⟨g6,0,none⟩) out.length co) out.length (out.map Value.string) rfl (own_drewN (iT.alloc _) 1) _ 1 _ [.string s0] rfl rfl (.inr ⟨_,rfl,dJ (dh _ _ _)⟩) (by intro u hu;simp at hu;subst hu;rfl) (by unfold maxLen;omega) (by omega) (by show _<=(World.alloc _ _).heap.size;rw[eQ];omega) ?_;intro v7 w7 BF DR YW;obtain⟨a7,c7,rfl,-⟩:=bH BF;obtain⟨hM7,hC7,g7,f7⟩:=IE.out.1.put IE.out.2 BF ((jO _ 1 _).trans DR) YW;have HM7:=aQ (And.intro hM7 hC7);clear hM7 hC7)
    go_roundw
    case rel=>exact⟨_,_,_,_,_,_,_,_,_,_,_,_,_,_,_,_,⟨_,out++[s0],k5,HM7.out.1,HM7.out.2,by simp,aQ ⟨by simp;omega,λx hx=>by
     rcases bq.1 hx with e|e
     .exact X8.out.2 x e
     .obtain rfl:x=s0:=by simpa using e
      exact Cj.out⟩,by simp;omega⟩,rfl⟩
    case measure=>
     have e7:=cell_of_row _ po 0 _ _ _ HM7.out.1.b2;simp only[gE]at e7;rw[JO e7,qJ.out];omega
   .have hci:¬(((out.length:Nat):Int)<8+((y:Nat):Int)):=by omega
    clear k0 YJ iT;go_upto_region 14 with fail
    obtain⟨hM,hC⟩:=IE.out;have k0:=cell_of_row _ po 0 _ _ _ hM.b2;have q1:=cell_of_row _ w.heap.size 0 _ _ _ hM.b1;have q2:=frozen_of_row _ w.heap.size 0 _ _ hM.b1;simp only[gE]at k0 q1;have NZ:=aQ (And.intro hM hC);clear hM hC;go_wp2
    (try simp only[Exit.inBlock,Exit.then]);refine bodyPost_ret (results_cell_row rfl _ _ w.heap.size 31 _ (0,0) _ rfl (heap_setCell_same _ w.heap.size 0 _ _ _ NZ.out.1.b1) underlying31 rfl (by kernel_rfl)) rfl ?_;exact sw NZ.out.1 NZ.out.2 X8.out (by omega)
 .have aki:¬(9223372036854775807<si.size+8):=by omega
  go_upto_region 13 with fail
  refine bV (λV=>V.cell? ⟨po,0,none⟩=some (.slice (some ⟨g,0,none⟩) s1.length p1)/\V.cell? ⟨g,i,none⟩=some (.string si)) [9,10] Tm (by kernel_rfl) ⟨by kernel_rfl,by kernel_rfl,by kernel_rfl⟩ ⟨k0,hce⟩ (λaz ah=>?_);(refine bT 0 az ah ?_;refine bT 1 az ah ?_;refine bT 2 az ah ?_;refine bT 3 az ah ?_;refine bT 4 az ah ?_;refine bT 5 az ah ?_;refine bT 6 az ah ?_;refine bT 7 az ah ?_;refine bT 8 az ah ?_);refine nU az [9,10] [_,_] ?_;clear az ah;go_upto_region 14 with fail
  obtain⟨hM,hC⟩:=Xo.out.1.set Xo.out.2 rfl HI.out (si++⟨#[46,46,46,46,46,46,46,46]⟩);have X8:=aQ (Fg (i:=i) HB.out (show(si++⟨#[46,46,46,46,46,46,46,46]⟩).size<=12 by rw[nI];have:(⟨#[46,46,46,46,46,46,46,46]⟩:ByteArray).size=8:=rfl;omega));have hM:=hM.cur (w3:=(w4.setCell ⟨g,i,none⟩ (.string (si++⟨#[46,46,46,46,46,46,46,46]⟩))).drew) ⟨rfl,rfl,rfl,ay _,λ_ _ _=>rfl⟩;have hC:=hC.drew 1;have e9:(w4.setCell ⟨g,i,none⟩ (.string (si++⟨#[46,46,46,46,46,46,46,46]⟩))).drewN 1=(w4.setCell ⟨g,i,none⟩ (.string (si++⟨#[46,46,46,46,46,46,46,46]⟩))).drew:=rfl;rw[e9]at hC;generalize (w4.setCell ⟨g,i,none⟩ (.string (si++⟨#[46,46,46,46,46,46,46,46]⟩))).drew=w6 at *;clear k0 hce hfz e9;have k0:=cell_of_row _ po 0 _ _ _ hM.b2;have q1:=cell_of_row _ w.heap.size 0 _ _ _ hM.b1;have q2:=frozen_of_row _ w.heap.size 0 _ _ hM.b1;simp only[gE]at k0 q1;have NZ:=aQ (And.intro hM hC);clear hM hC;go_wp2
  (try simp only[Exit.inBlock,Exit.then]);refine bodyPost_ret (results_cell_row rfl _ _ w.heap.size 31 _ (0,0) _ rfl (heap_setCell_same _ w.heap.size 0 _ _ _ NZ.out.1.b1) underlying31 rfl (by kernel_rfl)) rfl ?_;exact sw NZ.out.1 NZ.out.2 X8.out (by omega)
theorem DZ(v:Value)(us:List Nat)(w:World)(hv:lN w v (Ia us))(hs:∀u,u∈us->u<256):
 Calls prog 26 #[v] w λe w'=>∃(v':Value) (ss:List ByteArray),e=.returned (.agg #[v'])/\Strs w' v' ss/\ss.length<=9/\(∀s,s∈ss->s.size<=12)/\Ext w w':=by
 obtain⟨a,cap,rfl,-,-,-⟩:=id hv;have hb1:((w.alloc (.cells #[.slice none 0 0] 31)).alloc (.cells #[.slice a (Ia us).length cap,.int .i64 0,.int .u64 0] 77)).heap[w.heap.size]?=some (.cells #[.slice none 0 0] 31 (0,0)):=by
  rw[Below.heap_alloc _ _ _ (by simp)];exact heap_alloc_new _ _
 have hb2:((w.alloc (.cells #[.slice none 0 0] 31)).alloc (.cells #[.slice a (Ia us).length cap,.int .i64 0,.int .u64 0] 77)).heap[w.heap.size+1]?=some (.cells #[.slice a (Ia us).length cap,.int .i64 0,.int .u64 0] 77 (0,0)):=by
  have h:=heap_alloc_new (w.alloc (.cells #[.slice none 0 0] 31)) (.cells #[.slice a (Ia us).length cap,.int .i64 0,.int .u64 0] 77);rw[eQ]at h;exact h
 have hx2:Ext w ((w.alloc (.cells #[.slice none 0 0] 31)).alloc (.cells #[.slice a (Ia us).length cap,.int .i64 0,.int .u64 0] 77)):=by go_grown
 go_enter Tryz.func26,Tryz.ntmps26
 go_upto_region 2 with fail
 generalize ((w.alloc (.cells #[.slice none 0 0] 31)).alloc (.cells #[.slice a (Ia us).length cap,.int .i64 0,.int .u64 0] 77))=W at *;have hc0:yL w W (w.heap.size+1) (.slice a (Ia us).length cap) us 0:=⟨hv,hs,hx2,by omega,0,hb2⟩;have RQ:dX (λ_=>False) W (W.alloc (.cells #[.int .i64 4,.int .i64 6,.int .i64 7,.int .i64 8,.int .i64 9,.int .i64 10] 3)):=⟨rfl,rfl,rfl,by simp,λb hb _=>Below.heap_alloc _ _ _ hb⟩
 have hown:(W.alloc (.cells #[.int .i64 4,.int .i64 6,.int .i64 7,.int .i64 8,.int .i64 9,.int .i64 10] 3)).ownsRow 0 3 1 (.slice (some ⟨W.heap.size,0,none⟩) 6 6) 6 (([4,6,7,8,9,10]:List Int).map (Value.int .i64)):=
  ⟨by simp,.inr ⟨W.heap.size,6,#[.int .i64 4,.int .i64 6,.int .i64 7,.int .i64 8,.int .i64 9,.int .i64 10],rfl,aJ _,heap_alloc_new W _,ay _,by decide,rfl,by simp⟩⟩
 have hin:=Ints.eD hown (by decide);have hpc:w.heap.size+1<W.heap.size:=bu hb2;have hne:∀b,Value.ownBlock (.slice (some ⟨W.heap.size,0,none⟩) 6 6)=some b->b≠w.heap.size+1:=λb hb e=>by
  have hb':W.heap.size=b:=by simpa [Value.ownBlock]using hb
  omega
 have hc1:=hc0.keep RQ (λb e=>e.elim);have hb3:=(RQ.block _ (bu hb1) (λe=>e)).trans hb1;have UR:w.heap.size+1<(W.alloc (.cells #[.int .i64 4,.int .i64 6,.int .i64 7,.int .i64 8,.int .i64 9,.int .i64 10] 3)).heap.size:=by rw[eQ];omega
 have H1:=aQ (And.intro hc1 (And.intro hb3 UR));have H2:=aQ (And.intro hin hne);clear RQ hown hin hne hc1 hb3 UR hc0 hb1 hb2 hx2 hpc
 go_wp2_with (first
  |(go_at_call 52;refine(Ro H1.out.1 (by omega) _ [4,6,7,8,9,10] H2.out.1 ⟨by decide,by decide⟩ H2.out.2).mono ?_;rintro e w3 ⟨z,hz,rfl,hg3⟩;obtain⟨⟨k3,hk3,hc3⟩,e3⟩:=hg3;have hz3:=e3.size;have hp3:w.heap.size+1<w3.heap.size:=bz H1.out.2.2 hz3;have hb4:=(e3.block _ (bu H1.out.2.1) (by omega)).trans H1.out.2.1)
  |(go_at_call 64;refine(QC hc3 (by omega) z hp3).mono ?_;rintro e w4 ⟨v4,s4,rfl,yJ,hl4,hs4,hg4⟩;obtain⟨a4,c4,rfl,-,-⟩:=bH yJ;have hb5:=(hg4.2.block _ (bu hb4) (by omega)).trans hb4;have q1:=cell_of_row _ w.heap.size 0 _ _ _ hb5;have q2:=frozen_of_row _ w.heap.size 0 _ _ hb5))
 (try simp only[Exit.inBlock,Exit.then]);refine bodyPost_ret (results_cell_row rfl _ _ w.heap.size 31 _ (0,0) _ rfl (heap_setCell_same _ w.heap.size 0 _ _ _ hb5) underlying31 rfl (by kernel_rfl)) rfl ?_;obtain⟨⟨k5,hk5,RV⟩,e5⟩:=hg4;refine⟨_,s4,rfl,Strs.eD (bI yJ (dV (p:=⟨w.heap.size,0,none⟩)) (λb hb e=>by have:=(yJ.lt b hb).1;have e':b=w.heap.size:=e;omega)) (by omega),hl4.2,hs4,RV.ext.setCell (p:=⟨w.heap.size,0,none⟩) (ay _) _⟩
end Go.Proofs.YteknjeohbcgpdaaGreatDoor