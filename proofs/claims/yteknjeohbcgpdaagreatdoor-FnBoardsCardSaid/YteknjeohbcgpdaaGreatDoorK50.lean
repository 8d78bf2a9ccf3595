/-
  Contract of the program's CanonSum, at valid forms. (2 texts.)
-/
import Derived.Test.YteknjeohbcgpdaaGreatDoorK48
import Derived.Test.YteknjeohbcgpdaaGreatDoorK49
set_option maxRecDepth 100000
namespace Go.Proofs.YteknjeohbcgpdaaGreatDoor
open Tryz
section
open Go.RowKit
open bO (dH Nd Gm vl fC dZ Same plus)
variable {w:World} {B:Nat} {v:Value} {F:dH} {sl:Nat->Value}
def Xb(P:dH->Prop)(w:World)(e:Ending)(w':World):Prop:=
 ∃(a:Option Addr) (n c:Nat) (ok:Bool),e=.returned (.tuple #[.agg #[.slice a n c],.bool ok])/\(ok=true->∃E sl,n=E.length/\P E/\fC E/\iQ E=true/\FO w' w.heap.size (.slice a n c) E.length sl (oZ E))/\Ext w w'
theorem FO.abD(h:FO w B v F.length sl (oZ F))(hs:∀j,j<2*F.length->(oZ F j).length<=1152921504606846976)(hl:F.length<=maxLen):fu w B v F:=by
 obtain⟨xs,h1,h2⟩:=h.row;refine fu.eD (K:=λ_=>False) h1 (λi hi=>?_);have g:F.getD i ([],[])=F[i]:=by rw[aj,aa hi];rfl
 have e0:oZ F (2*i)=dD (F[i]).1:=by unfold oZ;rw[if_pos (by omega),show 2*i / 2=i by omega,g]
 have e1:oZ F (2*i+1)=dD (F[i]).2:=by unfold oZ;rw[if_neg (by omega),show(2*i+1) / 2=i by omega,g]
 have o0:=h.own (2*i) (by omega);have o1:=h.own (2*i+1) (by omega);have s0:=hs (2*i) (by omega);have s1:=hs (2*i+1) (by omega);rw[e0]at o0 s0;rw[e1]at o1 s1;exact⟨sl (2*i),sl (2*i+1),by rw[jg];exact h2 _ (by omega),by rw[jg];exact h2 _ (by omega),Ints.eD o0 s0,Ints.eD o1 s1,λb hb=>⟨(o0.lt b hb).1,(o0.lt b hb).2,id⟩,λb hb=>⟨(o1.lt b hb).1,(o1.lt b hb).2,id⟩⟩
theorem Hu{W:World}(hf:iQ F=true)(h:FO W B v F.length sl (oZ F)):fu W B v F:=by
 unfold iQ at hf;obtain⟨_,f2,f3⟩:=of_decide_eq_true hf;refine h.abD (λj hj=>?_) (by simp[maxLen];omega);have hi:j / 2<F.length:=by omega
 have g:F.getD (j / 2) ([],[])=F[j / 2]:=by rw[aj,aa hi];rfl
 have:=f3 _ hi;unfold oZ;split
 .rw[bJ,g];omega
 .rw[bJ,g];omega
theorem El.if_{P:dH->Prop}{w':World}{e:Ending}(h:El P w e w')(hP:∀E,P E->fC E):Xb P w e w':=by
 obtain⟨E,vN,Fr,ok,sl,rfl,hE,hok,Kt,DX,hx⟩:=h;obtain⟨a,c,rfl⟩:=DX.top;refine⟨a,Fr.length,c,ok,rfl,λh=>?_,hx⟩;subst h;simp only[if_true]at Kt;subst Kt;exact⟨Fr,sl,rfl,hE,hP _ hE,hok.symm,DX⟩
set_option maxHeartbeats 1000000 in
theorem Qt(va vb:Value)(F G:dH)(w:World)(ha:fu w 0 va F)(hb:fu w 0 vb G)(hF:fC F)(hG:fC G)(fF:iQ F=true)(fG:iQ G=true):
 Calls prog 105 #[.agg #[va],.agg #[vb]] w λe w'=>∃ok:Bool,e=.returned (.bool ok)/\Ext w w':=by
 obtain⟨a,ca,rfl,-,-,-⟩:=id ha;obtain⟨b,cb,rfl,-,-,-⟩:=id hb;obtain⟨l1,l2,-⟩:=oI fF;obtain⟨m1,m2,-⟩:=oI fG;have hx2:Ext w ((w.alloc (.cells #[.slice a F.length ca] 28)).alloc (.cells #[.slice b G.length cb] 28)):=by go_grown
 have b0:((w.alloc (.cells #[.slice a F.length ca] 28)).alloc (.cells #[.slice b G.length cb] 28)).heap[w.heap.size]?=some (.cells #[.slice a F.length ca] 28 (0,0)):=by
  rw[Below.heap_alloc _ _ _ (by simp)];exact heap_alloc_new _ _
 have b1:((w.alloc (.cells #[.slice a F.length ca] 28)).alloc (.cells #[.slice b G.length cb] 28)).heap[w.heap.size+1]?=some (.cells #[.slice b G.length cb] 28 (0,0)):=by
  have h:=heap_alloc_new (w.alloc (.cells #[.slice a F.length ca] 28)) (.cells #[.slice b G.length cb] 28);rw[eQ]at h;exact h
 have HA:=aQ (λV (hV:Ext w V)=>rC _ F V (ha.ext hV) hF fF);have HB:=aQ (λV (hV:Ext w V)=>rC _ G V (hb.ext hV) hG fG);have hnn:F.length*G.length<=120*120:=gu l2 m2;have hmul:wrap64 (((F.length:Nat):Int)*((G.length:Nat):Int))=((F.length*G.length:Nat):Int):=by rw[<-Int.natCast_mul];unfold wrap64;omega
 have hwm:IntKind.i64.wrap (((F.length:Nat):Int)*((G.length:Nat):Int))=((F.length*G.length:Nat):Int):=(Go.IntWalk.i64_left _).trans hmul;clear ha hb hF hG fF fG;go_enter Tryz.func105,Tryz.ntmps105
 go_upto_region 1 with fail
 generalize (w.alloc (.cells #[.slice a F.length ca] 28)).alloc (.cells #[.slice b G.length cb] 28)=W at *;have c0:=cell_of_row W w.heap.size 0 _ _ _ b0;have c1:=cell_of_row W (w.heap.size+1) 0 _ _ _ b1;simp only[gE]at c0 c1
 go_wp2_with (first
  |(go_at_call 67;refine(HB.out _ (ax hx2 hq1)).mono ?_;rintro e w2 ⟨rfl,hx3⟩;have hq2:=ax hq1 hx3;have e0:=(hq2.cell (lt_of_cell c0)).trans c0;have e1:=(hq2.cell (lt_of_cell c1)).trans c1)
  |(go_at_call 67;refine(HA.out _ hx2).mono ?_;rintro e w1 ⟨rfl,hq1⟩;have d0:=(hq1.cell (lt_of_cell c0)).trans c0;have d1:=(hq1.cell (lt_of_cell c1)).trans c1))
 go_ret
 exact⟨_,rfl,ax hx2 hq2⟩
def Yg:List Row:=[⟨0,[],14,[6]⟩,⟨1,[],15,[6]⟩,⟨2,[],16,[6]⟩,⟨3,[],17,[2]⟩,⟨4,[2,3],18,[15,16]⟩,⟨5,[],19,[6]⟩,⟨6,[],20,[3]⟩,⟨7,[5,6,4],21,[18,19]⟩,⟨8,[1,4,7,7],22,[14,17,20]⟩,⟨9,[0,8,8],23,[13,21]⟩,⟨10,[9],24,[22]⟩,⟨11,[9],25,[22]⟩,⟨12,[10,9,0,1,2,3,4,5,6,7,8,9,10,11],0,[4,23]⟩,⟨13,[11,12,0,1,2,3,4,5,6,7,8,9,10,11,12],6,[24]⟩]
set_option maxHeartbeats 2000000 in
theorem Gy(va vb:Value)(F G:dH)(w:World)(ha:fu w 0 va F)(hb:fu w 0 vb G)(hF:fC F)(hG:fC G)(fF:iQ F=true)(fG:iQ G=true):
 Calls prog 63 #[.agg #[va],.agg #[vb]] w (Xb (λE=>Same (dZ E) (plus (dZ F) (dZ G))) w):=by
 obtain⟨a,ca,rfl,-,-,-⟩:=id ha;obtain⟨b,cb,rfl,-,-,-⟩:=id hb;obtain⟨l1,l2,ae7⟩:=oI fF;obtain⟨m1,m2,ae6⟩:=oI fG;have hb0:(((w.alloc (.cells #[.slice a F.length ca] 28)).alloc (.cells #[.slice b G.length cb] 28)).alloc (.cells #[.slice none 0 0] 28)).heap[w.heap.size]?=some (.cells #[.slice a F.length ca] 28 (0,0)):=by
  rw[Below.heap_alloc _ _ _ (by simp;omega),Below.heap_alloc _ _ _ (by simp)];exact heap_alloc_new _ _
 have hb1:(((w.alloc (.cells #[.slice a F.length ca] 28)).alloc (.cells #[.slice b G.length cb] 28)).alloc (.cells #[.slice none 0 0] 28)).heap[w.heap.size+1]?=some (.cells #[.slice b G.length cb] 28 (0,0)):=by
  rw[Below.heap_alloc _ _ _ (by simp)];have h:=heap_alloc_new (w.alloc (.cells #[.slice a F.length ca] 28)) (.cells #[.slice b G.length cb] 28);rw[eQ]at h;exact h
 have hb2:(((w.alloc (.cells #[.slice a F.length ca] 28)).alloc (.cells #[.slice b G.length cb] 28)).alloc (.cells #[.slice none 0 0] 28)).heap[w.heap.size+2]?=some (.cells #[.slice none 0 0] 28 (0,0)):=by
  have h:=heap_alloc_new ((w.alloc (.cells #[.slice a F.length ca] 28)).alloc (.cells #[.slice b G.length cb] 28)) (.cells #[.slice none 0 0] 28);rw[eQ,eQ]at h;exact h
 have hx3:Ext w (((w.alloc (.cells #[.slice a F.length ca] 28)).alloc (.cells #[.slice b G.length cb] 28)).alloc (.cells #[.slice none 0 0] 28)):=by go_grown
 have HAF:Hid (∀x,x∈F->x.1.length<=1000000/\x.2.length<=1000000):=aQ λx hx=>by
  obtain⟨i,hi,rfl⟩:=aW.1 hx;have:=ae7 i hi;exact⟨by omega,by omega⟩
 have HAG:Hid (∀x,x∈G->x.1.length<=1000000/\x.2.length<=1000000):=aQ λx hx=>by
  obtain⟨i,hi,rfl⟩:=aW.1 hx;have:=ae6 i hi;exact⟨by omega,by omega⟩
 have HPR:=aQ (λV (hV:Ext w V)=>Qt _ _ F G V (ha.ext hV) (hb.ext hV) hF hG fF fG);have HF:=aQ (And.intro ha hF);have HG:=aQ (And.intro hb hG);clear ae7 ae6 fF fG ha hb hF hG;go_enter Tryz.func63,Tryz.ntmps63
 go_upto_region 1 with fail
 rw[show w.heap.size+1+1=w.heap.size+2 from rfl];generalize (((w.alloc (.cells #[.slice a F.length ca] 28)).alloc (.cells #[.slice b G.length cb] 28)).alloc (.cells #[.slice none 0 0] 28))=W at *;have c0:=cell_of_row W w.heap.size 0 _ _ _ hb0;have c1:=cell_of_row W (w.heap.size+1) 0 _ _ _ hb1;have q1:=cell_of_row W (w.heap.size+2) 0 _ _ _ hb2;have q2:=frozen_of_row W (w.heap.size+2) 0 _ _ hb2;simp only[gE]at c0 c1 q1;go_upto_region 3 with(go_at_call 105;refine(HPR.out _ hx3).mono ?_;rintro e w1 ⟨ok,rfl,hxg⟩;have r0:=(hxg.block _ (bu hb2)).trans hb2;have r1:=cell_of_row _ (w.heap.size+2) 0 _ _ _ r0;have r2:=frozen_of_row _ (w.heap.size+2) 0 _ _ r0;simp only[gE]at r1)
 ·(try simp only[Exit.inBlock,Exit.then])
  refine bodyPost_ret (dO rfl _ _ (w.heap.size+2) 28 _ (0,0) _ rfl (heap_setCell_same _ (w.heap.size+2) 0 _ _ (.slice none 0 0) r0) underlying28 rfl (by kernel_rfl) rfl) rfl ?_;exact⟨none,0,0,false,rfl,(λh=>by cases h),(ax hx3 hxg).setCell (p:=⟨w.heap.size+2,0,none⟩) (by show w.heap.size<=w.heap.size+2;omega) _⟩
 have hE1:=ax hx3 hxg;have a0:=(hxg.block _ (bu hb0)).trans hb0;have a1:=(hxg.block _ (bu hb1)).trans hb1;clear c0 c1 q1 q2 r1 r2 hb0 hb1 hb2 hx3 hxg;go_upto_region 4 with(go_at_call 68;refine(Zaa w1).mono ?_;rintro e w2 ⟨h,hh,rfl,hp2,zF,hz2,hx2⟩)
 subst hh;have DV:=dz.empty hp2 zF;have agn:SMap w2 w1.heap.size Dh:=⟨0,_,gz.made _ _ (zF (w1.heap.size+1+1+1) (by omega) (by omega)),λ_ _ h=>by cases h⟩;have ajJ:=bu a0;have hlt1:=bu a1;have hlt2:=bu r0;generalize hhz:w1.heap.size=h at *;have hxd:Ext w2 w2.drew:=eU ⟨1,rfl⟩;have BD:=ax hx2 hxd;have Vw:=DV.ext hxd;have VG:∀V:World,V.heap[w.heap.size]?=w1.heap[w.heap.size]?->V.heap[w.heap.size+1]?=w1.heap[w.heap.size+1]?->V.cell? ⟨w.heap.size,0,none⟩=some (.slice a F.length ca)/\V.cell? ⟨w.heap.size+1,0,none⟩=some (.slice b G.length cb):=λV h0 h1=>by
  have e0:=cell_of_row V w.heap.size 0 _ _ _ (h0.trans a0);have e1:=cell_of_row V (w.heap.size+1) 0 _ _ _ (h1.trans a1);simp only[gE]at e0 e1;exact⟨e0,e1⟩
 have ah:=VG w2.drew (BD.block _ (by omega)) (BD.block _ (by omega));have Vu:=aQ (Aj (h+1+1+1+1+1) h Dh (.slice a F.length ca) F w1 w2.drew (HF.out.1.ext hE1) HF.out.2.good.wf (by omega) HAF.out BD Vw (λb hb=>by rcases JC hb with e|e <;> omega) (by simp[Dh];omega));have Ae:=aQ (And.intro agn (And.intro DV hxd));have HX:=aQ (And.intro hE1 hx2);have HCL:=aQ (And.intro VG (And.intro a0 (And.intro a1 r0)));clear hp2 zF hz2 DV agn Vw a0 a1 r0 hx2 hE1 VG hxd;refine bV (λV=>V.cell? ⟨w.heap.size,0,none⟩=some (.slice a F.length ca)/\V.cell? ⟨w.heap.size+1,0,none⟩=some (.slice b G.length cb)) [12,13] Yg (by kernel_rfl) ⟨by kernel_rfl,by kernel_rfl,by kernel_rfl⟩ ah (λaz ah=>?_);(refine bT 0 az ah ?_;refine bT 1 az ah ?_;refine bT 2 az ah ?_;refine bT 3 az ah ?_;refine bT 5 az ah ?_;refine bT 6 az ah ?_);(refine nM az (i:=4) λK hK=>?_;go_simp);refine Vu.out.mono ?_;rintro e w3 ⟨s3,j3,rfl,hj3,hs3,iU,hD3,ui,hB3⟩;have ah:=HCL.out.1 w3 (ui.block _ (by omega)) (ui.block _ (by omega));refine hK.out _ _ (λ_=>ah) ?_;clear hK K;(try simp only[nP]);(refine nM az (i:=7) λK hK=>?_;go_simp);have arO:s3.D.length<=120:=by have h1:=hD3;simp[Dh]at h1;omega
 refine(Aj (h+1+1+1+1+1) h s3 (.slice b G.length cb) G w1 w3 (HG.out.1.ext HX.out.1) HG.out.2.good.wf (by omega) HAG.out ui iU.pool (λb hb=>by have:=hB3 b hb;omega) (by omega)).mono ?_;rintro e w4 ⟨s4,j4,rfl,hj4,hs4,kz,hD4,IV,hB4⟩;have ah:=HCL.out.1 w4 (IV.block _ (by omega)) (IV.block _ (by omega));refine hK.out _ _ (λ_=>ah) ?_;clear hK K;(try simp only[nP]);(refine nM az (i:=8) λK hK=>?_;go_simp);have Pb:Ch w4 (h+1+1+1+1+1) h s4.D.length s4:=⟨kz.pool,((Ae.out.1.go Ae.out.2.1 (jK.refl Ae.out.2.1 Ae.out.2.2)).go (Ae.out.2.1.ext Ae.out.2.2) iU).go iU.pool kz,ay _,λi a b=>by omega⟩;have aqt:=kz.len;refine(TH (h+1+1+1+1+1) h s4.D.length s4 j3 j4 w4 Pb (by omega) (by omega) hj4).mono ?_;rintro e w5 ⟨s5,j5,rfl,hj5,hs5,aco,hS5⟩;have hk5:∀x,x<w.heap.size+3->w5.heap[x]?=w1.heap[x]?:=λx hx=>by
  have EL:=IV.size;rw[aco.keep.block x (by omega) (by
   rintro(c|c)
   .have:=hB4 _ c;omega
   .omega)]
  exact IV.block x (by omega)
 have ah:=HCL.out.1 w5 (hk5 _ (by omega)) (hk5 _ (by omega));refine hK.out _ _ (λ_=>ah) ?_;clear hK K;(try simp only[nP]);(refine nM az (i:=9) λK hK=>?_;go_simp);refine(Al _ h s5 j5 w5 hS5.pool hj5).mono ?_;rintro e w6 ⟨E,vN,Fr,ok6,sl,rfl,hE,hS,hok,Kt,DX,hx6⟩;obtain⟨aN,cN,rfl⟩:=DX.top;have apR:=aco.keep.size;have apU:=IV.size;have hk6:∀x,x<w.heap.size+3->w6.heap[x]?=w1.heap[x]?:=λx hx=>(hx6.block x (by omega)).trans (hk5 x hx)
 have ah:=HCL.out.1 w6 (hk6 _ (by omega)) (hk6 _ (by omega));have HV:=aQ (And.intro hE (And.intro hS (And.intro hok (And.intro Kt DX))));have HS:=aQ (And.intro hs5 (And.intro hs4 hs3));have r6:=(hk6 (w.heap.size+2) (by omega)).trans HCL.out.2.2.2;have t1:=cell_of_row w6 (w.heap.size+2) 0 _ _ _ r6;have t2:=frozen_of_row w6 (w.heap.size+2) 0 _ _ r6;have hvl:=kz.vl iU.pool.good.wf hj3;have HVL:=aQ hvl;have HE5:Hid (Ext w1 w5):=aQ (kK IV aco.keep (λb hb=>by
  rcases hb with c|c
  .have:=hB4 b c;omega
  .omega))
 simp only[gE]at t1;clear hok Kt DX hE hS hs5 hs4 hs3 hvl;refine hK.out _ _ (λ_=>ah) ?_;clear hK K;(try simp only[nP]);(refine bT 10 az ah ?_;refine bT 11 az ah ?_);refine nU az [12,13] [_,_] ?_;clear az ah;go_wp2
 have HW:=aQ (heap_setCell_same w6 (w.heap.size+2) 0 _ _ (.slice aN Fr.length cN) r6);(try simp only[Exit.inBlock,Exit.then]);refine bodyPost_ret (dO rfl _ _ (w.heap.size+2) 28 #[.slice aN Fr.length cN] (0,0) _ rfl HW.out underlying28 rfl (by kernel_rfl) rfl) rfl ?_;refine⟨aN,Fr.length,cN,ok6,rfl,λhy=>?_,(ax (ax HX.out.1 HE5.out) hx6).setCell (p:=⟨w.heap.size+2,0,none⟩) (by show w.heap.size<=w.heap.size+2;omega) _⟩;obtain⟨hE,hS,hok,Kt,DX⟩:=HV.out;subst hy;simp only[if_true]at Kt;subst Kt;obtain⟨h5,h4,h3⟩:=HS.out;have hz:=HE5.out.size;refine⟨Fr,sl,rfl,bO.gU hS (bO.gU h5 (bO.mq (by rw[HVL.out];exact h3) h4)),hE,hok.symm,(DX.xV (dV (p:=⟨w.heap.size+2,0,none⟩)) (λb hb=>by subst hb;show w.heap.size+2<w5.heap.size;omega)).lower (by omega)⟩
end
section
open Go.RowKit
open bO (dH Nd Gm vl fC dZ Same plus Canon iO)
variable {w:World} {v:Value} {Fs:List dH} {i:Nat}
def rQ(w:World)(v:Value)(Fs:List dH):Prop:=∃xs:List Value,lN w v xs/\xs.length=Fs.length/\∀i (_:i<xs.length) (_:i<Fs.length),fu w 0 xs[i] Fs[i]
theorem rQ.ext{w w':World}{v:Value}{Fs:List dH}(h:rQ w v Fs)(hx:Ext w w'):rQ w' v Fs:=by
 obtain⟨xs,h1,h2,h3⟩:=h;exact⟨xs,h1.ext hx,h2,λi a b=>(h3 i a b).ext hx⟩
theorem rQ.open(h:rQ w v Fs):∃a cap,v=.slice a Fs.length cap/\Fs.length<=1152921504606846976:=by
 obtain⟨xs,⟨a,cap,rfl,h1,h2,_⟩,h4,_⟩:=h;exact⟨a,cap,by rw[h4],by omega⟩
theorem rQ.at_(h:rQ w v Fs)(hi:i<Fs.length):∃b off cap a c,v=.slice (some ⟨b,off,none⟩) Fs.length cap/\w.cell? ⟨b,off+i,none⟩=some (.slice a (Fs[i]).length c)/\fu w 0 (.slice a (Fs[i]).length c) Fs[i]:=by
 obtain⟨xs,⟨a,cap,rfl,h1,h2,h3⟩,h4,h5⟩:=h;obtain⟨b,off,rfl,hc⟩:=h3 (by omega);have hn:=h5 i (by omega) hi;obtain⟨a',c',e⟩:=hn.slice;have hci:=hc i (by omega);rw[e]at hci hn;exact⟨b,off,cap,a',c',by rw[h4],hci,hn⟩
def uT(Fs:List dH):Gm:=Fs.foldl (λg F=>plus g (dZ F)) (.mk [] [])
theorem Bp(hi:i<Fs.length):uT (Fs.take (i+1))=plus (uT (Fs.take i)) (dZ Fs[i]):=by
 unfold uT;rw[bg hi,List.foldl_append];rfl
theorem S9{C S E F:dH}{g h:Gm}(hF:fO F g)(hC:fO C h)(hS:Same (dZ S) (plus (dZ F) (dZ C)))(hE:fO E (dZ S)):fO E (plus g h):=
 hE.to (hS.eqv.trans (bO.Di hF.eqv hC.eqv))
theorem Gs(w:World):Calls prog 61 #[] w λe w'=>∃vN,e=.returned (.agg #[vN])/\fu w' w.heap.size vN [([],[])]/\Ext w w':=by
 have hb1:((w.alloc (.cells #[.slice (some ⟨w.heap.size+1,0,none⟩) 1 1] 28)).alloc (.cells #[.slice none 0 0,.slice none 0 0] 89)).heap[w.heap.size]?=some (.cells #[.slice (some ⟨w.heap.size+1,0,none⟩) 1 1] 28 (0,0)):=by
  rw[Below.heap_alloc _ _ _ (by simp)];exact heap_alloc_new _ _
 have hb2:((w.alloc (.cells #[.slice (some ⟨w.heap.size+1,0,none⟩) 1 1] 28)).alloc (.cells #[.slice none 0 0,.slice none 0 0] 89)).heap[w.heap.size+1]?=some (.cells #[.slice none 0 0,.slice none 0 0] 89 (0,0)):=by
  have h:=heap_alloc_new (w.alloc (.cells #[.slice (some ⟨w.heap.size+1,0,none⟩) 1 1] 28)) (.cells #[.slice none 0 0,.slice none 0 0] 89);rw[eQ]at h;exact h
 have hx:Ext w ((w.alloc (.cells #[.slice (some ⟨w.heap.size+1,0,none⟩) 1 1] 28)).alloc (.cells #[.slice none 0 0,.slice none 0 0] 89)):=by go_grown
 go_enter Tryz.func61,Tryz.ntmps61
 go_wp2
 (try simp only[Exit.inBlock,Exit.then]);refine bodyPost_ret (results_cell_row rfl _ _ w.heap.size 28 _ (0,0) _ rfl hb1 underlying28 rfl (by kernel_rfl)) rfl ?_;refine⟨_,rfl,⟨_,1,rfl,ay _,by unfold maxLen;simp,λ_=>⟨w.heap.size+1,rfl,by omega,λi hi=>?_⟩⟩,hx⟩;have hi0:i=0:=by simp at hi;omega
 subst hi0;refine⟨.slice none 0 0,.slice none 0 0,cell_of_row _ _ 0 _ _ _ hb2,cell_of_row _ _ 1 _ _ _ hb2,Ints.nil _ _ _,Ints.nil _ _ _,λb hb=>?_,λb hb=>?_⟩
 .simp[Value.ownBlock]at hb
 .simp[Value.ownBlock]at hb
def ag4(P:dH->Prop)(w:World)(e:Ending)(w':World):Prop:=
 ∃(a:Option Addr) (n c:Nat) (ok:Bool),e=.returned (.tuple #[.agg #[.slice a n c],.bool ok])/\(ok=true->∃E,n=E.length/\P E/\iQ E=true/\fu w' 0 (.slice a n c) E)/\Ext w w'
set_option maxHeartbeats 4000000 in
theorem Ig(v:Value)(Fs:List dH)(w:World)(hv:rQ w v Fs)(hF:∀F,F∈Fs->fC F/\iQ F=true):
 Calls prog 25 #[v] w (ag4 (λE=>fO E (uT Fs)) w):=by
 obtain⟨a,cap,rfl,p8⟩:=hv.open;have hb0:=heap_alloc_new w (.cells #[.slice none 0 0] 28);have hx0:Ext w (w.alloc (.cells #[.slice none 0 0] 28)):=by go_grown
 go_enter Tryz.func25,Tryz.ntmps25
 go_upto_region 1 with fail
 have hzW:(w.alloc (.cells #[.slice none 0 0] 28)).heap.size=w.heap.size+1:=eQ _ _;have HZW:=aQ hzW;clear hzW;generalize w.alloc (.cells #[.slice none 0 0] 28)=W at *;by_cases h12:(12:Int)<((Fs.length:Nat):Int)
 .have q1:=cell_of_row W w.heap.size 0 _ _ _ hb0
  have q2:=frozen_of_row W w.heap.size 0 _ _ hb0;have HB:=aQ hb0;have HE:=aQ hx0;clear hb0 hx0;go_wp2
  (try simp only[Exit.inBlock,Exit.then]);refine bodyPost_ret (dO rfl _ _ w.heap.size 28 _ (0,0) _ rfl (heap_setCell_same _ w.heap.size 0 _ _ (.slice none 0 0) HB.out) underlying28 rfl (by kernel_rfl) rfl) rfl ?_;exact⟨none,0,0,false,rfl,(λh=>by cases h),HE.out.setCell (p:=⟨w.heap.size,0,none⟩) (ay _) _⟩
 .go_upto_region 4 with(go_at_call 61;refine(Gs _).mono ?_;rintro e w1 ⟨vZ,rfl,hZ,hxz⟩;obtain⟨aZ,cZ,rfl⟩:=hZ.slice)
  have hx1:=ax hx0 hxz;have hb1:=(hxz.block _ (bu hb0)).trans hb0;have hxa:Ext w1 (w1.alloc (.cells #[.slice aZ 1 cZ] 28)):=by go_grown
  have hp:=heap_alloc_new w1 (.cells #[.slice aZ 1 cZ] 28);have hb2:=(hxa.block _ (bu hb1)).trans hb1;have hx2:=ax hx1 hxa;have hZ2:=hZ.ext hxa;rw[HZW.out]at hZ2;have hwp:w.heap.size<w1.heap.size:=bu hb1;have HV:=aQ (And.intro hv hF);clear hb0 hx0 hb1 hx1 hxz hZ hxa hv;obtain⟨hZ0,-⟩:=id (And.intro F8 True.intro);generalize w1.alloc (.cells #[.slice aZ 1 cZ] 28)=W0 at *;generalize w1.heap.size=p4 at *;clear h12;have hF0:iQ [([],[])]=true:=by decide
  go_upto_region 5 with fail
  go_loopw [6,7,8,9,17] (λ_ _ _ _ ii wr=>∃(i:Nat) (E:dH) (aE:Option Addr) (cE:Nat),ii=.int .i64 ((i:Nat):Int)/\i<=Fs.length/\Ext w wr/\wr.heap[w.heap.size]?=some (.cells #[.slice none 0 0] 28 (0,0))/\wr.heap[p4]?=some (.cells #[.slice aE E.length cE] 28 (0,0))/\fu wr (w.heap.size+1) (.slice aE E.length cE) E/\Hid (fO E (uT (Fs.take i))/\iQ E=true)) (λ_ _ _ _ ii _=>Fs.length-(intOf ii).toNat)
  case atStart=>exact⟨0,[([],[])],aZ,cZ,by go_num,aJ _,hx2,hb2,hp,hZ2,aQ ⟨hZ0,hF0⟩⟩
  case round=>
   clear hx2 hb2 hp hZ2 hZ0 hF0;obtain⟨i,E,aE,cE,rfl,hi,hx,hb,hp,hN,HE0⟩:=hrel;by_cases hlt:i<Fs.length
   .have hil:((i:Nat):Int)<((Fs.length:Nat):Int):=by omega
    obtain⟨bb,off,cap',aG,cG,e',hci,hG⟩:=(HV.out.1.ext hx).at_ hlt;simp only[Value.slice.injEq,true_and]at e';obtain⟨rfl,rfl⟩:=e';obtain⟨hIG,hfG⟩:=HV.out.2 _ (ai hlt);have fJ:=aQ hlt;obtain⟨G,eG⟩:∃G,G=Fs[i]'(fJ.out):=⟨_,rfl⟩;rw[<-eG]at hci hG hIG hfG;have EG:=aQ eG;clear eG hlt;go_upto_region 7 with fail
    have hxa:Ext wr (wr.alloc (.cells #[.slice aG G.length cG] 28)):=(by go_grown);have hg0:=heap_alloc_new wr (.cells #[.slice aG G.length cG] 28);have hx1:=ax hx hxa;have hb1:=(hxa.block _ (bu hb)).trans hb;have hp1:=(hxa.block _ (bu hp)).trans hp;have hN1:=hN.ext hxa;have hG1:=hG.ext hxa;clear hci hx hb hp hN hG hxa;generalize wr.alloc (.cells #[.slice aG G.length cG] 28)=V1 at *;generalize wr.heap.size=pg at *;have k0:=cell_of_row V1 pg 0 _ _ _ hg0;simp only[gE]at k0;go_upto_region 8 with(go_at_call 62;refine((BP _ G _ hG1 hIG hfG).mono (λe w' h=>h.if_ (λE h=>h.1))).mono ?_;rintro e w2 ⟨aC,nC,cC,okC,rfl,hC,hx2⟩)
    have hxa:Ext w2 (w2.alloc (.cells #[.slice aC nC cC] 28)):=(by go_grown);have hgc:=heap_alloc_new w2 (.cells #[.slice aC nC cC] 28);have BD:=ax hx2 hxa;have hxE:=ax hx1 BD;have hb2:=(BD.block _ (bu hb1)).trans hb1;have hp2:=(BD.block _ (bu hp1)).trans hp1;have Vy:=hN1.ext BD;clear k0 hx1 hb1 hp1 hN1 hx2 BD hG1 hg0;generalize w2.alloc (.cells #[.slice aC nC cC] 28)=V2 at *;cases okC with
    |false=>
     have q1:=cell_of_row V2 w.heap.size 0 _ _ _ hb2;have q2:=frozen_of_row V2 w.heap.size 0 _ _ hb2;have HB:=aQ hb2;have HE:=aQ hxE;clear hb2 hxE hp2 Vy hgc hxa;go_wp2
     (try simp only[Exit.inBlock,Exit.then]);refine bodyPost_ret (dO rfl _ _ w.heap.size 28 _ (0,0) _ rfl (heap_setCell_same _ w.heap.size 0 _ _ (.slice none 0 0) HB.out) underlying28 rfl (by kernel_rfl) rfl) rfl ?_;exact⟨none,0,0,false,rfl,(λh=>by cases h),HE.out.setCell (p:=⟨w.heap.size,0,none⟩) (ay _) _⟩
    |true=>
     obtain⟨C,slC,rfl,hCf,EN,hfC,agB⟩:=hC rfl;have hNC:=((Hu hfC agB).weaken (aJ _)).ext hxa;have k0:=cell_of_row V2 p4 0 _ _ _ hp2;have k1:=cell_of_row V2 w2.heap.size 0 _ _ _ hgc;simp only[gE]at k0 k1;have HCF:=aQ hCf;clear agB hxa hC hCf;go_upto_region 11 with(go_at_call 63;refine(Gy _ _ E C _ (Vy.weaken (aJ _)) hNC HE0.out.1.1 EN HE0.out.2 hfC).mono ?_;rintro e w3 ⟨aS,nS,cS,okS,rfl,hSS,hx3⟩)
     have hxa:Ext w3 (w3.alloc (.cells #[.slice aS nS cS] 28)):=(by go_grown);have hgs:=heap_alloc_new w3 (.cells #[.slice aS nS cS] 28);have BD:=ax hx3 hxa;have YN:=ax hxE BD;have hb3:=(BD.block _ (bu hb2)).trans hb2;have hp3:=(BD.block _ (bu hp2)).trans hp2;clear k0 k1 hxE hb2 hp2 Vy hNC hgc hx3 BD;generalize w3.alloc (.cells #[.slice aS nS cS] 28)=V3 at *;cases okS with
     |false=>
      have q1:=cell_of_row V3 w.heap.size 0 _ _ _ hb3;have q2:=frozen_of_row V3 w.heap.size 0 _ _ hb3;have HB:=aQ hb3;have HE:=aQ YN;clear hb3 YN hp3 hgs hxa;go_wp2
      (try simp only[Exit.inBlock,Exit.then]);refine bodyPost_ret (dO rfl _ _ w.heap.size 28 _ (0,0) _ rfl (heap_setCell_same _ w.heap.size 0 _ _ (.slice none 0 0) HB.out) underlying28 rfl (by kernel_rfl) rfl) rfl ?_;exact⟨none,0,0,false,rfl,(λh=>by cases h),HE.out.setCell (p:=⟨w.heap.size,0,none⟩) (ay _) _⟩
     |true=>
      obtain⟨S,slS,rfl,hSf,hIS,hfS,agz⟩:=hSS rfl;have hNS:=((Hu hfS agz).weaken (aJ _)).ext hxa;have k1:=cell_of_row V3 w3.heap.size 0 _ _ _ hgs;simp only[gE]at k1;have HSF:=aQ hSf;have hpz:=bu hp3;clear agz hxa hSS hSf;go_upto_region 14 with(go_at_call 62;refine((BP _ S _ hNS hIS hfS).mono (λe w' h=>h.if_ (λE h=>h.1))).mono ?_;rintro e w4 ⟨aD,nD,cD,okD,rfl,hD,hx4⟩;have hp4:=(hx4.block _ (bu hp3)).trans hp3;have t1:=cell_of_row _ p4 0 _ _ _ hp4;have t2:=frozen_of_row _ p4 0 _ _ hp4)
      have hb4:=(hx4.block _ (bu hb3)).trans hb3;have hset:=heap_setCell_same w4 p4 0 _ _ (.slice aD nD cD) hp4;have hbs:(w4.setCell ⟨p4,0,none⟩ (.slice aD nD cD)).heap[w.heap.size]?=some (.cells #[.slice none 0 0] 28 (0,0)):=(by rw[heap_setCell_other _ _ _ _ (by show w.heap.size≠p4;omega)];exact hb4);have YM:=(ax YN hx4).setCell (p:=⟨p4,0,none⟩) (by show w.heap.size<=p4;omega) (.slice aD nD cD);clear k1 YN hb3 hp3 hNS hgs t1 t2 hp4;cases okD with
      |false=>
       generalize w4.setCell ⟨p4,0,none⟩ (.slice aD nD cD)=V4 at *;have q1:=cell_of_row V4 w.heap.size 0 _ _ _ hbs;have q2:=frozen_of_row V4 w.heap.size 0 _ _ hbs;have HB:=aQ hbs;have HE:=aQ YM;clear hbs YM hset;go_wp2
       (try simp only[Exit.inBlock,Exit.then]);refine bodyPost_ret (dO rfl _ _ w.heap.size 28 _ (0,0) _ rfl (heap_setCell_same _ w.heap.size 0 _ _ (.slice none 0 0) HB.out) underlying28 rfl (by kernel_rfl) rfl) rfl ?_;exact⟨none,0,0,false,rfl,(λh=>by cases h),HE.out.setCell (p:=⟨w.heap.size,0,none⟩) (ay _) _⟩
      |true=>
       obtain⟨D,slD,rfl,hDf,BM,rH,agA⟩:=hD rfl;have hND:=(Hu rH (agA.xV (dV (p:=⟨p4,0,none⟩) (v:=.slice aD D.length cD)) (λb hb=>by subst hb;exact hpz))).weaken (show w.heap.size+1<=V3.heap.size by omega);have HND:=aQ (And.intro hND (And.intro hset (And.intro hbs YM)));have HFF:=aQ (And.intro hDf rH);clear agA hND hset hbs YM hD hDf rH;generalize w4.setCell ⟨p4,0,none⟩ (.slice aD D.length cD)=V4 at *;go_wp2
       go_roundw
       case rel=>exact⟨i+1,D,aD,cD,by go_num,fJ.out,HND.out.2.2.2,HND.out.2.2.1,HND.out.2.1,HND.out.1,aQ ⟨by rw[Bp fJ.out,<-EG.out];exact S9 HE0.out.1 HCF.out HSF.out HFF.out.1,HFF.out.2⟩⟩
       case measure=>have:=fJ.out;simp[intOf];omega
   .have hil:¬(((i:Nat):Int)<((Fs.length:Nat):Int)):=by omega
    have hie:i=Fs.length:=(by omega);subst hie;have k0:=cell_of_row wr p4 0 _ _ _ hp;have q1:=cell_of_row wr w.heap.size 0 _ _ _ hb;have q2:=frozen_of_row wr w.heap.size 0 _ _ hb;simp only[gE]at k0 q1;have HB:=aQ hb;have HE:=aQ hx;have HN:=aQ hN;clear hb hx hp hN;go_wp2
    (try simp only[Exit.inBlock,Exit.then]);refine bodyPost_ret (dO rfl _ _ w.heap.size 28 #[.slice aE E.length cE] (0,0) _ rfl (heap_setCell_same _ w.heap.size 0 _ _ (.slice aE E.length cE) HB.out) underlying28 rfl (by kernel_rfl) rfl) rfl ?_;refine⟨aE,E.length,cE,true,rfl,λ_=>⟨E,rfl,?_,HE0.out.2,(HN.out.set (p:=⟨w.heap.size,0,none⟩) (lu _) _).weaken (aJ _)⟩,HE.out.setCell (p:=⟨w.heap.size,0,none⟩) (ay _) _⟩;have:=HE0.out.1;rw[bU (ay _)]at this;exact this
end
end Go.Proofs.YteknjeohbcgpdaaGreatDoor