/- 39 -/
import Derived.Test.YtplgooajigigkaaGreatDoorK37
set_option maxRecDepth 100000
set_option maxHeartbeats 4000000
namespace Go.Proofs.YtplgooajigigkaaGreatDoor
open Tryz
section
open Go.RowKit
open bE (dh Nd Gm vl bI bz Same plus)
def SOk(F G:dh):Prop:=F.length*G.length<=1600/\∃S,bI S/\Same (bz S) (plus (bz F) (bz G))/\dm S=true
def YA(F G:dh)(w:World)(e:Ending)(w':World):Prop:=
 ∃(a:Option Addr) (n c:Nat) (ok:Bool),e=.returned (.tuple #[.agg #[.slice a n c],.bool ok])/\(ok=true->∃E sl,n=E.length/\SOk F G/\Same (bz E) (plus (bz F) (bz G))/\bI E/\dm E=true/\FO w' w.heap.size (.slice a n c) E.length sl (mV E))/\(ok=false->¬SOk F G)/\Ext w w'
theorem NS(va vb:Value)(F G:dh)(w:World)(ha:dI w 0 va F)(hb:dI w 0 vb G)(hF:bI F)(hG:bI G)(fF:dm F=true)(fG:dm G=true):
 Calls prog 208 #[.agg #[va],.agg #[vb]] w λe w'=>e=.returned (.bool (decide (F.length*G.length<=1600)))/\Ext w w':=by
 obtain⟨a,ca,rfl,-,-,-⟩:=id ha;obtain⟨b,cb,rfl,-,-,-⟩:=id hb;obtain⟨l1,l2,-⟩:=l6 fF;obtain⟨m1,m2,-⟩:=l6 fG;have hx2:Ext w ((w.alloc (.cells #[.slice a F.length ca] 30)).alloc (.cells #[.slice b G.length cb] 30)):=by go_grown
 have b0:((w.alloc (.cells #[.slice a F.length ca] 30)).alloc (.cells #[.slice b G.length cb] 30)).heap[w.heap.size]?=some (.cells #[.slice a F.length ca] 30 (0,0)):=by
  rw[jo _ _ _ (by simp)];exact eu _ _
 have b1:((w.alloc (.cells #[.slice a F.length ca] 30)).alloc (.cells #[.slice b G.length cb] 30)).heap[w.heap.size+1]?=some (.cells #[.slice b G.length cb] 30 (0,0)):=by
  have h:=eu (w.alloc (.cells #[.slice a F.length ca] 30)) (.cells #[.slice b G.length cb] 30);rw[fU]at h;exact h
 have HA:=aW (λV (hV:Ext w V)=>ni _ F V (ha.ext hV) hF fF);have HB:=aW (λV (hV:Ext w V)=>ni _ G V (hb.ext hV) hG fG);have hnn:F.length*G.length<=120*120:=pE l2 m2;have hmul:wrap64 (((F.length:Nat):Int)*((G.length:Nat):Int))=((F.length*G.length:Nat):Int):=by rw[<-Int.natCast_mul];unfold wrap64;omega
 have hwm:IntKind.i64.wrap (((F.length:Nat):Int)*((G.length:Nat):Int))=((F.length*G.length:Nat):Int):=(l9 _).trans hmul;clear ha hb hF hG fF fG;go_enter Tryz.func208,Tryz.ntmps208
 go_upto_region 1 with fail
 generalize (w.alloc (.cells #[.slice a F.length ca] 30)).alloc (.cells #[.slice b G.length cb] 30)=W at *;have c0:=bQ W w.heap.size 0 _ _ _ b0;have c1:=bQ W (w.heap.size+1) 0 _ _ _ b1;simp only[gE]at c0 c1
 go_wp2_with (first
  |(go_at_call 54;refine(HB.out _ (ah hx2 hq1)).mono ?_;rintro e w2 ⟨rfl,hx3⟩;have hq2:=ah hq1 hx3;have e0:=fw hq2 c0;have e1:=fw hq2 c1)
  |(go_at_call 54;refine(HA.out _ hx2).mono ?_;rintro e w1 ⟨rfl,hq1⟩;have d0:=fw hq1 c0;have d1:=fw hq1 c1))
 go_ret
 exact⟨gJ (by rw[uk];simp only[decide_eq_true_eq];omega),ah hx2 hq2⟩
def ZJ:List Row:=[⟨0,[],14,[6]⟩,⟨1,[],15,[6]⟩,⟨2,[],16,[6]⟩,⟨3,[],17,[2]⟩,⟨4,[2,3],18,[15,16]⟩,⟨5,[],19,[6]⟩,⟨6,[],20,[3]⟩,⟨7,[5,6,4],21,[18,19]⟩,⟨8,[1,4,7,7],22,[14,17,20]⟩,⟨9,[0,8,8],23,[13,21]⟩,⟨10,[9],24,[22]⟩,⟨11,[9],25,[22]⟩,⟨12,[10,9,0,1,2,3,4,5,6,7,8,9,10,11],0,[4,23]⟩,⟨13,[11,12,0,1,2,3,4,5,6,7,8,9,10,11,12],6,[24]⟩]
theorem Vb(va vb:Value)(F G:dh)(w:World)(ha:dI w 0 va F)(hb:dI w 0 vb G)(hF:bI F)(hG:bI G)(fF:dm F=true)(fG:dm G=true):
 Calls prog 179 #[.agg #[va],.agg #[vb]] w (YA F G w):=by
 obtain⟨a,ca,rfl,-,-,-⟩:=id ha;obtain⟨b,cb,rfl,-,-,-⟩:=id hb;obtain⟨l1,l2,agy⟩:=l6 fF;obtain⟨m1,m2,agx⟩:=l6 fG;have hb0:(((w.alloc (.cells #[.slice a F.length ca] 30)).alloc (.cells #[.slice b G.length cb] 30)).alloc (.cells #[.slice none 0 0] 30)).heap[w.heap.size]?=some (.cells #[.slice a F.length ca] 30 (0,0)):=by
  rw[jo _ _ _ (by simp;omega),jo _ _ _ (by simp)];exact eu _ _
 have hb1:(((w.alloc (.cells #[.slice a F.length ca] 30)).alloc (.cells #[.slice b G.length cb] 30)).alloc (.cells #[.slice none 0 0] 30)).heap[w.heap.size+1]?=some (.cells #[.slice b G.length cb] 30 (0,0)):=by
  rw[jo _ _ _ (by simp)];have h:=eu (w.alloc (.cells #[.slice a F.length ca] 30)) (.cells #[.slice b G.length cb] 30);rw[fU]at h;exact h
 have hb2:(((w.alloc (.cells #[.slice a F.length ca] 30)).alloc (.cells #[.slice b G.length cb] 30)).alloc (.cells #[.slice none 0 0] 30)).heap[w.heap.size+2]?=some (.cells #[.slice none 0 0] 30 (0,0)):=by
  have h:=eu ((w.alloc (.cells #[.slice a F.length ca] 30)).alloc (.cells #[.slice b G.length cb] 30)) (.cells #[.slice none 0 0] 30);rw[fU,fU]at h;exact h
 have hx3:Ext w (((w.alloc (.cells #[.slice a F.length ca] 30)).alloc (.cells #[.slice b G.length cb] 30)).alloc (.cells #[.slice none 0 0] 30)):=by go_grown
 have HAF:Hid (∀x,x∈F->x.1.length<=1000000/\x.2.length<=1000000):=aW λx hx=>by
  obtain⟨i,hi,rfl⟩:=aQ.1 hx;have:=agy i hi;exact⟨by omega,by omega⟩
 have HAG:Hid (∀x,x∈G->x.1.length<=1000000/\x.2.length<=1000000):=aW λx hx=>by
  obtain⟨i,hi,rfl⟩:=aQ.1 hx;have:=agx i hi;exact⟨by omega,by omega⟩
 have HPR:=aW (λV (hV:Ext w V)=>NS _ _ F G V (ha.ext hV) (hb.ext hV) hF hG fF fG);have HF:=jm ha hF;have HG:=jm hb hG;clear agy agx fF fG ha hb hF hG;go_enter Tryz.func179,Tryz.ntmps179
 go_upto_region 1 with fail
 rw[show w.heap.size+1+1=w.heap.size+2 from rfl];generalize (((w.alloc (.cells #[.slice a F.length ca] 30)).alloc (.cells #[.slice b G.length cb] 30)).alloc (.cells #[.slice none 0 0] 30))=W at *;have c0:=bQ W w.heap.size 0 _ _ _ hb0;have c1:=bQ W (w.heap.size+1) 0 _ _ _ hb1;have q1:=bQ W (w.heap.size+2) 0 _ _ _ hb2;have q2:=gQ W (w.heap.size+2) 0 _ _ hb2;simp only[gE]at c0 c1 q1;go_upto_region 3 with(go_at_call 208;refine(HPR.out _ hx3).mono ?_;rintro e w1 ⟨he,hxg⟩;obtain⟨ok,hok⟩:=fu (decide (F.length*G.length<=1600));rw[<-hok]at he;subst he;have HOK:=aW hok;clear hok;have r0:=ik hxg hb2;have r1:=bQ _ (w.heap.size+2) 0 _ _ _ r0;have r2:=gQ _ (w.heap.size+2) 0 _ _ r0;simp only[gE]at r1)
 ·(try simp only[Exit.inBlock,Exit.then])
  refine mg (w.heap.size+2) 30 _ (gK _ (w.heap.size+2) 0 _ _ (.slice none 0 0) r0) underlying30 ?_;exact⟨none,0,0,false,rfl,(λh=>by cases h),(λ_ k=>by have:=k.1;have h2:=HOK.out;simp_all),ll (ah hx3 hxg) (w.heap.size+2) 0 _⟩
 have agz:ok=true:=by first|assumption|simp_all
 have HOT:=aW (show F.length*G.length<=1600 by have h2:=HOK.out;rw[agz]at h2;exact of_decide_eq_true h2.symm);clear agz;have hE1:=ah hx3 hxg;have a0:=ik hxg hb0;have a1:=ik hxg hb1;clear c0 c1 q1 q2 r1 r2 hb0 hb1 hb2 hx3 hxg;go_upto_region 4 with(go_at_call 55;refine(qY w1).mono ?_;rintro e w2 ⟨h,hh,rfl,hp2,tT,hz2,hx2⟩)
 subst hh;have vP:=dA.empty hp2 tT;have ahL:SMap w2 w1.heap.size uo:=⟨0,_,jb.made _ _ (tT (w1.heap.size+1+1+1) (by omega) (by omega)),λ_ _ h=>by cases h⟩;have agR:=bW a0;have hlt1:=bW a1;have hlt2:=bW r0;generalize hhz:w1.heap.size=h at *;have hxd:Ext w2 w2.drew:=dQ ⟨1,rfl⟩;have BB:=ah hx2 hxd;have hPd:=vP.ext hxd;have FD:∀V:World,V.heap[w.heap.size]?=w1.heap[w.heap.size]?->V.heap[w.heap.size+1]?=w1.heap[w.heap.size+1]?->V.cell? ⟨w.heap.size,0,none⟩=some (.slice a F.length ca)/\V.cell? ⟨w.heap.size+1,0,none⟩=some (.slice b G.length cb):=λV h0 h1=>by
  have e0:=bQ V w.heap.size 0 _ _ _ (h0.trans a0);have e1:=bQ V (w.heap.size+1) 0 _ _ _ (h1.trans a1);simp only[gE]at e0 e1;exact⟨e0,e1⟩
 have ae:=FD w2.drew (BB.block _ (by omega)) (BB.block _ (by omega));have Mf:=aW (sH (h+1+1+1+1+1) h uo (.slice a F.length ca) F w1 w2.drew (HF.out.1.ext hE1) HF.out.2.good.wf (by omega) HAF.out BB hPd (λb hb=>by rcases uY hb with e|e <;> omega) (by simp[uo];omega));have Qa:=nY ahL vP hxd;have HX:=jm hE1 hx2;have HCL:=Ap FD a0 a1 r0;clear hp2 tT hz2 vP ahL hPd a0 a1 r0 hx2 hE1 FD hxd;refine oJ (λV=>V.cell? ⟨w.heap.size,0,none⟩=some (.slice a F.length ca)/\V.cell? ⟨w.heap.size+1,0,none⟩=some (.slice b G.length cb)) [12,13] ZJ ae (λaj ae=>?_);(refine bP 0 aj ae ?_;refine bP 1 aj ae ?_;refine bP 2 aj ae ?_;refine bP 3 aj ae ?_;refine bP 5 aj ae ?_;refine bP 6 aj ae ?_);(refine jv aj (i:=4) λK hK=>?_;go_simp);refine Mf.out.mono ?_;rintro e w3 ⟨s3,j3,rfl,hj3,hs3,iq,hD3,mZ,hB3⟩;have ae:=HCL.out.1 w3 (mZ.block _ (by omega)) (mZ.block _ (by omega));refine hK.out _ _ (λ_=>ae) ?_;clear hK K;(try simp only[nP]);(refine jv aj (i:=7) λK hK=>?_;go_simp);have auf:s3.D.length<=120:=by have h1:=hD3;simp[uo]at h1;omega
 refine(sH (h+1+1+1+1+1) h s3 (.slice b G.length cb) G w1 w3 (HG.out.1.ext HX.out.1) HG.out.2.good.wf (by omega) HAG.out mZ iq.pool (λb hb=>by have:=hB3 b hb;omega) (by omega)).mono ?_;rintro e w4 ⟨s4,j4,rfl,hj4,hs4,jq,hD4,oK,hB4⟩;have ae:=HCL.out.1 w4 (oK.block _ (by omega)) (oK.block _ (by omega));refine hK.out _ _ (λ_=>ae) ?_;clear hK K;(try simp only[nP]);(refine jv aj (i:=8) λK hK=>?_;go_simp);have hS4:DI w4 (h+1+1+1+1+1) h s4.D.length s4:=⟨jq.pool,((Qa.out.1.go Qa.out.2.1 (jr.refl Qa.out.2.1 Qa.out.2.2)).go (Qa.out.2.1.ext Qa.out.2.2) iq).go iq.pool jq,aJ _,λi a b=>by omega⟩;have as2:=jq.len;refine(VG (h+1+1+1+1+1) h s4.D.length s4 j3 j4 w4 hS4 (by omega) (by omega) hj4).mono ?_;rintro e w5 ⟨s5,j5,rfl,hj5,hs5,oq,hS5⟩;have hk5:∀x,x<w.heap.size+3->w5.heap[x]?=w1.heap[x]?:=λx hx=>by
  have Tg:=oK.size;rw[oq.keep.block x (by omega) (by
   rintro(c|c)
   .have:=hB4 _ c;omega
   .omega)]
  exact oK.block x (by omega)
 have ae:=HCL.out.1 w5 (hk5 _ (by omega)) (hk5 _ (by omega));refine hK.out _ _ (λ_=>ae) ?_;clear hK K;(try simp only[nP]);(refine jv aj (i:=9) λK hK=>?_;go_simp);refine(yQ _ h s5 j5 w5 hS5.pool hj5).mono ?_;rintro e w6 ⟨E,vN,Fr,ok6,sl,rfl,hE,hS,hok,ze,qG,hx6⟩;obtain⟨aN,cN,rfl⟩:=qG.top;have asC:=oq.keep.size;have asD:=oK.size;have hk6:∀x,x<w.heap.size+3->w6.heap[x]?=w1.heap[x]?:=λx hx=>(hx6.block x (by omega)).trans (hk5 x hx)
 have ae:=HCL.out.1 w6 (hk6 _ (by omega)) (hk6 _ (by omega));have HV:=Aw hE hS hok ze qG;have HS:=nY hs5 hs4 hs3;have r6:=(hk6 (w.heap.size+2) (by omega)).trans HCL.out.2.2.2;have t1:=bQ w6 (w.heap.size+2) 0 _ _ _ r6;have t2:=gQ w6 (w.heap.size+2) 0 _ _ r6;have hvl:=jq.vl iq.pool.good.wf hj3;have HVL:=aW hvl;have HE5:Hid (Ext w1 w5):=aW (ko oK oq.keep (λb hb=>by
  rcases hb with c|c
  .have:=hB4 b c;omega
  .omega))
 simp only[gE]at t1;clear hok ze qG hE hS hs5 hs4 hs3 hvl;refine hK.out _ _ (λ_=>ae) ?_;clear hK K;(try simp only[nP]);(refine bP 10 aj ae ?_;refine bP 11 aj ae ?_);refine nQ aj [12,13] [_,_] ?_;clear aj ae;go_wp2
 have HW:=aW (gK w6 (w.heap.size+2) 0 _ _ (.slice aN Fr.length cN) r6);refine mg (w.heap.size+2) 30 #[.slice aN Fr.length cN] HW.out underlying30 ?_;refine⟨aN,Fr.length,cN,ok6,rfl,λhy=>?_,λhy ⟨_,S,i1,i2,i3⟩=>?_,ll (ah (ah HX.out.1 HE5.out) hx6) (w.heap.size+2) 0 _⟩
 .obtain⟨hE,hS,hok,ze,qG⟩:=HV.out
  subst hy;simp only[if_true]at ze;subst ze;obtain⟨h5,h4,h3⟩:=HS.out;have hz:=HE5.out.size;exact⟨Fr,sl,rfl,⟨HOT.out,Fr,hE,bE.dn hS (bE.dn h5 (bE.kD (by rw[HVL.out];exact h3) h4)),hok.symm⟩,bE.dn hS (bE.dn h5 (bE.kD (by rw[HVL.out];exact h3) h4)),hE,hok.symm,(qG.oP (dH (p:=⟨w.heap.size+2,0,none⟩)) (λb hb=>by subst hb;show w.heap.size+2<w5.heap.size;omega)).lower (by omega)⟩
 .obtain⟨hE,hS,hok,ze,qG⟩:=HV.out
  obtain⟨h5,h4,h3⟩:=HS.out;have e:S=E:=bE.kQ i1 hE (bE.dn i2 (bE.dU (bE.dn hS (bE.dn h5 (bE.kD (by rw[HVL.out];exact h3) h4)))));rw[e,<-hok,hy]at i3;cases i3
end
section
open Go.RowKit
open bE (dh Nd Gm vl bI bz Same plus Canon jc)
variable {MJ:Bool} {Fs:List dh} {i:Nat} {E C E':dh}
def Acc(MJ:Bool)(Fs:List dh):Nat->dh->Prop
 | 0,E=>E=[([],[])]
 |i+1,E'=>∃E C S,Acc MJ Fs i E/\dm E=true/\fA C (bz (Fs.getD i []))/\dm C=true/\E.length*C.length<=1600/\bI S/\Same (bz S) (plus (bz E) (bz C))/\dm S=true/\fA E' (bz S)/\(MJ=true->dm E'=true)
theorem BU{MJ:Bool}{Fs:List dh}:∀{i:Nat} {E F:dh},Acc MJ Fs i E->Acc MJ Fs i F->E=F
 | 0,E,F,h,k=>by have h:E=[([],[])]:=h;have k:F=[([],[])]:=k;rw[h,k]
 |i+1,E,F,h,k=>by
  obtain⟨E1,C1,S1,a1,_,c1,_,_,i1,s1,_,e1,_⟩:=h;obtain⟨E2,C2,S2,a2,_,c2,_,_,i2,s2,_,e2,_⟩:=k;have q1:=BU a1 a2;subst q1;have q2:=c1.unique c2;subst q2;have q3:=bE.kQ i1 i2 (bE.dn s1 (bE.dU s2));subst q3;exact e1.unique e2
theorem BV(hi:i<Fs.length)(h:∀E,¬Acc MJ Fs (i+1) E):∀E,¬Acc MJ Fs Fs.length E:=by
 have key:∀d E,¬Acc MJ Fs (i+1+d) E:=λd=>by
  induction d with
  |zero=>exact h
  |succ d ih=>rintro E ⟨E1,_,_,a,_⟩;exact ih E1 a
 have:=key (Fs.length-(i+1));rwa [show i+1+(Fs.length-(i+1))=Fs.length by omega]at this
theorem getD_at(h:i<Fs.length):Fs.getD i []=Fs[i]:=by simp[List.getD,h]
theorem abv(_a:Acc MJ Fs i E)(c:fA C (bz (Fs.getD i [])))(n:dm C=false):¬Acc MJ Fs (i+1) E':=by
 rintro⟨E2,C2,S2,a2,_,c2,f2,_⟩;rw[c.unique c2,f2]at n;cases n
theorem abr(a:Acc MJ Fs i E)(c:fA C (bz (Fs.getD i [])))(n:¬SOk E C):¬Acc MJ Fs (i+1) E':=by
 rintro⟨E2,C2,S2,a2,_,c2,_,l,i2,s2,f2,_⟩;have q1:=BU a a2;subst q1;have q2:=c.unique c2;subst q2;exact n ⟨l,S2,i2,s2,f2⟩
theorem abu{S D:dh}(a:Acc true Fs i E)(c:fA C (bz (Fs.getD i [])))(iS:bI S)(s:Same (bz S) (plus (bz E) (bz C)))(d:fA D (bz S))(n:dm D=false):¬Acc true Fs (i+1) E':=by
 rintro⟨E2,C2,S2,a2,_,c2,_,_,i2,s2,_,e2,f⟩;have q1:=BU a a2;subst q1;have q2:=c.unique c2;subst q2;have q3:=bE.kQ iS i2 (bE.dn s (bE.dU s2));subst q3;rw[d.unique e2,f rfl]at n;cases n
def Za(Fs:List dh)(w:World)(e:Ending)(w':World):Prop:=
 ∃(a:Option Addr) (n c:Nat) (ok:Bool),e=.returned (.tuple #[.agg #[.slice a n c],.bool ok])/\(ok=true->∃E,n=E.length/\Acc true Fs Fs.length E/\bI E/\dm E=true/\dI w' w.heap.size (.slice a n c) E)/\(ok=false->Fs.length<=12->∀E,¬Acc true Fs Fs.length E)/\Ext w w'
theorem GQ(v:Value)(Fs:List dh)(w:World)(hv:oH w v Fs)(hF:∀F,F∈Fs->bI F/\dm F=true):
 Calls prog 130 #[v] w (Za Fs w):=by
 obtain⟨a,cap,rfl,zz⟩:=hv.open;have hb0:=eu w (.cells #[.slice none 0 0] 30);have hx0:Ext w (w.alloc (.cells #[.slice none 0 0] 30)):=by go_grown
 go_enter Tryz.func130,Tryz.ntmps130
 go_upto_region 1 with fail
 have Ng:(w.alloc (.cells #[.slice none 0 0] 30)).heap.size=w.heap.size+1:=fU _ _;have HZW:=aW Ng;clear Ng;generalize w.alloc (.cells #[.slice none 0 0] 30)=W at *;by_cases h12:(12:Int)<((Fs.length:Nat):Int)
 .have q1:=bQ W w.heap.size 0 _ _ _ hb0
  have q2:=gQ W w.heap.size 0 _ _ hb0;have HB:=aW hb0;have HE:=aW hx0;have rq:Hid (Fs.length<=12->∀E,¬Acc true Fs Fs.length E):=aW λh=>by omega
  clear hb0 hx0;go_wp2
  refine mg w.heap.size 30 _ (gK _ w.heap.size 0 _ _ (.slice none 0 0) HB.out) underlying30 ?_;exact⟨none,0,0,false,rfl,(λh=>by cases h),(λ_=>rq.out),HE.out.setCell (p:=⟨w.heap.size,0,none⟩) (aJ _) _⟩
 .go_upto_region 4 with(go_at_call 178;refine(IZ _).mono ?_;rintro e w1 ⟨vZ,rfl,hZ,hxz⟩;obtain⟨aZ,cZ,rfl⟩:=hZ.slice)
  have hx1:=ah hx0 hxz;have hb1:=ik hxz hb0;have hxa:Ext w1 (w1.alloc (.cells #[.slice aZ 1 cZ] 30)):=by go_grown
  have hp:=eu w1 (.cells #[.slice aZ 1 cZ] 30);have hb2:=ik hxa hb1;have hx2:=ah hx1 hxa;have hZ2:=hZ.ext hxa;rw[HZW.out]at hZ2;have hwp:w.heap.size<w1.heap.size:=bW hb1;have HV:=jm hv hF;clear hb0 hx0 hb1 hx1 hxz hZ hxa hv;obtain⟨hZ0,-⟩:=id (And.intro IE True.intro);generalize w1.alloc (.cells #[.slice aZ 1 cZ] 30)=W0 at *;generalize w1.heap.size=p4 at *;clear h12;have hF0:dm [([],[])]=true:=by decide
  go_upto_region 5 with fail
  go_loopw [6,7,8,9,17] (λ_ _ _ _ ii wr=>∃(i:Nat) (E:dh) (aE:Option Addr) (cE:Nat),ii=.int .i64 ((i:Nat):Int)/\i<=Fs.length/\Ext w wr/\wr.heap[w.heap.size]?=some (.cells #[.slice none 0 0] 30 (0,0))/\wr.heap[p4]?=some (.cells #[.slice aE E.length cE] 30 (0,0))/\dI wr (w.heap.size+1) (.slice aE E.length cE) E/\Hid (Acc true Fs i E/\bI E/\dm E=true)) (λ_ _ _ _ ii _=>Fs.length-(intOf ii).toNat)
  case atStart=>exact⟨0,[([],[])],aZ,cZ,by go_num,aU _,hx2,hb2,hp,hZ2,aW ⟨rfl,hZ0.1,hF0⟩⟩
  case round=>
   clear hx2 hb2 hp hZ2 hZ0 hF0;obtain⟨i,E,aE,cE,rfl,hi,hx,hb,hp,hN,Na⟩:=hrel;by_cases hlt:i<Fs.length
   .have hil:((i:Nat):Int)<((Fs.length:Nat):Int):=by omega
    obtain⟨bb,off,cap',aG,cG,e',hci,hG⟩:=(HV.out.1.ext hx).at_ hlt;simp only[il,true_and]at e';obtain⟨rfl,rfl⟩:=e';obtain⟨hIG,hfG⟩:=HV.out.2 _ (ai hlt);have kg:=aW hlt;obtain⟨G,eG⟩:=fu (Fs[i]'(kg.out));rw[<-eG]at hci hG hIG hfG;have EG:=aW eG;clear eG hlt;go_upto_region 7 with fail
    have hxa:Ext wr (wr.alloc (.cells #[.slice aG G.length cG] 30)):=(by go_grown);have hg0:=eu wr (.cells #[.slice aG G.length cG] 30);have hx1:=ah hx hxa;have hb1:=ik hxa hb;have hp1:=ik hxa hp;have hN1:=hN.ext hxa;have hG1:=hG.ext hxa;clear hci hx hb hp hN hG hxa;generalize wr.alloc (.cells #[.slice aG G.length cG] 30)=V1 at *;generalize wr.heap.size=pg at *;have k0:=bQ V1 pg 0 _ _ _ hg0;simp only[gE]at k0;go_upto_region 8 with(go_at_call 32;refine(pW _ G _ hG1 hIG hfG).mono ?_;rintro e w2 ⟨C0,vC,C,okC,slC,rfl,hCf,hCo,hCr,Po,hx2⟩;obtain⟨aC,cC,rfl⟩:=Po.top;obtain⟨nC,hnC⟩:=fu C.length;rw[<-hnC]at Po ⊢;have HCC:=Aw hCf hCo hCr hnC Po;clear hCf hCo hCr hnC Po)
    have hxa:Ext w2 (w2.alloc (.cells #[.slice aC nC cC] 30)):=(by go_grown);have hgc:=eu w2 (.cells #[.slice aC nC cC] 30);have BB:=ah hx2 hxa;have hxE:=ah hx1 BB;have hb2:=ik BB hb1;have hp2:=ik BB hp1;have Ph:=hN1.ext BB;clear k0 hx1 hb1 hp1 hN1 hx2 BB hG1 hg0;generalize w2.alloc (.cells #[.slice aC nC cC] 30)=V2 at *;cases okC with
    |false=>
     have rq:Hid (Fs.length<=12->∀E,¬Acc true Fs Fs.length E):=aW λ_=>BV kg.out (λE' k=>abv Na.out.1 (by rw[getD_at kg.out,<-EG.out];exact HCC.out.1) HCC.out.2.1.symm k)
     have q1:=bQ V2 w.heap.size 0 _ _ _ hb2;have q2:=gQ V2 w.heap.size 0 _ _ hb2;have HB:=aW hb2;have HE:=aW hxE;clear hb2 hxE hp2 Ph hgc hxa;go_wp2
     refine mg w.heap.size 30 _ (gK _ w.heap.size 0 _ _ (.slice none 0 0) HB.out) underlying30 ?_;exact⟨none,0,0,false,rfl,(λh=>by cases h),(λ_=>rq.out),HE.out.setCell (p:=⟨w.heap.size,0,none⟩) (aJ _) _⟩
    |true=>
     obtain⟨hCf,hCo,hCr,hnC,Po⟩:=HCC.out;clear HCC;simp only[if_true]at hCr;subst hCr;subst hnC;have GK:=hCf.1;have hfC:=hCo.symm;have Kh:=((Ak hfC Po).weaken (aU _)).ext hxa;have k0:=bQ V2 p4 0 _ _ _ hp2;have k1:=bQ V2 w2.heap.size 0 _ _ _ hgc;simp only[gE]at k0 k1;have HCF:=aW hCf;have HFC:=aW hfC;clear Po hxa hCf hCo hfC;go_upto_region 11 with(go_at_call 179;refine(Vb _ _ E C _ (Ph.weaken (aU _)) Kh Na.out.2.1 GK Na.out.2.2 HFC.out).mono ?_;rintro e w3 ⟨aS,nS,cS,yU,rfl,hSS,hSN,hx3⟩)
     have hxa:Ext w3 (w3.alloc (.cells #[.slice aS nS cS] 30)):=(by go_grown);have hgs:=eu w3 (.cells #[.slice aS nS cS] 30);have BB:=ah hx3 hxa;have aam:=ah hxE BB;have hb3:=ik BB hb2;have hp3:=ik BB hp2;clear k0 k1 hxE hb2 hp2 Ph Kh hgc hx3 BB;generalize w3.alloc (.cells #[.slice aS nS cS] 30)=V3 at *;cases yU with
     |false=>
      have rq:Hid (Fs.length<=12->∀E,¬Acc true Fs Fs.length E):=aW λ_=>BV kg.out (λE' k=>abr Na.out.1 (by rw[getD_at kg.out,<-EG.out];exact HCF.out) (hSN rfl) k)
      have q1:=bQ V3 w.heap.size 0 _ _ _ hb3;have q2:=gQ V3 w.heap.size 0 _ _ hb3;have HB:=aW hb3;have HE:=aW aam;clear hb3 aam hp3 hgs hxa;go_wp2
      refine mg w.heap.size 30 _ (gK _ w.heap.size 0 _ _ (.slice none 0 0) HB.out) underlying30 ?_;exact⟨none,0,0,false,rfl,(λh=>by cases h),(λ_=>rq.out),HE.out.setCell (p:=⟨w.heap.size,0,none⟩) (aJ _) _⟩
     |true=>
      obtain⟨S,slS,rfl,hSK,hSf,hIS,hfS,ah1⟩:=hSS rfl;have HSK:=nY hSK HFC.out hfS;have XO:=((Ak hfS ah1).weaken (aU _)).ext hxa;have k1:=bQ V3 w3.heap.size 0 _ _ _ hgs;simp only[gE]at k1;have HSF:=aW hSf;have hpz:=bW hp3;clear ah1 hxa hSS hSf hSN hSK;go_upto_region 14 with(go_at_call 32;refine(pW _ S _ XO hIS hfS).mono ?_;rintro e w4 ⟨D0,vD,D,okD,slD,rfl,hDf,hDo,hDr,Pn,hx4⟩;obtain⟨aD,cD,rfl⟩:=Pn.top;obtain⟨nD,hnD⟩:=fu D.length;rw[<-hnD]at Pn ⊢;have J8:=Aw hDf hDo hDr hnD Pn;clear hDf hDo hDr hnD Pn;have hp4:=ik hx4 hp3;have t1:=bQ _ p4 0 _ _ _ hp4;have t2:=gQ _ p4 0 _ _ hp4)
      have hb4:=ik hx4 hb3;have hset:=gK w4 p4 0 _ _ (.slice aD nD cD) hp4;have hbs:(w4.setCell ⟨p4,0,none⟩ (.slice aD nD cD)).heap[w.heap.size]?=some (.cells #[.slice none 0 0] 30 (0,0)):=(by rw[tQ _ _ _ _ (by show w.heap.size≠p4;omega)];exact hb4);have aal:=ll (ah aam hx4) p4 0 (.slice aD nD cD);clear k1 aam hb3 hp3 XO hgs t1 t2 hp4;cases okD with
      |false=>
       have rq:Hid (Fs.length<=12->∀E,¬Acc true Fs Fs.length E):=aW λ_=>BV kg.out (λE' k=>abu Na.out.1 (by rw[getD_at kg.out,<-EG.out];exact HCF.out) hIS HSF.out J8.out.1 J8.out.2.1.symm k)
       generalize w4.setCell ⟨p4,0,none⟩ (.slice aD nD cD)=V4 at *;have q1:=bQ V4 w.heap.size 0 _ _ _ hbs;have q2:=gQ V4 w.heap.size 0 _ _ hbs;have HB:=aW hbs;have HE:=aW aal;clear hbs aal hset;go_wp2
       refine mg w.heap.size 30 _ (gK _ w.heap.size 0 _ _ (.slice none 0 0) HB.out) underlying30 ?_;exact⟨none,0,0,false,rfl,(λh=>by cases h),(λ_=>rq.out),HE.out.setCell (p:=⟨w.heap.size,0,none⟩) (aJ _) _⟩
      |true=>
       obtain⟨hDf,hDo,hDr,hnD,Pn⟩:=J8.out;clear J8;simp only[if_true]at hDr;subst hDr;subst hnD;have uR:=hDo.symm;have hND:=(Ak uR (Pn.oP (dH (p:=⟨p4,0,none⟩) (v:=.slice aD D.length cD)) (λb hb=>by subst hb;exact hpz))).weaken (show w.heap.size+1<=V3.heap.size by omega);have HND:=Ap hND hset hbs aal;have Uu:=jm hDf uR;clear Pn hND hset hbs aal hDf uR hDo;generalize w4.setCell ⟨p4,0,none⟩ (.slice aD D.length cD)=V4 at *;go_wp2
       go_roundw
       case rel=>exact⟨i+1,D,aD,cD,by go_num,kg.out,HND.out.2.2.2,HND.out.2.2.1,HND.out.2.1,HND.out.1,aW ⟨⟨E,C,S,Na.out.1,Na.out.2.2,by rw[getD_at kg.out,<-EG.out];exact HCF.out,HSK.out.2.1,HSK.out.1.1,hIS,HSF.out,HSK.out.2.2,Uu.out.1,λ_=>Uu.out.2⟩,Uu.out.1.1,Uu.out.2⟩⟩
       case measure=>have:=kg.out;simp[intOf];omega
   .have hil:¬(((i:Nat):Int)<((Fs.length:Nat):Int)):=by omega
    have hie:i=Fs.length:=(by omega);subst hie;have k0:=bQ wr p4 0 _ _ _ hp;have q1:=bQ wr w.heap.size 0 _ _ _ hb;have q2:=gQ wr w.heap.size 0 _ _ hb;simp only[gE]at k0 q1;have HB:=aW hb;have HE:=aW hx;have HN:=aW hN;clear hb hx hp hN;go_wp2
    refine mg w.heap.size 30 #[.slice aE E.length cE] (gK _ w.heap.size 0 _ _ (.slice aE E.length cE) HB.out) underlying30 ?_;exact⟨aE,E.length,cE,true,rfl,λ_=>⟨E,rfl,Na.out.1,Na.out.2.1,Na.out.2.2,(HN.out.set (p:=⟨w.heap.size,0,none⟩) (mO _) _).weaken (Nat.le_succ _)⟩,λh=>(by cases h),HE.out.setCell (p:=⟨w.heap.size,0,none⟩) (aJ _) _⟩
end
