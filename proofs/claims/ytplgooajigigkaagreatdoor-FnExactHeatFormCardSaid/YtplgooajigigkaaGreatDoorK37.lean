/- 37 -/
import Derived.Test.YtplgooajigigkaaGreatDoorK33
import Derived.Test.YtplgooajigigkaaGreatDoorK35
import Derived.Test.YtplgooajigigkaaGreatDoorK36
set_option maxRecDepth 100000
set_option maxHeartbeats 4000000
namespace Go.Proofs.YtplgooajigigkaaGreatDoor
open Tryz
section
open Go.RowKit
open bE (dh Nd Gm vl bI bz Same Canon jc)
def YN(P:dh->Prop)(w:World)(e:Ending)(w':World):Prop:=
 ∃E vN Fr ok sl,e=.returned (.tuple #[.agg #[vN],.bool ok])/\P E/\ok=dm E/\Fr=(if ok then E else [])/\FO w' w.heap.size vN Fr.length sl (mV Fr)/\Ext w w'
theorem EU(N:Nat)(cn:Nat->Option Nat):miss N cn<=N:=by
 unfold miss;have:=pO (λx=>(cn x).isNone) (List.range N);rwa [uV]at this
theorem TR{pp h:Nat}{s s':jF}{w w':World}{f j:Nat}{g:Gm}(k:jr pp h s w s' w')(hw:bE.WF s.D)(hf:f<s.D.length)(hc:s'.cn f=some j)(hg:Same (vl s.D f) g):j<s'.D.length/\Hid (∀E,bI E->Same (bz E) (vl s'.D j)->fA E g):=by
 obtain⟨h1,h2⟩:=k.pool.yA.lt f j hc;obtain⟨h3,h4,_⟩:=k.pool.yA.ok f j hc;exact⟨h2,aW λE hE hS=>⟨hE,vl s'.D j,hS,h3,h4.trans (by rw[k.vl hw hf];exact hg.eqv)⟩⟩
theorem pW(v:Value)(F:dh)(w:World)(hf:dI w 0 v F)(hF:bI F)(hfit:dm F=true):Calls prog 32 #[.agg #[v]] w (YN (λE=>fA E (bz F)) w):=by
 obtain⟨aF,gH,rfl,hcap,zz,-⟩:=id hf;obtain⟨l1,l2,uq⟩:=l6 hfit;have hb1:((w.alloc (.cells #[.slice aF F.length gH] 30)).alloc (.cells #[.slice none 0 0] 30)).heap[w.heap.size]?=some (.cells #[.slice aF F.length gH] 30 (0,0)):=by
  rw[jo _ _ _ (by simp)];exact eu _ _
 have hb2:((w.alloc (.cells #[.slice aF F.length gH] 30)).alloc (.cells #[.slice none 0 0] 30)).heap[w.heap.size+1]?=some (.cells #[.slice none 0 0] 30 (0,0)):=by
  have h:=eu (w.alloc (.cells #[.slice aF F.length gH] 30)) (.cells #[.slice none 0 0] 30);rw[fU]at h;exact h
 have hx1:Ext w ((w.alloc (.cells #[.slice aF F.length gH] 30)).alloc (.cells #[.slice none 0 0] 30)):=by go_grown
 have HA:Hid (∀x,x∈F->x.1.length<=1000000/\x.2.length<=1000000):=λx hx=>by
  obtain⟨i,hi,rfl⟩:=aQ.1 hx;have:=uq i hi;exact⟨by omega,by omega⟩
 have HG:=aW (λV (hV:Ext w V)=>ni (.slice aF F.length gH) F V (hf.ext hV) hF hfit);have HF:=aW hf;have HI:=aW hF;clear uq hfit hf hF;go_enter Tryz.func32,Tryz.ntmps32
 go_upto_region 1 with fail
 generalize (w.alloc (.cells #[.slice aF F.length gH] 30)).alloc (.cells #[.slice none 0 0] 30)=W at *;have c0:=bQ W w.heap.size 0 _ _ _ hb1;simp only[gE]at c0;go_upto_region 3 with(go_at_call 54;refine(HG.out W hx1).mono ?_;rintro e w1 ⟨rfl,hxg⟩)
 have hE1:=ah hx1 hxg;go_upto_region 4 with(go_at_call 55;refine(qY w1).mono ?_;rintro e w2 ⟨h,hh,rfl,hp2,tT,hz2,hx2⟩)
 subst hh;have vP:=dA.empty hp2 tT;have hcc:w2.cell? ⟨w.heap.size,0,none⟩=some (.slice aF F.length gH):=fw hx2 (fw hxg c0);have hr2:w2.heap[w.heap.size+1]?=some (.cells #[.slice none 0 0] 30 (0,0)):=by rw[hx2.block _ (bW (ik hxg hb2)),hxg.block _ (bW hb2)];exact hb2
 have hlt2:w.heap.size+1<w1.heap.size:=bW (ik hxg hb2);generalize hhz:w1.heap.size=h at *;have Mf:=aW (sH (h+1+1+1+1+1) h uo (.slice aF F.length gH) F w1 w2 (HF.out.ext hE1) HI.out.good.wf (by omega) HA.out hx2 vP (λb hb=>by rcases uY hb with e|e <;> omega) (by simp[uo];omega));have HP2:=aW vP;have HX:=jm hE1 hx2;clear hp2 tT hz2 vP hx2 hE1 hx1 hxg hb1 hb2 c0
 go_wp2_with (first
  |(go_at_call 72;refine(yQ _ h s4 j4 w4 jq.pool hj4).mono ?_;rintro e w5 ⟨E,vN,Fr,ok,sl,rfl,hE,hS,hok,ze,qG,hx5⟩
    obtain⟨aN,cN,rfl⟩:=qG.top;have HVV:=nY (And.intro hE hS) hok ze;have HZ5:=aW hx5;have YZ:=aW qG;have Gj:w5.heap[w.heap.size+1]?=some (.cells #[.slice none 0 0] 30 (0,0)):=(hx5.block _ (by have:=jq.keep.size;have:=RI.out.size;omega)).trans hr4;have q0:=bQ w5 (w.heap.size+1) 0 _ _ _ Gj;have q1:=gQ w5 (w.heap.size+1) 0 _ _ Gj;clear hok ze qG hE hS)
  |(go_at_call 73;refine(EJ (h+1+1+1+1+1) h s3 j3 w3 hP3 hj3 (by have h1:=hD3;have h2:=EU (j3+1) s3.cn;simp[uo]at h1;omega)).mono ?_;rintro e w4 ⟨s4,j4,rfl,jq,aaH,hG4⟩
    obtain⟨hj4,HC4⟩:=TR jq hP3.good.wf hj3 aaH hs3;have hr4:w4.heap[w.heap.size+1]?=some (.cells #[.slice none 0 0] 30 (0,0)):=(jq.keep.block _ (by have:=RI.out.size;omega) (by intro c;have:=HB3.out _ c;omega)).trans hr3)
  |(go_at_call 74;refine Mf.out.mono ?_;rintro e w3 ⟨s3,j3,rfl,hj3,hs3,iq,hD3,mZ,hB3⟩
    have hP3:=iq.pool;have RI:=aW mZ;have HB3:=aW hB3;have hr3:w3.heap[w.heap.size+1]?=some (.cells #[.slice none 0 0] 30 (0,0)):=(mZ.block _ (by omega)).trans ((HX.out.2.block _ (by omega)).symm.trans hr2);clear mZ hB3))
 have HW:=aW (gK w5 (w.heap.size+1) 0 _ _ (.slice aN Fr.length cN) Gj);have oK:Ext w1 w4:=ko RI.out jq.keep (λb c=>by have:=HB3.out b c;omega);have Tg:=oK.size;have hz1:=HX.out.1.size;refine mg (w.heap.size+1) 30 #[.slice aN Fr.length cN] HW.out underlying30 ?_;exact⟨E,_,Fr,ok,sl,rfl,HC4.out E HVV.out.1.1 HVV.out.1.2,HVV.out.2.1,HVV.out.2.2,(YZ.out.oP (dH (p:=⟨w.heap.size+1,0,none⟩)) (λb hb=>by subst hb;show w.heap.size+1<w4.heap.size;omega)).lower (show w.heap.size<=w4.heap.size by omega),ll (ah (ah HX.out.1 oK) HZ5.out) (w.heap.size+1) 0 _⟩
end
section
open Go.RowKit
open bE (dh Nd Gm vl bI bz Same plus)
variable {B:Nat} {v:Value} {F:dh} {sl:Nat->Value}
theorem FO.ac6{w:World}(h:FO w B v F.length sl (mV F))(hs:∀j,j<2*F.length->(mV F j).length<=1152921504606846976)(hl:F.length<=maxLen):dI w B v F:=by
 obtain⟨xs,h1,h2⟩:=h.row;refine dI.gm (K:=λ_=>False) h1 (λi hi=>?_);have g:F.getD i ([],[])=F[i]:=by rw[bD,af hi];rfl
 have e0:mV F (2*i)=dB (F[i]).1:=by unfold mV;rw[if_pos (by omega),show 2*i / 2=i by omega,g]
 have e1:mV F (2*i+1)=dB (F[i]).2:=by unfold mV;rw[if_neg (by omega),show(2*i+1) / 2=i by omega,g]
 have o0:=h.own (2*i) (by omega);have o1:=h.own (2*i+1) (by omega);have s0:=hs (2*i) (by omega);have s1:=hs (2*i+1) (by omega);rw[e0]at o0 s0;rw[e1]at o1 s1;exact⟨sl (2*i),sl (2*i+1),by rw[iY];exact h2 _ (by omega),by rw[iY];exact h2 _ (by omega),Ints.gm o0 s0,Ints.gm o1 s1,λb hb=>⟨(o0.lt b hb).1,(o0.lt b hb).2,id⟩,λb hb=>⟨(o1.lt b hb).1,(o1.lt b hb).2,id⟩⟩
theorem Ak{W:World}(hf:dm F=true)(h:FO W B v F.length sl (mV F)):dI W B v F:=by
 unfold dm at hf;obtain⟨_,f2,f3⟩:=of_decide_eq_true hf;refine h.ac6 (λj hj=>?_) (by simp[maxLen];omega);have hi:j / 2<F.length:=by omega
 have g:F.getD (j / 2) ([],[])=F[j / 2]:=by rw[bD,af hi];rfl
 have:=f3 _ hi;unfold mV;split
 .rw[bG,g];omega
 .rw[bG,g];omega
end
section
open Go.RowKit
variable {w w':World} {v:Value} {xs:List Value}
def J2(w:World)(v:Value)(xs:List Value):Prop:=
 ∃a cap,v=.slice a xs.length cap/\xs.length<=cap/\xs.length<=1152921504606846976/\(0<xs.length->∃b off,a=some ⟨b,off,none⟩/\∀i (h:i<xs.length),w.cell? ⟨b,off+i,none⟩=some xs[i])
theorem J2.keep(h:J2 w v xs)(hk:∀b,0<xs.length->v.ownBlock=some b->w'.heap[b]?=w.heap[b]?):J2 w' v xs:=by
 obtain⟨a,cap,rfl,h1,h2,h3⟩:=h;refine⟨a,cap,rfl,h1,h2,λh0=>?_⟩;obtain⟨b,off,rfl,hc⟩:=h3 h0;refine⟨b,off,rfl,λi hi=>?_⟩;rw[mP (w:=w) (hk b h0 rfl)];exact hc i hi
theorem J2.blk(h:J2 w v xs){b:Nat}(hl:0<xs.length)(hb:v.ownBlock=some b):b<w.heap.size:=by
 obtain⟨a,cap,rfl,h1,h2,h3⟩:=h;obtain⟨b',off,rfl,hc⟩:=h3 hl;simp[Value.ownBlock]at hb;subst hb;exact lt_of_cell (hc 0 hl)
theorem J2.ext(h:J2 w v xs)(hk:Ext w w'):J2 w' v xs:=h.keep λb hl hb=>hk.block b (h.blk hl hb)
end
section
open Go.RowKit
open bE (dh Nd Gm vl bI bz Same plus Canon jc)
variable {w:World} {v:Value} {Fs:List dh}
def oH(w:World)(v:Value)(Fs:List dh):Prop:=∃xs:List Value,J2 w v xs/\xs.length=Fs.length/\∀i (_:i<xs.length) (_:i<Fs.length),dI w 0 xs[i] Fs[i]
theorem oH.ext{w w':World}{v:Value}{Fs:List dh}(h:oH w v Fs)(hx:Ext w w'):oH w' v Fs:=by
 obtain⟨xs,h1,h2,h3⟩:=h;exact⟨xs,h1.ext hx,h2,λi a b=>(h3 i a b).ext hx⟩
theorem oH.open(h:oH w v Fs):∃a cap,v=.slice a Fs.length cap/\Fs.length<=1152921504606846976:=by
 obtain⟨xs,⟨a,cap,rfl,h1,h2,_⟩,h4,_⟩:=h;exact⟨a,cap,by rw[h4],by omega⟩
theorem oH.at_(h:oH w v Fs){i:Nat}(hi:i<Fs.length):∃b off cap a c,v=.slice (some ⟨b,off,none⟩) Fs.length cap/\w.cell? ⟨b,off+i,none⟩=some (.slice a (Fs[i]).length c)/\dI w 0 (.slice a (Fs[i]).length c) Fs[i]:=by
 obtain⟨xs,⟨a,cap,rfl,h1,h2,h3⟩,h4,h5⟩:=h;obtain⟨b,off,rfl,hc⟩:=h3 (by omega);have hn:=h5 i (by omega) hi;obtain⟨a',c',e⟩:=hn.slice;have hci:=hc i (by omega);rw[e]at hci hn;exact⟨b,off,cap,a',c',by rw[h4],hci,hn⟩
theorem IZ(w:World):Calls prog 178 #[] w λe w'=>∃vN,e=.returned (.agg #[vN])/\dI w' w.heap.size vN [([],[])]/\Ext w w':=by
 have hb1:((w.alloc (.cells #[.slice (some ⟨w.heap.size+1,0,none⟩) 1 1] 30)).alloc (.cells #[.slice none 0 0,.slice none 0 0] 91)).heap[w.heap.size]?=some (.cells #[.slice (some ⟨w.heap.size+1,0,none⟩) 1 1] 30 (0,0)):=by
  rw[jo _ _ _ (by simp)];exact eu _ _
 have hb2:((w.alloc (.cells #[.slice (some ⟨w.heap.size+1,0,none⟩) 1 1] 30)).alloc (.cells #[.slice none 0 0,.slice none 0 0] 91)).heap[w.heap.size+1]?=some (.cells #[.slice none 0 0,.slice none 0 0] 91 (0,0)):=by
  have h:=eu (w.alloc (.cells #[.slice (some ⟨w.heap.size+1,0,none⟩) 1 1] 30)) (.cells #[.slice none 0 0,.slice none 0 0] 91);rw[fU]at h;exact h
 have hx:Ext w ((w.alloc (.cells #[.slice (some ⟨w.heap.size+1,0,none⟩) 1 1] 30)).alloc (.cells #[.slice none 0 0,.slice none 0 0] 91)):=by go_grown
 go_enter Tryz.func178,Tryz.ntmps178
 go_wp2
 (try simp only[Exit.inBlock,Exit.then]);refine bodyPost_ret (results_cell_row rfl _ _ w.heap.size 30 _ (0,0) _ rfl hb1 underlying30 rfl (by kernel_rfl)) rfl ?_;refine⟨_,rfl,⟨_,1,rfl,aJ _,by unfold maxLen;simp,λ_=>⟨w.heap.size+1,rfl,by omega,λi hi=>?_⟩⟩,hx⟩;have hi0:i=0:=by simp at hi;omega
 subst hi0;refine⟨.slice none 0 0,.slice none 0 0,bQ _ _ 0 _ _ _ hb2,bQ _ _ 1 _ _ _ hb2,Ints.nil _ _ _,Ints.nil _ _ _,λb hb=>?_,λb hb=>?_⟩
 .simp[Value.ownBlock]at hb
 .simp[Value.ownBlock]at hb
end
section
open Go.RowKit
open bE (dh Nd Gm vl Same nf nw Nk dO dP bz)
variable {p:Nat}
def RF(p:Nat):Prop:=∀(t:Int) (pp h:Nat) (s:jF) (L:List Gm) (w:World),dA w pp h s->dS t p=true->bE.Shut L->L.length<=100000->Nk L s.D->nf p t∈L->
 Calls prog 207 #[.pointer (some ⟨pp,0,none⟩),tY t p] w (abA pp h s L (nf p t) w)
theorem Lg:RF 0:=by
 intro t pp h s L w hP hg hS Ri hI hm;have hx:Ext w (w.alloc (.cells #[.int .i64 t,.int .i64 ((0:Nat):Int)] 34)):=by go_grown
 obtain⟨c0,c1⟩:=qg w (.int .i64 t) (.int .i64 ((0:Nat):Int)) 34;have hb0:=eu w (.cells #[.int .i64 t,.int .i64 ((0:Nat):Int)] 34);have hO:Off pp h s (w.alloc (.cells #[.int .i64 t,.int .i64 ((0:Nat):Int)] 34)) (λb=>b=w.heap.size):=λb hb=>by
  subst hb;exact⟨by rw[fU];omega,λo=>by have:=hP.uZ o;omega⟩
 have hgt:=fe.1 hg;have hlen:=hI.len hP.good;have h00:nw 0∈L:=EO hS t.natAbs t rfl hm 0 (by omega);have HP:=aW hP;have HI:=Ap hI hS hm Ri;have P8:=aW (λV (hV:Ext w V)=>qW pp h s (.slice none 0 0) (.slice none 0 0) [] [] V (hP.ext hV) (by omega) (by simp) (by simp) (by simp) (by simp) (Ints.nil _ _ _) (Ints.nil _ _ _));have q8:∀{s' w1 w2},Ext w w1->jr pp h s w1 s' w2->jr pp h s w s' w2:=λhV g=>(jr.refl HP.out hV).trans g
 have hz0:∀{s':jF} {w1:World} {w2:World} {j:Nat},jr pp h s w1 s' w2->jN s.D [] [] s'.D j->j<s'.D.length/\Same (vl s'.D j) (nw 0)/\Nk L s'.D:=λ{s' w1 w2 j} g r=>by
  have hs:=xR HP.out.good.wf g.pool.good.wf r (by simp) (by simp);exact⟨r.lt,hs,uz HP.out.good.wf g.pool.good r HI.out.1 h00 hs⟩
 clear hP hI hS hm hlen h00;rw[gM];by_cases h0:t=0
 .have g0:(t == 0)=true:=by simpa using h0
  have HT:=aW h0;clear h0;go_enter Tryz.func207,Tryz.ntmps207
  go_upto_region 1 with fail
  generalize w.alloc (.cells #[.int .i64 t,.int .i64 ((0:Nat):Int)] 34)=W at *;go_wp2_with (go_at_call 125;refine(P8.out _ hx).mono ?_;rintro e w1 ⟨s1,j,rfl,hgo,hr,hcn⟩)
  go_ret
  obtain⟨h1,h2,h3⟩:=hz0 hgo hr;exact⟨s1,j,rfl,q8 hx hgo,h1,by rw[HT.out];exact h2,h3⟩
 .have g0:(t == 0)=false:=by simpa using h0
  by_cases hpos:0<t
  .clear h0
   go_enter Tryz.func207,Tryz.ntmps207
   go_upto_region 1 with fail
   generalize w.alloc (.cells #[.int .i64 t,.int .i64 ((0:Nat):Int)] 34)=W at *;have hD0:oQ W w.heap.size t 0:=hb0;clear hb0;go_upto_region 5 with(go_at_call 125;refine(P8.out _ hx).mono ?_;rintro e w1 ⟨s1,j,rfl,hgo,hr,hcn⟩)
   have hD1:oQ w1 w.heap.size t 0:=oQ.go hD0 hgo hO;obtain⟨z1,z2,z3⟩:=hz0 hgo hr;have hg1:=q8 hx hgo;obtain⟨c0,c1⟩:=hD1.cells;clear hgo hr hcn hz0 P8 q8 hx hD0 hD1;go_upto_region 6 with fail
   clear c0 c1;go_loopw [5,35] (λiv kv wr=>∃(k j:Nat) (s1:jF),kv=.int .i64 (k:Int)/\iv=.int .i64 (j:Int)/\(k:Int)<=t/\jr pp h s w s1 wr/\j<s1.D.length/\Hid (Same (vl s1.D j) (nw k)/\Nk L s1.D)) (λ_ kv _=>(t-intOf kv).toNat)
   case atStart=>exact⟨0,j,s1,by go_num,rfl,by omega,hg1,z1,aW ⟨z2,z3⟩⟩
   case round=>
    clear z1 z2 z3 hg1;obtain⟨k,j,s1,rfl,rfl,hk,hg1,hj,HS⟩:=hrel;by_cases hlt:(k:Int)<t
    .have hl1:=HS.out.2.len hg1.pool.good
     have hxa:Ext wr (wr.alloc (.cells #[.int .i64 (j:Int)] 3)):=(by go_grown);have hv1:=(ji.one wr j 3).out;have HN1:=aW (qW pp h s1 (.slice (some ⟨wr.heap.size,0,none⟩) 1 1) (.slice none 0 0) [j] [] _ (hg1.pool.ext hxa) (by have:=HI.out.2.2.2;omega) (by simpa using hj) (by simp) (by simp) (by simp) hv1 (Ints.nil _ _ _));have HG:=jm hg1 hxa;clear hv1 hg1 hxa;go_wp2_with (go_at_call 125;refine HN1.out.mono ?_;rintro e w2 ⟨s2,j2,rfl,gZ,hr2,adI⟩)
     have hgo:=(HG.out.1.ext HG.out.2).trans gZ;have hs2:Same (vl s2.D j2) (nw ((k:Int)+1)):=by
      rw[ab4];exact bE.dn (xR HG.out.1.pool.good.wf gZ.pool.good.wf hr2 (by simpa using hj) (by simp)) (AR HS.out.1).1
     have hin:=uz HG.out.1.pool.good.wf gZ.pool.good hr2 HS.out.2 (EO HI.out.2.1 t.natAbs t rfl HI.out.2.2.1 ((k:Int)+1) (by omega)) hs2;have hlt2:=hr2.lt;clear gZ hr2 adI;go_roundw
     case rel=>exact⟨k+1,j2,s2,by go_num,rfl,by omega,hgo,hlt2,aW ⟨by rw[Int.natCast_add];exact hs2,hin⟩⟩
     case measure=>simp[intOf];omega
    .have hke:(k:Int)=t:=by omega
     have YX:=aW hke;clear hke;go_wp2
     go_ret
     exact⟨s1,j,rfl,hg1,hj,by have:=HS.out.1;rw[YX.out]at this;exact this,HS.out.2⟩
  .have hneg:t<0:=by omega
   have hwn:wrap64 (-t)=-t:=(by unfold wrap64;omega);clear h0;go_enter Tryz.func207,Tryz.ntmps207
   go_upto_region 1 with fail
   generalize w.alloc (.cells #[.int .i64 t,.int .i64 ((0:Nat):Int)] 34)=W at *;have hD0:oQ W w.heap.size t 0:=hb0;clear hb0;go_upto_region 12 with(go_at_call 125;refine(P8.out _ hx).mono ?_;rintro e w1 ⟨s1,j,rfl,hgo,hr,hcn⟩)
   have hD1:oQ w1 w.heap.size t 0:=oQ.go hD0 hgo hO;obtain⟨z1,z2,z3⟩:=hz0 hgo hr;have hg1:=q8 hx hgo;obtain⟨c0,c1⟩:=hD1.cells;clear hgo hr hcn hz0 P8 q8 hx hD0 hD1;go_upto_region 13 with fail
   clear c0 c1;go_loopw [6,52] (λiv kv wr=>∃(k j:Nat) (s1:jF),kv=.int .i64 (k:Int)/\iv=.int .i64 (j:Int)/\(k:Int)<=-t/\jr pp h s w s1 wr/\j<s1.D.length/\Hid (Same (vl s1.D j) (nw (-(k:Int)))/\Nk L s1.D)) (λ_ kv _=>(-t-intOf kv).toNat)
   case atStart=>exact⟨0,j,s1,by go_num,rfl,by omega,hg1,z1,aW ⟨z2,z3⟩⟩
   case round=>
    clear z1 z2 z3 hg1;obtain⟨k,j,s1,rfl,rfl,hk,hg1,hj,HS⟩:=hrel;by_cases hlt:(k:Int)< -t
    .have hl1:=HS.out.2.len hg1.pool.good
     have hxa:Ext wr (wr.alloc (.cells #[.int .i64 (j:Int)] 3)):=(by go_grown);have hv1:=(ji.one wr j 3).out;have HN1:=aW (qW pp h s1 (.slice none 0 0) (.slice (some ⟨wr.heap.size,0,none⟩) 1 1) [] [j] _ (hg1.pool.ext hxa) (by have:=HI.out.2.2.2;omega) (by simp) (by simpa using hj) (by simp) (by simp) (Ints.nil _ _ _) hv1);have HG:=jm hg1 hxa;clear hv1 hg1 hxa;go_wp2_with (go_at_call 125;refine HN1.out.mono ?_;rintro e w2 ⟨s2,j2,rfl,gZ,hr2,adI⟩)
     have hgo:=(HG.out.1.ext HG.out.2).trans gZ;have hs2:Same (vl s2.D j2) (nw (-((k:Int)+1))):=by
      rw[ab5];exact bE.dn (xR HG.out.1.pool.good.wf gZ.pool.good.wf hr2 (by simp) (by simpa using hj)) (AR HS.out.1).2
     have hin:=uz HG.out.1.pool.good.wf gZ.pool.good hr2 HS.out.2 (EO HI.out.2.1 t.natAbs t rfl HI.out.2.2.1 (-((k:Int)+1)) (by omega)) hs2;have hlt2:=hr2.lt;clear gZ hr2 adI;go_roundw
     case rel=>exact⟨k+1,j2,s2,by go_num,rfl,by omega,hgo,hlt2,aW ⟨by rw[Int.natCast_add];exact hs2,hin⟩⟩
     case measure=>simp[intOf];omega
    .have hke:-(k:Int)=t:=by omega
     have YX:=aW hke;clear hke;go_wp2
     go_ret
     exact⟨s1,j,rfl,hg1,hj,by have:=HS.out.1;rw[YX.out]at this;exact this,HS.out.2⟩
theorem Bq{t u:Int}(hp:1<=p)(hg:dS t p=true)(hu:u=t-1\/u=t+1):dS (dO p u) (dP p u)=true/\dP p u<p:=by
 have h:=fe.1 hg;obtain⟨q,rfl⟩:∃q,p=q+1:=⟨p-1,by omega⟩;have hev:u % 2=0:=by omega
 have e1:dO (q+1) u=dO q (u / 2):=by rw[dO,if_pos hev]
 have e2:dP (q+1) u=dP q (u / 2):=by rw[dP,if_pos hev]
 obtain⟨h1,h2,h3⟩:=bE.Ac q (u / 2);have h4:=bE.Ju q (u / 2);rw[e1,e2];exact⟨fe.2 ⟨by omega,by omega,by omega,by omega,by omega⟩,by omega⟩
theorem uI(w1:World)(k:Int)(q:Nat):∃V,V=w1.alloc (.cells #[.int .i64 k,.int .i64 (q:Int)] 34)/\Ext w1 V/\oQ V w1.heap.size k q/\w1.heap.size<V.heap.size:=
 ⟨_,rfl,by go_grown,eu w1 _,by rw[fU];omega⟩
def NC:List Row:=[⟨0,[],79,[0]⟩,⟨1,[],80,[0]⟩,⟨2,[],81,[7]⟩,⟨3,[1,2],82,[79,80]⟩,⟨4,[3],83,[81]⟩,⟨5,[],84,[0]⟩,⟨6,[],85,[9]⟩,⟨7,[5,6,3],86,[83,84]⟩,⟨8,[7],87,[85]⟩,⟨9,[0,4,8,7],88,[78,82,86]⟩,⟨10,[9,9,0,1,2,3,4,5,6,7,8,9],5,[87]⟩]
theorem Lh(hp:1<=p)(ih:∀q,q<p->RF q):RF p:=by
 intro t pp h s L w hP hg hS Ri hI hm;have hx:Ext w (w.alloc (.cells #[.int .i64 t,.int .i64 (p:Int)] 34)):=by go_grown
 obtain⟨c0,c1⟩:=qg w (.int .i64 t) (.int .i64 (p:Int)) 34;have hb0:=eu w (.cells #[.int .i64 t,.int .i64 (p:Int)] 34);have hgt:=fe.1 hg;have hodd:t % 2≠0:=by omega
 obtain⟨n,hn⟩:∃n,p=n+1:=⟨p-1,by omega⟩;have hnf:nf p t=.mk [nf p (t-1)] [nf p (t+1)]:=by rw[hn];exact bE.oU hodd
 have hmL:nf p (t-1)∈L:=hS _ hm _ (.inl (by rw[hnf];simp[bE.Gm.l]));have hmR:nf p (t+1)∈L:=hS _ hm _ (.inr (by rw[hnf];simp[bE.Gm.r]));have hl1:=Bq hp hg (.inl rfl);have hl2:=Bq hp hg (.inr rfl);have eL:nf (dP p (t-1)) (dO p (t-1))=nf p (t-1):=bE.Ab p (t-1);have eR:nf (dP p (t+1)) (dO p (t+1))=nf p (t+1):=bE.Ab p (t+1);have HL:=aW (λV=>wT (t-1) p V (by omega) (by omega) (by omega));have HR:=aW (λV=>wT (t+1) p V (by omega) (by omega) (by omega));have en1:mD (dO p (t-1)) (dP p (t-1))=.tuple #[.agg #[.int .i64 (dO p (t-1)),.int .i64 (dP p (t-1):Int)],.bool true]:=by rw[mD,hl1.1];rfl
 have en2:mD (dO p (t+1)) (dP p (t+1))=.tuple #[.agg #[.int .i64 (dO p (t+1)),.int .i64 (dP p (t+1):Int)],.bool true]:=by rw[mD,hl2.1];rfl
 rw[en1]at HL;rw[en2]at HR;obtain⟨k1,hk1⟩:=fu (dO p (t-1));obtain⟨q1,hq1⟩:=fu (dP p (t-1));obtain⟨k2,hk2⟩:=fu (dO p (t+1));obtain⟨q2,hq2⟩:=fu (dP p (t+1));rw[<-hk1,<-hq1]at hl1 eL HL;rw[<-hk2,<-hq2]at hl2 eR HR;have IH1:=aW (ih q1 hl1.2 k1);have IH2:=aW (ih q2 hl2.2 k2);have HP:=aW hP;have HI:=Ap hI hS hm Ri;have HG:=jm hl1.1 hl2.1;have HM:=jm (eL.symm ▸ hmL) (eR.symm ▸ hmR);have HE:=nY eL eR hnf;have g0:((p:Int)== 0)=false:=by simp;omega
 clear hP hI hS hm hl1 hl2 eL eR en1 en2 hk1 hq1 hk2 hq2 hmL hmR hnf hn n ih hg hodd;rw[gM];go_enter Tryz.func207,Tryz.ntmps207
 go_upto_region 1 with fail
 generalize w.alloc (.cells #[.int .i64 t,.int .i64 (p:Int)] 34)=W at *;have HD:Hid (oQ W w.heap.size t p):=aW hb0;have hw1:wrap64 (t-1)=t-1:=by unfold wrap64;omega
 have hw2:wrap64 (t+1)=t+1:=by unfold wrap64;omega
 clear hb0;go_upto_region 17 with fail
 go_upto_region 18 with(go_at_call 63;refine(HL.out _).mono ?_;rintro e w1 ⟨rfl,hx1⟩)
 obtain⟨V1,hV1,WL,dV1,hz1⟩:=uI w1 k1 q1;rw[<-hV1];have hE1:=ah hx1 WL;clear hV1 c0 c1 WL;obtain⟨c0,c1⟩:=(HD.out.ext hE1).cells;have HW1:=nY hx1 dV1 hz1;clear hx1 dV1 hz1;go_upto_region 19 with(go_at_call 63;refine(HR.out _).mono ?_;rintro e w2 ⟨rfl,hx2⟩)
 obtain⟨V2,hV2,agi,dV2,hz2⟩:=uI w2 k2 q2;rw[<-hV2];have hE2:=ah hx2 agi;have d1:=HW1.out.2.1.ext hE2;have jQ:=ah hx (ah hE1 hE2);have hwW:=hx.size;have hW1:=HW1.out.1.size;have h12:=HW1.out.2.2;have h22:=hx2.size;clear hV2 c0 c1 agi hE1 hE2;obtain⟨ba,Rc⟩:=fu w1.heap.size;obtain⟨bb,hbb⟩:=fu w2.heap.size;rw[<-Rc]at d1 hW1 h12 ⊢;rw[<-hbb]at dV2 hz2 h22 ⊢;have hor:Off pp h s V2 (λx=>x=ba\/x=bb):=λb hb=>⟨by omega,λo=>by have:=HP.out.uZ o;omega⟩
 clear Rc hbb hx2 hwW hW1 h12 h22 hz2 HW1 hx;have hgo:jr pp h s w s V2:=jr.refl HP.out jQ;clear jQ
 have FD:∀{V:World} {s':jF},jr pp h s V2 s' V->V.cell? ⟨ba,0,none⟩=some (.int .i64 k1)/\V.cell? ⟨ba,1,none⟩=some (.int .i64 (q1:Int))/\V.cell? ⟨bb,0,none⟩=some (.int .i64 k2)/\V.cell? ⟨bb,1,none⟩=some (.int .i64 (q2:Int)):=λ{V s'} g=>
  oQ.four (d1.go g (λb hb=>hor b (.inl hb))) (dV2.go g (λb hb=>hor b (.inr hb)))
 have HC:=jm (@FD) hgo;have ae:=FD (jr.refl hgo.pool (eX V2));clear FD d1 dV2 hor;refine oJ (λV=>V.cell? ⟨ba,0,none⟩=some (.int .i64 k1)/\V.cell? ⟨ba,1,none⟩=some (.int .i64 (q1:Int))/\V.cell? ⟨bb,0,none⟩=some (.int .i64 k2)/\V.cell? ⟨bb,1,none⟩=some (.int .i64 (q2:Int))) [10] NC ae (λaj ae=>?_);have hgc:jr pp h s V2 s V2.drew:=jr.refl hgo.pool (eX V2);obtain⟨W2,hW2⟩:=fu V2.drew;rw[<-hW2]at hgc ae ⊢;clear hW2 hgo;(refine bP 0 aj ae ?_;refine bP 1 aj ae ?_;refine bP 2 aj ae ?_;refine bP 5 aj ae ?_;refine bP 6 aj ae ?_);(refine jv aj (i:=3) λK hK=>?_;go_simp);refine(IH1.out pp h s L _ hgc.pool HG.out.1 HI.out.2.1 HI.out.2.2.2 HI.out.1 HM.out.1).mono ?_;rintro e w3 ⟨sc,i3,rfl,iq,hi3,hs3,aaB⟩;replace hgc:=hgc.trans iq;have ae:=HC.out.1 hgc;clear iq;obtain⟨W,rfl⟩:=fu w3;refine hK.out _ _ (λ_=>ae) ?_;clear hK K;(try simp only[nP]);have tV:=True.intro;refine gX aj (i:=4) (j:=7) (by kernel_rfl) ?fa1 ?fb1
 case' fa1=>
  (refine ui (i:=4) λK hK=>?_;go_simp);have ma:Ext W (W.alloc (.cells #[.int .i64 ((i3:Nat):Int)] 3)):=by go_grown
  have hA:=ji.one W i3 3;have oA:Off pp h sc (W.alloc (.cells #[.int .i64 ((i3:Nat):Int)] 3)) (λb=>b=W.heap.size):=λb hb=>by
   subst hb;exact⟨by rw[fU];omega,λo=>by have:=hgc.pool.uZ o;omega⟩
  (try replace hB:=oN.ext hB ma);replace hgc:=hgc.ext ma;have ae:=HC.out.1 hgc;clear ma;generalize W.alloc (.cells #[.int .i64 ((i3:Nat):Int)] 3)=W1 at *;generalize W.heap.size=bA at *;obtain⟨W,rfl⟩:=fu W1;refine hK.out _ _ (λ_=>ae) ?_;clear hK K;(try simp only[nP]);clear tV
 case' fb1=>(refine ui (i:=7) λK hK=>?_;go_simp)
 all_goals
  first
   |(have hNP:=tV;clear hNP)
   |(refine jv aj (i:=7) λK hK=>?_;go_simp)
  refine(IH2.out pp h sc L _ hgc.pool HG.out.2 HI.out.2.1 HI.out.2.2.2 aaB HM.out.2).mono ?_;rintro e w4 ⟨s4,i4,rfl,jq,hi4,hs4,alR⟩;(try replace hA:=oN.go hA oA jq);replace hs3:Same (vl s4.D i3) (nf q1 k1):=by rw[jq.vl hgc.pool.good.wf hi3];exact hs3
  replace hi3:i3<s4.D.length:=bg hi3 jq.len;replace aaB:=alR;replace hgc:=hgc.trans jq;have ae:=HC.out.1 hgc;(try clear oA);clear jq;obtain⟨sc,rfl⟩:=fu s4;obtain⟨W,rfl⟩:=fu w4;refine hK.out _ _ (λ_=>ae) ?_;clear hK K;(try simp only[nP])
 refine gX aj (i:=4) (j:=8) (by kernel_rfl) ?fa2 ?fb2
 case' fa2=>
  (refine ui (i:=4) λK hK=>?_;go_simp);have ma:Ext W (W.alloc (.cells #[.int .i64 ((i3:Nat):Int)] 3)):=by go_grown
  have hA:=ji.one W i3 3;have oA:Off pp h sc (W.alloc (.cells #[.int .i64 ((i3:Nat):Int)] 3)) (λb=>b=W.heap.size):=λb hb=>by
   subst hb;exact⟨by rw[fU];omega,λo=>by have:=hgc.pool.uZ o;omega⟩
  (try replace hB:=oN.ext hB ma);replace hgc:=hgc.ext ma;have ae:=HC.out.1 hgc;clear ma;generalize W.alloc (.cells #[.int .i64 ((i3:Nat):Int)] 3)=W1 at *;generalize W.heap.size=bA at *;obtain⟨W,rfl⟩:=fu W1;refine hK.out _ _ (λ_=>ae) ?_;clear hK K;(try simp only[nP]);clear tV
 case' fb2=>(refine ui (i:=8) λK hK=>?_;go_simp)
 all_goals
  first
   |(have hNP:=tV;clear hNP)
   |(refine jv aj (i:=8) λK hK=>?_;go_simp)
  have ma:Ext W (W.alloc (.cells #[.int .i64 ((i4:Nat):Int)] 3)):=by go_grown
  have hB:=ji.one W i4 3;(try replace hA:=oN.ext hA ma);replace hgc:=hgc.ext ma;have ae:=HC.out.1 hgc;clear ma;generalize W.alloc (.cells #[.int .i64 ((i4:Nat):Int)] 3)=W1 at *;generalize W.heap.size=bB at *;obtain⟨W,rfl⟩:=fu W1;refine hK.out _ _ (λ_=>ae) ?_;clear hK K;(try simp only[nP])
 (refine jv aj (i:=4) λK hK=>?_;go_simp);have ma:Ext W (W.alloc (.cells #[.int .i64 ((i3:Nat):Int)] 3)):=by go_grown
 have hA:=ji.one W i3 3;have oA:Off pp h sc (W.alloc (.cells #[.int .i64 ((i3:Nat):Int)] 3)) (λb=>b=W.heap.size):=λb hb=>by
  subst hb;exact⟨by rw[fU];omega,λo=>by have:=hgc.pool.uZ o;omega⟩
 (try replace hB:=oN.ext hB ma);replace hgc:=hgc.ext ma;have ae:=HC.out.1 hgc;clear ma;generalize W.alloc (.cells #[.int .i64 ((i3:Nat):Int)] 3)=W1 at *;generalize W.heap.size=bA at *;obtain⟨W,rfl⟩:=fu W1;refine hK.out _ _ (λ_=>ae) ?_;clear hK K;(try simp only[nP])
 all_goals
  (refine jv aj (i:=9) λK hK=>?_;go_simp);have hlen:=aaB.len hgc.pool.good;refine(qW pp h sc _ _ [i3] [i4] _ hgc.pool (by have:=HI.out.2.2.2;omega) (by simpa using hi3) (by simpa using hi4) (by simp) (by simp) hA.out hB.out).mono ?_;rintro e w5 ⟨s5,i5,rfl,oq,Gj,ag8⟩;have hgz:=hgc.trans oq;have ae:=HC.out.1 hgz;have hs5:Same (vl s5.D i5) (nf p t):=by
   rw[HE.out.2.2];refine bE.dn (xR hgc.pool.good.wf oq.pool.good.wf Gj (by simpa using hi3) (by simpa using hi4)) (KQ ?_ ?_)
   .rw[<-HE.out.1];exact hs3
   .rw[<-HE.out.2.1];exact hs4
  have JD:=uz hgc.pool.good.wf oq.pool.good Gj aaB HI.out.2.2.1 hs5;have hi5:=Gj.lt;refine hK.out _ _ (λ_=>ae) ?_;clear hK K;(try simp only[nP]);refine nQ aj [10] [_] ?_;clear aj ae hA hB;go_wp2
  go_ret
  exact⟨s5,i5,rfl,HC.out.2.trans hgz,hi5,hs5,JD⟩
end
section
open Go.RowKit
open bE (dh Nd Gm vl Same nf nw Nk dO dP bz bI)
variable {t:Int} {p:Nat}
theorem NW:∀p,RF p:=λp=>by
 induction p using Nat.strongRecOn with
 |_ p ih=>
  by_cases e:p=0
  .subst e;exact Lg
  .exact Lh (by omega) ih
theorem abg{F:dh}(hF:bI F)(s:Same (bz F) (nf p t))(h:120<=(t.natAbs:Int) / 2 ^ p):dm F=false:=by
 refine zk ?_;have h1:=bE.IG hF s;have h2:=bE.CP p t;have hp:(0:Int)<2 ^ p:=wu (by omega);have h3:(t.natAbs:Int) / 2 ^ p<=(bE.born (nf p t):Nat):=by
  have:=Int.ediv_le_ediv hp h2;rwa [Int.mul_ediv_cancel _ (Int.ne_of_gt hp)]at this
 omega
theorem Ru(hp:p<=16)(h:(t.natAbs:Int) / 2 ^ p<120):(bE.cs p t).length<=100000:=by
 have hq:(0:Int)<2 ^ p:=wu (by omega);have h1:(t.natAbs:Int)<120*2 ^ p:=(Int.ediv_lt_iff_lt_mul hq).1 h
 have h2:=bE.Pz p t 120 (by have:((120*2 ^ p:Nat):Int)=120*2 ^ p:=by simp
                            omega)
 omega
def YI(pp h:Nat)(s:jF)(t:Int)(p:Nat)(w:World)(e:Ending)(w':World):Prop:=
 ∃s' i ok,e=.returned (.tuple #[.int .i64 ((i:Nat):Int),.bool ok])/\jr pp h s w s' w'/\
  ((ok=true->i<s'.D.length/\Same (vl s'.D i) (nf p t))/\(ok=false->∀NF,bI NF->Same (bz NF) (nf p t)->dm NF=false))
theorem Jn(pp h:Nat)(s:jF)(t:Int)(p:Nat)(w:World)(hP:dA w pp h s)(hD:s.D=[])(hg:dS t p=true):
 Calls prog 177 #[.pointer (some ⟨pp,0,none⟩),tY t p] w (YI pp h s t p w):=by
 have hx:Ext w (w.alloc (.cells #[.int .i64 t,.int .i64 (p:Int)] 34)):=by go_grown
 have hb0:=eu w (.cells #[.int .i64 t,.int .i64 (p:Int)] 34);have hgt:=fe.1 hg;have hp:p<=16:=by omega
 have hmax:max t (-t)=(t.natAbs:Int):=by omega
 have hwn:wrap64 (-t)=-t:=by unfold wrap64;omega
 have HG:=aW (λV=>qR t p V);have HP:=aW hP;have q8:∀{s' w1 w2},Ext w w1->jr pp h s w1 s' w2->jr pp h s w s' w2:=λhV g=>(jr.refl HP.out hV).trans g
 rw[hg]at HG;rw[gM];by_cases aa1:120<=(t.natAbs:Int) / 2 ^ p
 .have HN:Hid (∀NF,bI NF->Same (bz NF) (nf p t)->dm NF=false):=aW λNF h1 h2=>abg h1 h2 aa1
  go_enter Tryz.func177,Tryz.ntmps177
  go_upto_region 1 with fail
  generalize w.alloc (.cells #[.int .i64 t,.int .i64 (p:Int)] 34)=W at *;have hD0:oQ W w.heap.size t p:=hb0;obtain⟨c0,c1⟩:=hD0.cells;clear hb0;go_wp2_with (go_at_call 75;refine(HG.out _).mono ?_;rintro e w1 ⟨rfl,hx1⟩;obtain⟨d0,d1⟩:=(hD0.ext hx1).cells)
  go_ret2
  exact⟨s,0,false,rfl,jr.refl HP.out (ah hx hx1),λh=>(by cases h),λ_=>HN.out⟩
 .have amO:(t.natAbs:Int) / 2 ^ p<120:=by omega
  have hr:=Ru hp amO;have HU:=aW (λV (hV:Ext w V)=>NW p t pp h s (bE.cs p t) V (hP.ext hV) hg (bE.Eh p t) hr (λi hi=>absurd hi (by rw[hD];simp)) (bE.xm p t));have hO:Off pp h s (w.alloc (.cells #[.int .i64 t,.int .i64 (p:Int)] 34)) (λb=>b=w.heap.size):=λb hb=>by
   subst hb;exact⟨by rw[fU];omega,λo=>by have:=hP.uZ o;omega⟩
  clear hr;go_enter Tryz.func177,Tryz.ntmps177
  go_upto_region 1 with fail
  generalize w.alloc (.cells #[.int .i64 t,.int .i64 (p:Int)] 34)=W at *;have hD0:oQ W w.heap.size t p:=hb0;obtain⟨c0,c1⟩:=hD0.cells;clear hb0;go_upto_region 3 with(go_at_call 75;refine(HG.out _).mono ?_;rintro e w1 ⟨rfl,hx1⟩;obtain⟨d0,d1⟩:=(hD0.ext hx1).cells)
  have hE1:=ah hx hx1;go_upto_region 4 with(go_at_call 207;refine(HU.out _ hE1).mono ?_;rintro e w2 ⟨s2,i2,rfl,gZ,hi2,hs2,hin2⟩)
  have hg2:=q8 hE1 gZ;have hxa:Ext w2 (w2.alloc (.cells #[.int .i64 ((i2:Nat):Int)] 3)):=by go_grown
  have hv2:=ji.one w2 i2 3;have HPT:=aW (Cm pp h s2 _ [i2] _ _ (hg2.pool.ext hxa) (by simpa using hi2) (by simp) hv2);have HF:Hid (jr pp h s w s2 w2/\Ext w2 (w2.alloc (.cells #[.int .i64 ((i2:Nat):Int)] 3))):=aW ⟨hg2,hxa⟩;clear q8 HU hO hx hE1 gZ hg2 hxa hv2 c0 c1 d0 d1 hD0 hx1;go_wp2_with (go_at_call 123;refine HPT.out.mono ?_;rintro e w3 ⟨v3,Ls,rfl,ho3,alr,xJ,hx3⟩;obtain⟨a3,c3,rfl,-,-⟩:=bT ho3)
  go_ret2
  refine⟨s2,i2,decide (((Ls.length:Nat):Int)<=120),rfl,(HF.out.1.ext HF.out.2).ext hx3,λ_=>⟨hi2,hs2⟩,λh NF h1 h2=>?_⟩;obtain⟨F,f1,f2,f3⟩:=Ro HF.out.1.pool.good hi2 alr (λj=>by rw[xJ];simp);have e:NF=F:=bE.kQ h1 f1 (bE.dn h2 (bE.dU (bE.dn f2 hs2)));rw[e];have:=of_decide_eq_false h;exact zk (by omega)
def M7(t:Int)(p:Nat)(w:World)(e:Ending)(w':World):Prop:=
 ∃(a:Option Addr) (n c:Nat) (ok:Bool),e=.returned (.tuple #[.agg #[.slice a n c],.bool ok])/\(ok=true->∃E,n=E.length/\bI E/\Same (bz E) (nf p t)/\dm E=true/\dI w' w.heap.size (.slice a n c) E)/\
  (ok=false->∀NF,bI NF->Same (bz NF) (nf p t)->dm NF=false)/\Ext w w'
theorem EP(t:Int)(p:Nat)(w:World)(hg:dS t p=true):Calls prog 129 #[tY t p] w (M7 t p w):=by
 have hb1:((w.alloc (.cells #[.int .i64 t,.int .i64 (p:Int)] 34)).alloc (.cells #[.slice none 0 0] 30)).heap[w.heap.size]?=some (.cells #[.int .i64 t,.int .i64 (p:Int)] 34 (0,0)):=by
  rw[jo _ _ _ (by simp)];exact eu _ _
 have hb2:((w.alloc (.cells #[.int .i64 t,.int .i64 (p:Int)] 34)).alloc (.cells #[.slice none 0 0] 30)).heap[w.heap.size+1]?=some (.cells #[.slice none 0 0] 30 (0,0)):=by
  have h:=eu (w.alloc (.cells #[.int .i64 t,.int .i64 (p:Int)] 34)) (.cells #[.slice none 0 0] 30);rw[fU]at h;exact h
 have hx1:Ext w ((w.alloc (.cells #[.int .i64 t,.int .i64 (p:Int)] 34)).alloc (.cells #[.slice none 0 0] 30)):=by go_grown
 rw[gM];go_enter Tryz.func129,Tryz.ntmps129
 go_upto_region 1 with fail
 generalize (w.alloc (.cells #[.int .i64 t,.int .i64 (p:Int)] 34)).alloc (.cells #[.slice none 0 0] 30)=W at *;go_upto_region 2 with(go_at_call 55;refine(qY W).mono ?_;rintro e w2 ⟨h,hh,rfl,hp2,tT,hz2,hx2⟩)
 subst hh;have vP:=dA.empty hp2 tT;have d2:oQ w2 w.heap.size t p:=ik hx2 hb1;obtain⟨c0,c1⟩:=d2.cells;have hr2:=ik hx2 hb2;have hlt2:w.heap.size+1<W.heap.size:=bW hb2;generalize hhz:W.heap.size=h at *;have hown:∀b,lg (h+1+1+1+1+1) h uo b->W.heap.size<=b:=λb hb=>by rcases uY hb with e|e <;> omega
 have Gc:=aW (Jn (h+1+1+1+1+1) h uo t p w2 vP rfl hg);have HX:=jm hx1 hx2;have HO:=aW hown;have HR:=aW hr2;clear hp2 tT hz2 vP hx2 hx1 hb1 hb2 d2 hown hr2;go_upto_region 3 with(go_at_call 177;refine Gc.out.mono ?_;rintro e w3 ⟨s3,i3,ok3,rfl,iq,aar⟩)
 have RI:Hid (Ext W w3):=aW (ko HX.out.2 iq.keep (λb c=>HO.out b c));have hr3:w3.heap[w.heap.size+1]?=some (.cells #[.slice none 0 0] 30 (0,0)):=(iq.keep.block _ (by have:=HX.out.2.size;omega) (by intro c;have:=HO.out _ c;omega)).trans HR.out;cases ok3 with
 |false=>
  have HN:=aW (aar.2 rfl);have q0:=bQ w3 (w.heap.size+1) 0 _ _ _ hr3;have q1:=gQ w3 (w.heap.size+1) 0 _ _ hr3;have HW:=aW (gK w3 (w.heap.size+1) 0 _ _ (.slice none 0 0) hr3);clear aar c0 c1 iq hr3;go_wp2
  refine mg (w.heap.size+1) 30 #[.slice none 0 0] HW.out underlying30 ?_;exact⟨none,0,0,false,rfl,λh=>(by cases h),λ_=>HN.out,ll (ah HX.out.1 RI.out) (w.heap.size+1) 0 _⟩
 |true=>
  obtain⟨hi3,hs3⟩:=aar.1 rfl;clear aar c0 c1;go_upto_region 5 with fail
  go_wp2_with (go_at_call 72;refine(yQ _ h s3 i3 w3 iq.pool hi3).mono ?_;rintro e w5 ⟨E,vN,Fr,ok,sl,rfl,hE,hS,hok,ze,qG,hx5⟩;obtain⟨aN,cN,rfl⟩:=qG.top;have HVV:=nY (And.intro hE hS) hok ze;have HZ5:=aW hx5;have YZ:=aW qG;have Gj:w5.heap[w.heap.size+1]?=some (.cells #[.slice none 0 0] 30 (0,0)):=(hx5.block _ (by have:=iq.keep.size;have:=HX.out.2.size;omega)).trans hr3;have q0:=bQ w5 (w.heap.size+1) 0 _ _ _ Gj;have q1:=gQ w5 (w.heap.size+1) 0 _ _ Gj;clear hok ze qG hE hS)
  have HW:=aW (gK w5 (w.heap.size+1) 0 _ _ (.slice aN Fr.length cN) Gj);have hz3:=RI.out.size;refine mg (w.heap.size+1) 30 #[.slice aN Fr.length cN] HW.out underlying30 ?_;obtain⟨⟨hE,hS⟩,hok,ze⟩:=HVV.out;refine⟨aN,Fr.length,cN,ok,rfl,λhy=>?_,λhy NF h1 h2=>?_,ll (ah (ah HX.out.1 RI.out) HZ5.out) (w.heap.size+1) 0 _⟩
  .subst hy
   simp only[if_true]at ze;subst ze;exact⟨Fr,rfl,hE,bE.dn hS hs3,hok.symm,Ak hok.symm ((YZ.out.oP (dH (p:=⟨w.heap.size+1,0,none⟩)) (λb hb=>by subst hb;show w.heap.size+1<w3.heap.size;omega)).lower (by omega))⟩
  .have e:NF=E:=bE.kQ h1 hE (bE.dn h2 (bE.dU (bE.dn hS hs3)))
   rw[e,<-hok,hy]
end
