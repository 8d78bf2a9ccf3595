/- 52 -/
import Derived.Test.YtplgooajigigkaaGreatDoorQ47
import Derived.Test.YtplgooajigigkaaGreatDoorQ48
import Derived.Test.YtplgooajigigkaaGreatDoorQ49
import Derived.Test.YtplgooajigigkaaGreatDoorQ51
set_option maxRecDepth 100000
set_option maxHeartbeats 4000000
namespace Go.Proofs.YtplgooajigigkaaGreatDoor
open Tryz
section
open Go.RowKit
variable {w:World} {pc:Nat}
theorem Py(w:World):Ints (w.alloc (.cells #[.int .i64 4,.int .i64 5,.int .i64 6,.int .i64 7] 3)) (.slice (some ⟨w.heap.size,0,none⟩) 4 4) [4,5,6,7]:=by
 have hown:(w.alloc (.cells #[.int .i64 4,.int .i64 5,.int .i64 6,.int .i64 7] 3)).ownsRow 0 3 1 (.slice (some ⟨w.heap.size,0,none⟩) 4 4) 4 (([4,5,6,7]:List Int).map (Value.int .i64)):=
  ⟨by simp,.inr ⟨w.heap.size,4,#[.int .i64 4,.int .i64 5,.int .i64 6,.int .i64 7],rfl,az _,dV w _,ax _,by decide,rfl,by simp⟩⟩
 exact Ints.dX hown (by decide)
theorem aaK{z:Int}(hz:z∈[(4:Int),5,6,7]):∃m:Nat,z=((m:Nat):Int)/\m<=8:=by
 rcases dZ.1 hz with rfl|hz
 .exact⟨4,rfl,by decide⟩
 rcases dZ.1 hz with rfl|hz
 .exact⟨5,rfl,by decide⟩
 rcases dZ.1 hz with rfl|hz
 .exact⟨6,rfl,by decide⟩
 rcases dZ.1 hz with rfl|hz
 .exact⟨7,rfl,by decide⟩
 cases hz
theorem Ws{t:ByteArray}(h:t∈[(⟨#[76]⟩:ByteArray),⟨#[82]⟩,⟨#[76]⟩]):t.size<=1:=by
 rcases dZ.1 h with rfl|h
 .decide
 rcases dZ.1 h with rfl|h
 .decide
 rcases dZ.1 h with rfl|h
 .decide
 cases h
def Ve(w:World)(e:Ending)(w':World):Prop:=∃(v':Value) (out:List Int) (s:ByteArray),e=.returned (.agg #[v',.string s])/\Ints w' v' out/\s.size<=60/\Ext w w'
theorem XT{W W' w3 w4:World}{v:Value}{out:List Int}{s:ByteArray}(hk:dW (λ_=>False) W W')(b0:W.heap[w.heap.size]?=some (.cells #[.slice none 0 0,.string ⟨#[]⟩] 43 (0,0)))(hpc:pc=w.heap.size+1)(hpl:pc<W.heap.size)
 (e3:dW (λb=>b=pc) W' w3) (e4:dW (λb=>b=pc) w3 w4) (hx:Ext w w4) (hI:Ints w4 v out) (hO:∀b,v.ownBlock=some b->w3.heap.size<b) (hz:s.size<=60):
 w4.cell? ⟨w.heap.size,0,none⟩=some (.slice none 0 0)/\w4.frozen? ⟨w.heap.size,0,none⟩=false/\(w4.setCell ⟨w.heap.size,0,none⟩ v).cell? ⟨w.heap.size,1,none⟩=some (.string ⟨#[]⟩)/\(w4.setCell ⟨w.heap.size,0,none⟩ v).frozen? ⟨w.heap.size,1,none⟩=false/\
 Hid (((w4.setCell ⟨w.heap.size,0,none⟩ v).setCell ⟨w.heap.size,1,none⟩ (.string s)).heap[w.heap.size]?=some (.cells #[v,.string s] 43 (0,0))/\Ve w (.returned (.agg #[v,.string s])) ((w4.setCell ⟨w.heap.size,0,none⟩ v).setCell ⟨w.heap.size,1,none⟩ (.string s))):=by
 have hl0:=bq b0;have z1:=hk.size;have z2:=e3.size;have h4:w4.heap[w.heap.size]?=some (.cells #[.slice none 0 0,.string ⟨#[]⟩] 43 (0,0)):=by
  rw[e4.block _ (by omega) (by omega),e3.block _ (by omega) (by omega),hk.block _ hl0 (λe=>e)];exact b0
 obtain⟨r0,r1,r2,r3⟩:=dn h4;have hks:dW (λb=>b=w.heap.size) w4 ((w4.setCell ⟨w.heap.size,0,none⟩ v).setCell ⟨w.heap.size,1,none⟩ (.string s)):=(dx (p:=⟨w.heap.size,0,none⟩)).trans (dx (p:=⟨w.heap.size,1,none⟩)) λ_ _ h=>h
 exact⟨r0,r1,(r2 _).1,(r2 _).2,aI ⟨r3 _ _,v,out,s,rfl,hI.keep λb hl hb=>hks.block b (hI.blk hl hb) (λe=>by have:=hO b hb;omega),hz,(hx.setCell (p:=⟨w.heap.size,0,none⟩) (ax _) _).setCell (p:=⟨w.heap.size,1,none⟩) (ax _) _⟩⟩
theorem LY(v:Value)(us:List Nat)(w:World)(hv:nX w v (wJ us))(hs:∀u,u∈us->u<256):Calls prog 14 #[v] w (Ve w):=by
 obtain⟨a,cap,rfl,-,-,-⟩:=id hv;obtain⟨W,hW,hx,b0,b1,hz⟩:=Uv w (.cells #[.slice none 0 0,.string ⟨#[]⟩] 43) (.cells #[.slice a (wJ us).length cap,.int .i64 0,.int .u64 0] 69);have hc0:uk w W (w.heap.size+1) (.slice a (wJ us).length cap) us 0:=⟨hv,hs,hx,by omega,0,b1⟩;have Z7:dW (λ_=>False) W (W.alloc (.cells #[.int .i64 4,.int .i64 5,.int .i64 6,.int .i64 7] 3)):=⟨rfl,rfl,rfl,by simp,λb hb _=>gI _ _ _ hb⟩;have H1:=aI (hc0.keep Z7 (λb e=>e.elim));have H2:=aI (Py W);obtain⟨pc,hpc⟩:=eu (w.heap.size+1);rw[<-hpc]at H1 b1;have H3:Hid (∀b,Value.ownBlock (.slice (some ⟨W.heap.size,0,none⟩) 4 4)=some b->b≠pc):=aI λb hb e=>by
  have hb':W.heap.size=b:=by simpa [Value.ownBlock]using hb
  omega
 have HB:=JM Z7 b0 hpc (bq b1);go_enter Tryz.func14,Tryz.ntmps14
 go_upto_region 2 with fail
 rw[<-hW,<-hpc];clear hW hpc Z7 hc0 b0 b1 hx hz hv hs
 go_wp2_with (first
  |(go_at_call 40;obtain⟨⟨k3,hk3,hc3⟩,e3⟩:=HG3.out;refine(FJ hc3 (by omega) m hm (by have:=HB.out.2.2.2;have:=e3.size;have:=HB.out.1.size;omega)).mono ?_;rintro e w4 ⟨v4,afz,s4,rfl,hI4,hO4,Nl,hg4⟩;obtain⟨⟨k4,hk4,hc4⟩,e4⟩:=hg4;obtain⟨a4,c4,rfl,-⟩:=id hI4;obtain⟨r0,r1,r2,r3,HQ⟩:=XT HB.out.1 HB.out.2.1 HB.out.2.2.1 HB.out.2.2.2 e3 e4 hc4.ext hI4 hO4 Nl;clear hI4 hO4 e3 e4 hc4 hc3)
  |(go_at_call 41;refine(Ew H1.out (by omega) _ [4,5,6,7] H2.out ⟨by decide,by decide⟩ H3.out).mono ?_;rintro e w3 ⟨z,hz,rfl,hg3⟩;obtain⟨m,rfl,hm⟩:∃m:Nat,z=((m:Nat):Int)/\m<=8:=aaK hz;have HG3:=aI hg3;clear hz hg3))
 (try simp only[Exit.inBlock,Exit.then]);refine bodyPost_ret (results_cell_row rfl _ _ w.heap.size 43 #[.slice a4 afz.length c4,.string s4] (0,0) _ rfl HQ.out.1 underlying43 rfl (by kernel_rfl)) rfl ?_;exact HQ.out.2
theorem Dh{w0:World}{cv:Value}{us:List Nat}{k:Nat}(h:uk w0 w pc cv us k)(hk:k<=900)(most:Nat)(hm:most<=20):
 Calls prog 58 #[.pointer (some ⟨pc,0,none⟩),.int .i64 ((most:Nat):Int)] w λe w'=>∃s:ByteArray,s.size<=30/\e=.returned (.string s)/\mh w0 w w' pc cv us k 60:=by
 have U2:=lD h (by omega) (most+1) (by omega);rw[fU]at U2;have U2:=aI U2;have hm9:((most:Nat):Int)<=20:=by omega
 clear h;go_enter Tryz.func58,Tryz.ntmps58
 go_upto_region 3 with(go_at_call 83;refine U2.out.mono ?_;rintro e w1 ⟨x,hx,rfl,hg⟩)
 obtain⟨⟨k1,hk1,hc1⟩,e1⟩:=hg;have Fw:x<=20:=by omega
 clear hx U2;go_loopw [5,6] (λsv jj wr=>∃(j k':Nat) (t:ByteArray),sv=.string t/\jj=.int .i64 ((j:Nat):Int)/\t.size+j<=20/\k'+j<=k+25/\Hid (uk w0 wr pc cv us k'/\dW (λb=>b=pc) w wr)) (λ_ jj _=>(intOf jj).toNat)
 case atStart=>exact⟨x,k1,_,rfl,rfl,by show 0+x<=20;omega,by omega,aI ⟨hc1,e1⟩⟩
 case round=>
  clear hc1 e1;obtain⟨j,k',t,rfl,rfl,htz,hkj,HC⟩:=hrel;by_cases hj:0<j
  .have h1:(0:Int)<((j:Nat):Int):=by omega
   have amw:((j:Nat):Int)<=20:=(by omega);obtain⟨s0,hbk⟩:=HC.out.1.blk;have Z7:dW (λ_=>False) wr (wr.alloc (.cells #[.string ⟨#[76]⟩,.string ⟨#[82]⟩,.string ⟨#[76]⟩] 9)):=⟨rfl,rfl,rfl,by simp,λb hb _=>gI _ _ _ hb⟩;have hst:=GH wr [⟨#[76]⟩,⟨#[82]⟩,⟨#[76]⟩] (by decide);have hne:∀b,(Value.slice (some ⟨wr.heap.size,0,none⟩) 3 3).ownBlock=some b->b≠pc:=λb hb e=>by
    have hb':wr.heap.size=b:=(by simpa [Value.ownBlock]using hb);have:=bq hbk;omega
   have HOF:=aI (Ry (HC.out.1.keep Z7 (λb e=>e.elim)) (by omega) _ 3 [⟨#[76]⟩,⟨#[82]⟩,⟨#[76]⟩] hst ⟨by decide,by decide⟩ hne);have HKA:=aI (vK Z7 (G:=λb=>b=pc) λ_ e=>e.elim);clear Z7 hst hne hbk;go_wp2_with (go_at_call 85;refine HOF.out.mono ?_;rintro e w4 ⟨u,hu,rfl,hg⟩;have hu1:=Ws hu;have Ca:¬(9223372036854775807<t.size+u.size):=(by omega);have HG4:=aI hg;clear hg hu)
   obtain⟨⟨k4,hk4,hc4⟩,e4⟩:=HG4.out;go_roundw
   case rel=>exact⟨j-1,k4,t++u,rfl,by rw[show(((j-1:Nat):Nat):Int)=((j:Nat):Int)-1 by omega],by rw[ig];omega,by omega,aI ⟨hc4,HC.out.2.trans (HKA.out.trans e4 λ_ _ h=>h) λ_ _ h=>h⟩⟩
   case measure=>simp[intOf];omega
  .have hj0:j=0:=by omega
   subst hj0
   go_wp2_with (first
    |(go_at_call 84;refine(EZ HC.out.1 (by omega) 12 (by omega)).mono ?_;rintro e w4 ⟨y,rfl,hg⟩;have HG4:=aI hg;clear hg)
    |(go_at_call 86;obtain⟨⟨k4,hk4,hc4⟩,e4⟩:=HG4.out;refine(A9 hc4 (by omega) t _ rfl (by omega)).mono ?_;rintro e w5 ⟨t2,ht2,rfl,hg5⟩;have Qo:=aI hg5;have HE4:=aI e4;clear hg5 e4))
   all_goals go_ret
   .obtain⟨⟨k5,hk5,Da⟩,e5⟩:=Qo.out
    exact⟨t2,by omega,rfl,⟨k5,by omega,Da⟩,HC.out.2.trans (HE4.out.trans e5 λ_ _ h=>h) λ_ _ h=>h⟩
   .obtain⟨⟨k4,hk4,hc4⟩,e4⟩:=HG4.out
    exact⟨t,by omega,rfl,⟨k4,by omega,hc4⟩,HC.out.2.trans e4 λ_ _ h=>h⟩
theorem xc(v:Value)(us:List Nat)(w:World)(hv:nX w v (wJ us))(hs:∀u,u∈us->u<256):Calls prog 21 #[v] w λe w'=>∃s:ByteArray,s.size<=30/\e=.returned (.string s)/\Ext w w':=by
 obtain⟨a,cap,rfl,-,-,-⟩:=id hv;obtain⟨W,hW,hx,b0,hz⟩:=xq w (.cells #[.slice a (wJ us).length cap,.int .i64 0,.int .u64 0] 69);have hc0:uk w W w.heap.size (.slice a (wJ us).length cap) us 0:=⟨hv,hs,hx,by omega,0,b0⟩;have HD:=aI (Dh hc0 (by omega) 9 (by omega));go_enter Tryz.func21,Tryz.ntmps21
 clear hv hs hx b0 hz;go_wp2_with (go_at_call 58;rw[<-hW];refine HD.out.mono ?_;rintro e w1 ⟨s,hs,rfl,hg⟩)
 go_ret
 obtain⟨⟨k5,hk5,Da⟩,e5⟩:=hg;exact⟨s,hs,rfl,Da.ext⟩
end
section
open Go.RowKit
open aZ (cZ Nd Gm vl Same N0 Val Canon eU eD eQ gd bG bT)
def Yl(pp h:Nat)(F:cZ)(w0:World)(e:Ending)(w':World):Prop:=
 ∃s' i,e=.returned (.int .i64 ((i:Nat):Int))/\bX w' pp h s'/\i<s'.D.length/\Canon (vl s'.D i)/\eU (vl s'.D i) (eQ F)/\Ext w0 w'/\∀b,jI pp h s' b->w0.heap.size<=b
theorem FQ(pp h:Nat)(v:Value)(F:cZ)(w0 w:World)(hf:eZ w0 0 v F)(hF:eD F)(hfit:mP F=true)(hx:Ext w0 w)(hP:bX w pp h ET)(hb0:∀b,jI pp h ET b->w0.heap.size<=b):
 Calls prog 57 #[.pointer (some ⟨pp,0,none⟩),.agg #[v]] w (Yl pp h F w0):=by
 obtain⟨aF,fI,rfl,hcap,yH,-⟩:=id hf;obtain⟨l1,l2,I1⟩:=LV hfit;have hx1:Ext w (w.alloc (.cells #[.slice aF F.length fI] 30)):=by go_grown
 have hb1:=dV w (.cells #[.slice aF F.length fI] 30);have HA:Hid (∀x,x∈F->x.1.length<=1000000/\x.2.length<=1000000):=λx hx=>by
  obtain⟨i,hi,rfl⟩:=aH.1 hx;have:=I1 i hi;exact⟨by omega,by omega⟩
 have HF:=aI hf;have HI:=aI hF;clear I1 hfit hf hF;go_enter Tryz.func57,Tryz.ntmps57
 go_upto_region 1 with fail
 generalize w.alloc (.cells #[.slice aF F.length fI] 30)=W at *;have c0:=bI W w.heap.size 0 _ _ _ hb1;simp only[gE]at c0;have adv:=aI (OB pp h ET (.slice aF F.length fI) F w0 W HF.out HI.out.good.wf (by omega) HA.out (ah hx hx1) (hP.ext hx1) hb0 (by simp[ET];omega));clear hx hx1 hP hb0 hb1
 go_wp2_with (first
  |(go_at_call 73;refine(Bi pp h s3 j3 w3 hP3 hj3 (by have h1:=hD3;have h2:=KE (j3+1) s3.cn;simp[ET]at h1;omega)).mono ?_;rintro e w4 ⟨s4,j4,rfl,ll,ac3,hG4⟩
    obtain⟨h1,h2⟩:=ll.pool.uT.lt j3 j4 ac3;obtain⟨h3,h4,_⟩:=ll.pool.uT.ok j3 j4 ac3;have HV:=yD h2 h3 (h4.trans (by rw[ll.vl hP3.good.wf hj3];exact hs3.eqv)))
  |(go_at_call 74;refine adv.out.mono ?_;rintro e w3 ⟨s3,j3,rfl,hj3,hs3,gU,hD3,pG,hB3⟩
    have hP3:=gU.pool))
 go_ret
 exact⟨s4,j4,rfl,ll.pool,HV.out.1,HV.out.2.1,HV.out.2.2,jQ pG ll.keep (λb c=>hB3 b c),λb hb=>by
  rcases ll.own b hb with c|c
  .exact hB3 b c
  .have:=pG.size;omega⟩
def PW(F:cZ)(w:World)(e:Ending)(w':World):Prop:=
 ∃t p ok,e=.returned (.tuple #[xw t p,.bool ok])/\Ext w w'/\∃g,Canon g/\eU g (eQ F)/\(ok=true->∃k,Val g k/\t=bG 16 k/\p=bT 16 k)/\(ok=false->¬N0 g)
theorem Fa(v:Value)(F:cZ)(w:World)(hf:eZ w 0 v F)(hF:eD F)(hfit:mP F=true):Calls prog 20 #[.agg #[v]] w (PW F w):=by
 obtain⟨aF,fI,rfl,hcap,yH,-⟩:=id hf;have hb1:((w.alloc (.cells #[.slice aF F.length fI] 30)).alloc (.cells #[.int .i64 0,.int .i64 0] 34)).heap[w.heap.size]?=some (.cells #[.slice aF F.length fI] 30 (0,0)):=by
  rw[gI _ _ _ (by simp)];exact dV _ _
 have hb2:((w.alloc (.cells #[.slice aF F.length fI] 30)).alloc (.cells #[.int .i64 0,.int .i64 0] 34)).heap[w.heap.size+1]?=some (.cells #[.int .i64 0,.int .i64 0] 34 (0,0)):=by
  have h:=dV (w.alloc (.cells #[.slice aF F.length fI] 30)) (.cells #[.int .i64 0,.int .i64 0] 34);rw[eX]at h;exact h
 have hx1:Ext w ((w.alloc (.cells #[.slice aF F.length fI] 30)).alloc (.cells #[.int .i64 0,.int .i64 0] 34)):=by go_grown
 have HG:=aI (λV (hV:Ext w V)=>CU (.slice aF F.length fI) F V (hf.ext hV) hF hfit);have HF:=aI hf;have HI:=jW hF hfit;clear hfit hf hF;go_enter Tryz.func20,Tryz.ntmps20
 go_upto_region 1 with fail
 generalize (w.alloc (.cells #[.slice aF F.length fI] 30)).alloc (.cells #[.int .i64 0,.int .i64 0] 34)=W at *;have c0:=bI W w.heap.size 0 _ _ _ hb1;simp only[gE]at c0;go_upto_region 3 with(go_at_call 54;refine(HG.out W hx1).mono ?_;rintro e w1 ⟨rfl,hxg⟩)
 have hE1:=ah hx1 hxg;go_upto_region 4 with(go_at_call 55;refine(zI w1).mono ?_;rintro e w2 ⟨h,hh,rfl,hp2,I5,hz2,hx2⟩)
 subst hh;have Y2:=bX.empty hp2 I5;have hcc:w2.cell? ⟨w.heap.size,0,none⟩=some (.slice aF F.length fI):=dP hx2 (dP hxg c0);have hr1:w1.heap[w.heap.size+1]?=some (.cells #[.int .i64 0,.int .i64 0] 34 (0,0)):=kY hxg hb2;have hlt2:w.heap.size+1<w1.heap.size:=bq hr1;generalize hhz:w1.heap.size=h at *;have hCO:=aI (FQ (h+1+1+1+1+1) h (.slice aF F.length fI) F w1 w2 (HF.out.ext hE1) HI.out.1 HI.out.2 hx2 Y2 (λb hb=>by rcases Ri hb with e|e <;> omega));have HE1:=aI hE1;clear hp2 I5 hz2 Y2 hx2 hE1 hx1 hxg hb1 hb2 c0
 go_wp2_with (first
  |(go_at_call 56;refine(Ra _ h s3 j3 w3 hP3 hj3 hC3).mono ?_;rintro e w4 ⟨t4,p4,ok4,rfl,ll,hv4⟩;simp only[kX]
    have Jg:=jQ pG ll.keep (λb c=>hB3 b c);have hr4:=(Jg.block _ (by omega)).trans hr1;obtain⟨q0,q1,q2,q3⟩:=dn hr4;have q4:=(q2 (.int .i64 t4)).1;have q5:=(q2 (.int .i64 t4)).2;have HQ:=aI (q3 (.int .i64 t4) (.int .i64 (p4:Int)));have VI:=aI hv4;have HE4:=aI Jg;clear q2 q3 hr4 hv4 Jg)
  |(go_at_call 57;refine hCO.out.mono ?_;rintro e w3 ⟨s3,j3,rfl,hP3,hj3,hC3,Vw,pG,hB3⟩))
 refine tO (w.heap.size+1) 34 #[.int .i64 t4,.int .i64 (p4:Int)] HQ.out underlying34 ?_;exact⟨t4,p4,ok4,rfl,oG (oG (ah HE1.out HE4.out) (w.heap.size+1) 0 _) (w.heap.size+1) 1 _,vl s3.D j3,hC3,Vw,VI.out.1,VI.out.2⟩
end
section
open Go.RowKit
open aZ (cZ Nd bG bT Canon eU eQ Val N0 eD)
variable {us:List Int} {s:ByteArray} {F:cZ} {ok:Bool}
theorem Pz{W:World}{B:Nat}{v:Value}{sl:Nat->Value}(r:yC us s F ok)(h:FO W B v F.length sl (vS F)):eZ W 0 v F:=by
 have q:=Ou r;exact h.nodes (λj hj=>by have:=q.2 j hj;omega) (by have:=q.1;simp[maxLen];omega)
theorem Kl(r:yC us s F ok):F.length<=1000000/\∀i (hi:i<F.length),(F[i]).1.length<=1000000/\(F[i]).2.length<=1000000:=by
 rcases r with⟨_,F',_,h2,h3⟩|⟨_,_,rfl⟩
 .cases ok with
  |false=>simp at h3;subst h3;exact⟨by simp,λi hi=>absurd hi (by simp)⟩
  |true=>
   simp at h3;subst h3;have hf:=h2.symm;unfold mP at hf;obtain⟨_,f2,f3⟩:=of_decide_eq_true hf;exact⟨by omega,λi hi=>by have:=f3 i hi;omega⟩
 .exact⟨by simp,λi hi=>absurd hi (by simp)⟩
theorem Wi(r:yC us s F true):jY us s=true/\kg F us s.data.toList/\mP F=true:=by
 rcases r with⟨h1,F',h2,h3,h4⟩|⟨_,h,_⟩
 .simp at h4;subst h4;exact⟨h1,h2,h3.symm⟩
 .cases h
theorem Gw{t:Int}{p:Nat}(hg:jY us s=true)(hF:kg F us s.data.toList){g:aZ.Gm}(e:eU g (eQ F))(h:∃k,Val g k/\t=bG 16 k/\p=bT 16 k):t=bG 16 (CL us s)/\p=bT 16 (CL us s):=by
 obtain⟨k,h1,h2,h3⟩:=h;have:=QK (pI.1 hg) hF e h1;unfold CL;rw[hg,if_pos rfl,<-this];exact⟨h2,h3⟩
theorem Bt(h:JG s=true):jY (jJ s.size) s=true/\CL (jJ s.size) s=aZ.jK (Lb s)/\aZ.gd (aZ.jK (Lb s))/\s.size<=8/\nV s=true:=by
 unfold JG at h;rw[dS,decide_eq_true_eq]at h;obtain⟨h8,hm⟩:=h;have hl:s.data.toList.length=s.size:=by rw[ib];rfl
 have hg0:GT (jJ s.data.toList.length) s.data.toList:=OD (by omega) λc hc=>by
  obtain⟨i,hi,rfl⟩:=aH.1 hc;exact(xG _).1 (of_decide_eq_true hm i (by omega))
 rw[hl]at hg0;have hg:=pI.2 hg0;have hn:=Rk (s:=s.data.toList) (by omega);rw[hl]at hn;have hk:CL (jJ s.size) s=aZ.jK (Lb s):=by unfold CL;rw[hg,if_pos rfl,hn];rfl
 have hw:=aZ.pQ (jS hg0) (qo s.data.toList) (n:=(jJ s.size).length) hg0.small (jJ s.size).length (ax _) 0 (by omega);have hw2:=aZ.rQ (jS hg0) (n:=(jJ s.size).length) (k:=(jJ s.size).length) (v:=0) (ax _) (by omega);have h8':=hg0.small;refine⟨hg,hk,?_,h8,hm⟩;have:=aZ.jZ hw (by omega);have e:CL (jJ s.size) s=uo (jJ s.size) s.data.toList:=by unfold CL;rw[hg,if_pos rfl]
 rw[<-hk,e];exact this.2.2
theorem JW(v:Value)(us:List Nat)(w:World)(hv:nX w v (wJ us))(hs:∀u,u∈us->u<256)(hG:Qp w):
 Calls prog 4 #[v] w λe w'=>e=.returned (.bool true)/\Ext w w':=by
 obtain⟨a,cap,rfl,-,-,-⟩:=id hv;by_cases hbig:(65536:Int)<(((wJ us).length:Nat):Int)
 .go_enter Tryz.func4,Tryz.ntmps4
  go_wp2_with (go_at_call 13;refine(Hf _ _ _ _).mono ?_;rintro e w1 ⟨he,hx1⟩;rw[decide_eq_true hbig]at he;subst he)
  go_ret
  exact⟨rfl,hx1⟩
 .have hul:us.length<=65536:=by simp[wJ]at hbig;omega
  go_enter Tryz.func4,Tryz.ntmps4
  go_upto_region 3 with(go_at_call 13;refine(Hf _ _ _ _).mono ?_;rintro e w1 ⟨he,hx1⟩;rw[decide_eq_false hbig]at he;subst he)
  go_upto_region 4 with(go_at_call 14;refine(LY _ us _ (hv.ext hx1) hs).mono ?_;rintro e w2 ⟨vT,tu,sb,rfl,hIT,hsb,hx2⟩;obtain⟨aT,cT,rfl,-⟩:=id hIT)
  obtain⟨W3,hW3,hx3,b3,hz3⟩:=xq w2 (.cells #[.slice aT tu.length cT,.string sb] 43);rw[<-hW3];obtain⟨p3,hp3⟩:=eu w2.heap.size;rw[<-hp3]at b3 ⊢;have H3:=yD (ah (ah hx1 hx2) hx3) (hIT.ext hx3) b3;have HV:=JM hv hs hul hG;obtain⟨c30,c31⟩:=dM b3;have hTI:=λV (hV:Ext W3 V)=>sN _ tu sb V (H3.out.2.1.ext hV) (by omega)
  have hTS:=λV (hV:Ext W3 V)=>J7 _ tu sb V (H3.out.2.1.ext hV) (by omega)
  obtain⟨X,hX⟩:=eu (CL tu sb);obtain⟨g,hg⟩:=eu (jY tu sb);rw[<-hX,<-hg,nW]at hTI hTS;have HTI:=aI hTI;have HTS:=aI hTS;have HXG:=jW hX hg;clear hTI hTS hX hg;clear hbig hx1 hx2 hx3 hIT hz3 hp3 hW3 b3 hv hs hul hG;go_upto_region 5 with(go_at_call 15;refine(Fu _ tu sb _ H3.out.2.1 (by omega) (HV.out.2.2.2.ext H3.out.1)).mono ?_;rintro e w4 ⟨vF,F,ok,sF,rfl,hRF,hOF,hx4⟩;obtain⟨aF,cF,rfl⟩:=hOF.top)
  obtain⟨W4,Tq,hx5,b4,Nl⟩:=xq w4 (.cells #[.slice aF F.length cF] 30);rw[<-Tq];obtain⟨p4,hp4⟩:=eu w4.heap.size;rw[<-hp4]at b4 ⊢;have H4:=JM (ah hx4 hx5) ((Pz hRF hOF).ext hx5) hRF b4;have d30:=dP (ah hx4 hx5) c30;have d31:=dP (ah hx4 hx5) c31;clear hx4 hx5 hOF hRF Nl hp4 Tq b4 c30 c31;go_upto_region 6 with(go_at_call 16;refine(EM _ tu sb _ (H3.out.2.1.ext H4.out.1) (by omega)).mono ?_;rintro e w5 ⟨vN,G,okG,rfl,hNG,hRG,hx6⟩;obtain⟨aG,cG,rfl⟩:=hNG.slice;obtain⟨rfl,rfl⟩:=H4.out.2.2.1.unique hRG)
  obtain⟨W5,hW5,hx7,b5,Nk⟩:=xq w5 (.cells #[.slice aG F.length cG] 30);rw[<-hW5];obtain⟨p5,hp5⟩:=eu w5.heap.size;rw[<-hp5]at b5 ⊢;have H5:=yD (ah hx6 hx7) (hNG.ext hx7) b5;have c30:=dP (ah hx6 hx7) d30;have c31:=dP (ah hx6 hx7) d31;clear hx6 hx7 hNG hRG Nk hp5 hW5 b5 d30 d31;have zU:=ah H4.out.1 H5.out.1;go_upto_region 7 with(go_at_call 17;refine(HTI.out _ zU).mono ?_;rintro e w6 ⟨rfl,Ae⟩)
  obtain⟨W6,Qg,yG,b6,hz6⟩:=xq w6 (.cells #[.int .i64 (bG 16 X),.int .i64 ((bT 16 X:Nat):Int)] 34);rw[<-Qg];obtain⟨p6,Vs⟩:=eu w6.heap.size;rw[<-Vs]at b6 ⊢;have H6:=jW (ah Ae yG) b6;have d30:=dP (ah Ae yG) c30;have d31:=dP (ah Ae yG) c31;clear Ae yG hz6 Vs Qg b6 c30 c31 zU;have Jf:=ah (ah H4.out.1 H5.out.1) H6.out.1;go_upto_region 8 with(go_at_call 18;refine(HTS.out _ Jf).mono ?_;rintro e w7 ⟨rfl,Sl⟩)
  obtain⟨W7,hW7,acu,b7,ZL⟩:=xq w7 (.cells #[.int .i64 (bG 16 X),.int .i64 ((bT 16 X:Nat):Int)] 34);rw[<-hW7];obtain⟨p7,Lg⟩:=eu w7.heap.size;rw[<-Lg]at b7 ⊢;have hx7:=ah Sl acu;obtain⟨x70,x71⟩:=dM b7;obtain⟨x60,x61⟩:=dM (kY hx7 H6.out.2);have f5:=(ah H6.out.1 hx7).block _ (bq H5.out.2.2);have f50:=bI W7 p5 0 _ _ _ (f5.trans H5.out.2.2);have f4:=(ah H5.out.1 (ah H6.out.1 hx7)).block _ (bq H4.out.2.2.2);have f40:=bI W7 p4 0 _ _ _ (f4.trans H4.out.2.2.2);simp only[gE]at f50 f40;have hN4:=H4.out.2.1.ext (ah H5.out.1 (ah H6.out.1 hx7));have hN5:=H5.out.2.1.ext (ah H6.out.1 hx7);have hres:=Kl H4.out.2.2.1;have HRF:=aI (Km _ _ F W7 hN4 hN5 hres.1 hres.2);have H7:=JM (ah H3.out.1 (ah Jf hx7)) b7 hN4 hx7;have h30:=dP hx7 d30;have h31:=dP hx7 d31;clear Sl acu ZL Lg hW7 b7 d30 d31 Jf hx7 f5 f4 hN4 hN5 hres;have hgd:(ok != ok)=false:=by simp
  have hgg:(g != g)=false:=by simp
  go_upto_region 10 with(go_at_call 19;refine HRF.out.mono ?_;rintro e w8 ⟨rfl,ze⟩;have y70:=dP ze x70;have y71:=dP ze x71;have y60:=dP ze x60;have y61:=dP ze x61)
  have HX8:=jW ze (ah H7.out.1 ze);have z40:=dP ze f40;clear ze x60 x61 x70 x71 f40 f50 hgd hgg h30 h31;cases ok with
  |false=>
   clear y60 y61 y70 y71 z40;go_upto_region 14 with fail
   obtain⟨Wc,hWc⟩:=eu w8;have U0:=aI HX8.out.2;rw[<-hWc]at U0 ⊢;clear hWc;have YL:=HV.out.1.ext U0.out
   go_upto_region 15 with(first
    |(go_at_call 21;refine(xc _ us2 _ hv2 hs2).mono ?_;rintro e w11 ⟨st,hst,rfl,IM⟩)
    |(go_at_call 22;refine(Bf _ us _ YL HV.out.2.1 HV.out.2.2.1).mono ?_;rintro e w10 ⟨v2,us2,rfl,hv2,hs2,Fw⟩))
   have U8:=aI (ah U0.out (ah Fw IM));clear Fw IM hv2 hs2 YL;go_upto_region 16 with(go_at_call 23;refine(wW st _ (by omega)).mono ?_;rintro e QD ⟨a5,n5,c5,t5,rfl,Pt,IL⟩)
   obtain⟨NK,Jc,BS,b12,Pe⟩:=xq QD (.cells #[.slice a5 n5 c5,.string t5] 43);rw[<-Jc];obtain⟨p12,IY⟩:=eu QD.heap.size;rw[<-IY]at b12 ⊢;obtain⟨s0,s1⟩:=dM b12;have JD:=aI (ah U8.out (ah IL BS));have UY:=aI BS;have HIS:=aI Pt;clear IL BS Pe IY Jc b12 Pt;cases hos:JG st with
   |false=>
    have hno:=λV=>yO st V (by omega) hos
    have U3:=aI hno;clear hno;go_wp2_with (go_at_call 24;refine(U3.out _).mono ?_;rintro e Qc ⟨rfl,hx24⟩)
    go_ret
    exact⟨rfl,bJ (ah JD.out hx24) _⟩
   |true=>
    obtain⟨rfl,Y8⟩:=HIS.out hos;obtain⟨g1,g2,g3,g4,g5⟩:=Bt hos;have Tw:=Y8.ext UY.out;have uO:=λV (hV:Ext NK V)=>sN _ (jJ t5.size) t5 V (Tw.ext hV) (by omega)
    have Jd:=λV=>pR t5 V g4 g5
    have FH:=λV (hV:Ext NK V)=>pE _ (jJ t5.size) t5 V (Tw.ext hV) (by omega)
    rw[g1,g2]at uO;rw[g1]at FH;simp only[qa g3]at Jd;obtain⟨Y,hY⟩:=eu (aZ.jK (Lb t5));rw[<-hY]at uO;simp only[<-hY]at Jd;simp only[nW]at uO Jd;have U1:=aI uO;have HSV:=aI Jd;have HGT:=aI FH;have hE0:Ext NK NK:=fJ _ _;clear uO Jd FH g1 g2 g3 g4 g5 hY Y8 Tw;go_upto_region 20 with(go_at_call 17;refine(U1.out _ hE0).mono ?_;rintro e Qc ⟨rfl,hx24⟩)
    obtain⟨W13,Jb,hx25,b13,Sg⟩:=xq Qc (.cells #[.int .i64 (bG 16 Y),.int .i64 ((bT 16 Y:Nat):Int)] 34);rw[<-Jb];obtain⟨p13,IX⟩:=eu Qc.heap.size;rw[<-IX]at b13 ⊢;have BU:=ah hx24 hx25;have VO:=jW BU b13;clear hx24 hx25 Sg IX Jb b13 BU hE0;go_upto_region 21 with(go_at_call 25;refine(HSV.out _).mono ?_;rintro e Yp ⟨rfl,IK⟩)
    obtain⟨W14,Ja,hx27,b14,Sd⟩:=xq Yp (.cells #[.int .i64 (bG 16 Y),.int .i64 ((bT 16 Y:Nat):Int)] 34);rw[<-Ja];obtain⟨p14,IW⟩:=eu Yp.heap.size;rw[<-IW]at b14 ⊢;have x8:=ah IK hx27;obtain⟨y14,y15⟩:=dM b14;obtain⟨y12,y13⟩:=dM (kY x8 VO.out.2);have ym:=ah VO.out.1 x8;have s2:=dP ym s0;have s3:=dP ym s1;clear IK hx27 Sd IW Ja b14 x8 s0 s1;go_wp2_with (go_at_call 26;refine(HGT.out _ ym).mono ?_;rintro e w15 ⟨rfl,hx28⟩;have z12:=dP hx28 y12;have z13:=dP hx28 y13;have z14:=dP hx28 y14;have z15:=dP hx28 y15)
    go_ret
    exact⟨rfl,ah JD.out (ah ym hx28)⟩
  |true=>
   obtain⟨hgt,LC,hfit⟩:=Wi H4.out.2.2.1;obtain rfl:g=true:=HXG.out.2.trans hgt;have HNO:=aI (Fa _ F w8 (H7.out.2.2.1.ext HX8.out.1) LC.1 hfit);have HTN:=jW hgt LC;clear hgt LC hfit;go_upto_region 12 with(go_at_call 20;refine HNO.out.mono ?_;rintro e w9 ⟨t,p,okD,rfl,BU,gg,-,heq,acg,-⟩;simp only[kX])
   obtain⟨W9,hW9,x8,b9,hz9⟩:=xq w9 (.cells #[.int .i64 t,.int .i64 ((p:Nat):Int)] 34);rw[<-hW9];obtain⟨p9,hp9⟩:=eu w9.heap.size;rw[<-hp9]at b9 ⊢;obtain⟨x90,x91⟩:=dM b9;have yG:=ah BU x8;have x60:=dP yG y60;have x61:=dP yG y61;have HX9:=aI (ah HX8.out.2 yG);have aea:=jW heq acg;clear BU x8 yG hz9 hp9 hW9 b9 heq acg y60 y61 y70 y71 z40;cases okD with
   |false=>
    go_upto_region 14 with fail
    obtain⟨Wc,hWc⟩:=eu W9;have U0:=aI HX9.out;rw[<-hWc]at U0 ⊢;clear hWc x60 x61 x90 x91;have YL:=HV.out.1.ext U0.out
    go_upto_region 15 with(first
     |(go_at_call 21;refine(xc _ us2 _ hv2 hs2).mono ?_;rintro e w11 ⟨st,hst,rfl,IM⟩)
     |(go_at_call 22;refine(Bf _ us _ YL HV.out.2.1 HV.out.2.2.1).mono ?_;rintro e w10 ⟨v2,us2,rfl,hv2,hs2,Fw⟩))
    have U8:=aI (ah U0.out (ah Fw IM));clear Fw IM hv2 hs2 YL;go_upto_region 16 with(go_at_call 23;refine(wW st _ (by omega)).mono ?_;rintro e QD ⟨a5,n5,c5,t5,rfl,Pt,IL⟩)
    obtain⟨NK,Jc,BS,b12,Pe⟩:=xq QD (.cells #[.slice a5 n5 c5,.string t5] 43);rw[<-Jc];obtain⟨p12,IY⟩:=eu QD.heap.size;rw[<-IY]at b12 ⊢;obtain⟨s0,s1⟩:=dM b12;have JD:=aI (ah U8.out (ah IL BS));have UY:=aI BS;have HIS:=aI Pt;clear IL BS Pe IY Jc b12 Pt;cases hos:JG st with
    |false=>
     have hno:=λV=>yO st V (by omega) hos
     have U3:=aI hno;clear hno;go_wp2_with (go_at_call 24;refine(U3.out _).mono ?_;rintro e Qc ⟨rfl,hx24⟩)
     go_ret
     exact⟨rfl,bJ (ah JD.out hx24) _⟩
    |true=>
     obtain⟨rfl,Y8⟩:=HIS.out hos;obtain⟨g1,g2,g3,g4,g5⟩:=Bt hos;have Tw:=Y8.ext UY.out;have uO:=λV (hV:Ext NK V)=>sN _ (jJ t5.size) t5 V (Tw.ext hV) (by omega)
     have Jd:=λV=>pR t5 V g4 g5
     have FH:=λV (hV:Ext NK V)=>pE _ (jJ t5.size) t5 V (Tw.ext hV) (by omega)
     rw[g1,g2]at uO;rw[g1]at FH;simp only[qa g3]at Jd;obtain⟨Y,hY⟩:=eu (aZ.jK (Lb t5));rw[<-hY]at uO;simp only[<-hY]at Jd;simp only[nW]at uO Jd;have U1:=aI uO;have HSV:=aI Jd;have HGT:=aI FH;have hE0:Ext NK NK:=fJ _ _;clear uO Jd FH g1 g2 g3 g4 g5 hY Y8 Tw;go_upto_region 20 with(go_at_call 17;refine(U1.out _ hE0).mono ?_;rintro e Qc ⟨rfl,hx24⟩)
     obtain⟨W13,Jb,hx25,b13,Sg⟩:=xq Qc (.cells #[.int .i64 (bG 16 Y),.int .i64 ((bT 16 Y:Nat):Int)] 34);rw[<-Jb];obtain⟨p13,IX⟩:=eu Qc.heap.size;rw[<-IX]at b13 ⊢;have BU:=ah hx24 hx25;have VO:=jW BU b13;clear hx24 hx25 Sg IX Jb b13 BU hE0;go_upto_region 21 with(go_at_call 25;refine(HSV.out _).mono ?_;rintro e Yp ⟨rfl,IK⟩)
     obtain⟨W14,Ja,hx27,b14,Sd⟩:=xq Yp (.cells #[.int .i64 (bG 16 Y),.int .i64 ((bT 16 Y:Nat):Int)] 34);rw[<-Ja];obtain⟨p14,IW⟩:=eu Yp.heap.size;rw[<-IW]at b14 ⊢;have x8:=ah IK hx27;obtain⟨y14,y15⟩:=dM b14;obtain⟨y12,y13⟩:=dM (kY x8 VO.out.2);have ym:=ah VO.out.1 x8;have s2:=dP ym s0;have s3:=dP ym s1;clear IK hx27 Sd IW Ja b14 x8 s0 s1;go_wp2_with (go_at_call 26;refine(HGT.out _ ym).mono ?_;rintro e w15 ⟨rfl,hx28⟩;have z12:=dP hx28 y12;have z13:=dP hx28 y13;have z14:=dP hx28 y14;have z15:=dP hx28 y15)
     go_ret
     exact⟨rfl,ah JD.out (ah ym hx28)⟩
   |true=>
    obtain⟨rfl,rfl⟩:t=bG 16 X/\p=bT 16 X:=by
     have:=Gw HTN.out.1 HTN.out.2 aea.out.1 (aea.out.2 rfl);rw[<-HXG.out.1]at this;exact this
    go_upto_region 14 with fail
    obtain⟨Wc,hWc⟩:=eu W9;have U0:=aI HX9.out;rw[<-hWc]at U0 ⊢;clear hWc x60 x61 x90 x91;have YL:=HV.out.1.ext U0.out
    go_upto_region 15 with(first
     |(go_at_call 21;refine(xc _ us2 _ hv2 hs2).mono ?_;rintro e w11 ⟨st,hst,rfl,IM⟩)
     |(go_at_call 22;refine(Bf _ us _ YL HV.out.2.1 HV.out.2.2.1).mono ?_;rintro e w10 ⟨v2,us2,rfl,hv2,hs2,Fw⟩))
    have U8:=aI (ah U0.out (ah Fw IM));clear Fw IM hv2 hs2 YL;go_upto_region 16 with(go_at_call 23;refine(wW st _ (by omega)).mono ?_;rintro e QD ⟨a5,n5,c5,t5,rfl,Pt,IL⟩)
    obtain⟨NK,Jc,BS,b12,Pe⟩:=xq QD (.cells #[.slice a5 n5 c5,.string t5] 43);rw[<-Jc];obtain⟨p12,IY⟩:=eu QD.heap.size;rw[<-IY]at b12 ⊢;obtain⟨s0,s1⟩:=dM b12;have JD:=aI (ah U8.out (ah IL BS));have UY:=aI BS;have HIS:=aI Pt;clear IL BS Pe IY Jc b12 Pt;cases hos:JG st with
    |false=>
     have hno:=λV=>yO st V (by omega) hos
     have U3:=aI hno;clear hno;go_wp2_with (go_at_call 24;refine(U3.out _).mono ?_;rintro e Qc ⟨rfl,hx24⟩)
     go_ret
     exact⟨rfl,bJ (ah JD.out hx24) _⟩
    |true=>
     obtain⟨rfl,Y8⟩:=HIS.out hos;obtain⟨g1,g2,g3,g4,g5⟩:=Bt hos;have Tw:=Y8.ext UY.out;have uO:=λV (hV:Ext NK V)=>sN _ (jJ t5.size) t5 V (Tw.ext hV) (by omega)
     have Jd:=λV=>pR t5 V g4 g5
     have FH:=λV (hV:Ext NK V)=>pE _ (jJ t5.size) t5 V (Tw.ext hV) (by omega)
     rw[g1,g2]at uO;rw[g1]at FH;simp only[qa g3]at Jd;obtain⟨Y,hY⟩:=eu (aZ.jK (Lb t5));rw[<-hY]at uO;simp only[<-hY]at Jd;simp only[nW]at uO Jd;have U1:=aI uO;have HSV:=aI Jd;have HGT:=aI FH;have hE0:Ext NK NK:=fJ _ _;clear uO Jd FH g1 g2 g3 g4 g5 hY Y8 Tw;go_upto_region 20 with(go_at_call 17;refine(U1.out _ hE0).mono ?_;rintro e Qc ⟨rfl,hx24⟩)
     obtain⟨W13,Jb,hx25,b13,Sg⟩:=xq Qc (.cells #[.int .i64 (bG 16 Y),.int .i64 ((bT 16 Y:Nat):Int)] 34);rw[<-Jb];obtain⟨p13,IX⟩:=eu Qc.heap.size;rw[<-IX]at b13 ⊢;have BU:=ah hx24 hx25;have VO:=jW BU b13;clear hx24 hx25 Sg IX Jb b13 BU hE0;go_upto_region 21 with(go_at_call 25;refine(HSV.out _).mono ?_;rintro e Yp ⟨rfl,IK⟩)
     obtain⟨W14,Ja,hx27,b14,Sd⟩:=xq Yp (.cells #[.int .i64 (bG 16 Y),.int .i64 ((bT 16 Y:Nat):Int)] 34);rw[<-Ja];obtain⟨p14,IW⟩:=eu Yp.heap.size;rw[<-IW]at b14 ⊢;have x8:=ah IK hx27;obtain⟨y14,y15⟩:=dM b14;obtain⟨y12,y13⟩:=dM (kY x8 VO.out.2);have ym:=ah VO.out.1 x8;have s2:=dP ym s0;have s3:=dP ym s1;clear IK hx27 Sd IW Ja b14 x8 s0 s1;go_wp2_with (go_at_call 26;refine(HGT.out _ ym).mono ?_;rintro e w15 ⟨rfl,hx28⟩;have z12:=dP hx28 y12;have z13:=dP hx28 y13;have z14:=dP hx28 y14;have z15:=dP hx28 y15)
     go_ret
     exact⟨rfl,ah JD.out (ah ym hx28)⟩
end
