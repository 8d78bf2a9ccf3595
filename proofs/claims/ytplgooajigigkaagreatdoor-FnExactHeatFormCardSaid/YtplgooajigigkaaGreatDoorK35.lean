/- 35 -/
import Derived.Test.YtplgooajigigkaaGreatDoorK22
set_option maxRecDepth 100000
set_option maxHeartbeats 4000000
namespace Go.Proofs.YtplgooajigigkaaGreatDoor
open Tryz
open Go.RowKit
open bE (dh Nd Gm vl Same plus)
variable {pp h a:Nat} {s:jF} {w:World} {L O:List Nat} {D:dh} {g0:List Gm} {f:Nat->Gm}
def acG(pp h N:Nat)(s:jF)(a b:Nat)(w:World)(e:Ending)(w':World):Prop:=
 ∃s' j,e=.returned (.int .i64 ((j:Nat):Int))/\j<s'.D.length/\Same (vl s'.D j) (plus (vl s.D a) (vl s.D b))/\CR pp h s w s' w'/\DI w' pp h N s'
def P5(m:Nat):Prop:=∀(pp h N:Nat) (s:jF) (a b:Nat) (w:World),DI w pp h N s->N<=900->a<N->b<N->a+b<m->Calls prog 209 #[.pointer (some ⟨pp,0,none⟩),.int .i64 (a:Int),.int .i64 (b:Int)] w (acG pp h N s a b w)
theorem RP(hP:dA w pp h s):mH pp h s w ((w.alloc (.cells #[] 3)).alloc (.cells #[] 3)) (.slice (some ⟨w.heap.size,0,none⟩) 0 0) (.slice (some ⟨w.heap.size+1,0,none⟩) 0 0) [] []:=by
 have z1:(w.alloc (.cells #[] 3)).heap.size=w.heap.size+1:=fU _ _;have z2:((w.alloc (.cells #[] 3)).alloc (.cells #[] 3)).heap.size=w.heap.size+1+1:=by rw[fU,z1]
 refine⟨(iB w w.heap.size (aJ _) 3).alloc _,?_,?_,?_⟩
 .have:=iB (w.alloc (.cells #[] 3)) w.heap.size (by omega) 3
  rw[z1]at this;exact this
 .intro b hb hc;simp[Value.ownBlock]at hb hc;omega
 .intro b hb
  have:w.heap.size<=b/\b<=w.heap.size+1:=by
   rcases hb with hb|hb
   .simp[Value.ownBlock]at hb;omega
   .simp[Value.ownBlock]at hb;omega
  exact⟨by omega,hP.new this.1⟩
theorem mH.DW{wr wa w2:World}{lv rv:Value}{R:List Nat}{T:Nat->Prop}{A:World->Prop}(m:mH pp h s w wr lv rv L R)(a:oN T A wr)(hT:∀b,T b->s.S b)(hx:Ext wr wa)(hg:wa.grownBy w2 lv.ownBlock):oN T A w2:=
 (a.keep (jR (F:=λ_=>False) hx) (λ_ _=>id)).keep (fP hg) (λb hb hc=>(m.xK b (.inl hc)).2.2 (hT b hb))
theorem D6{D':dh}(h:∃E,D'=D++E)(ha:a<D.length)(ha':a<D'.length):D'[a]=D[a]:=by
 obtain⟨E,rfl⟩:=h;exact dM ha
theorem Ba{k j:Nat}(hk:k<O.length)(h:qD D ((g0++(O.take k).map f)++[f O[k]]) (L++[j])):qD D (g0++(O.take (k+1)).map f) (L++[j]):=by
 rw[bJ hk,dw];rw[dY]at h;exact h
theorem Bb(h:qD D (g0++(O.take O.length).map f) L):qD D (g0++O.map f) L:=by
 rw[dJ (aJ _)]at h;exact h
theorem A9(h:qD D g0 L):qD D (g0++(O.take 0).map f) L:=by
 simpa using h
theorem Bd(hP:dA w pp h s)(ha:a<s.D.length):(s.D[a]).1.length<=a/\(s.D[a]).2.length<=a:=by
 have e1:=qP hP.good (left:=false) (f:=a);have e2:=qP hP.good (left:=true) (f:=a);rw[pU ha]at e1;rw[qU ha]at e2;exact⟨e2,e1⟩
def KU:List Row:=[⟨0,[],26,[0]⟩,⟨1,[0],27,[25]⟩,⟨2,[1],28,[26]⟩,⟨3,[2],29,[27]⟩,⟨4,[],30,[7]⟩,⟨5,[3,4],31,[28,29]⟩,⟨6,[5],25,[30]⟩,⟨7,[6],32,[24]⟩,⟨8,[6],33,[24]⟩,⟨9,[7,0,1,2,3,4,5,6,7],9,[31]⟩,⟨10,[8,9,0,1,2,3,4,5,6,7,8,9],10,[32]⟩]
def R4:List Row:=[⟨0,[],122,[0]⟩,⟨1,[0],123,[121]⟩,⟨2,[1],124,[122]⟩,⟨3,[2],125,[123]⟩,⟨4,[],126,[7]⟩,⟨5,[],127,[20]⟩,⟨6,[3,4,5,0,1,2,3,4,5],0,[124,125,126]⟩]
theorem U8{m:Nat}(ih:P5 m):P5 (m+1):=by
 intro pp h N s a b w hS hN ha hb hm;have hP:=hS.pool;have hle:=hS.le;have XG:a<s.D.length:=by omega
 have hbD:b<s.D.length:=by omega
 obtain⟨i0,hi0,hz0,hz1,hz2⟩:=info_parts iU;have hx1:Ext w (w.alloc (.cells #[.int .i64 (a:Int),.int .i64 (b:Int)] 219)):=by go_grown
 have hkb:(w.alloc (.cells #[.int .i64 (a:Int),.int .i64 (b:Int)] 219)).heap[w.heap.size]?=_:=eu w _;go_enter Tryz.func209,Tryz.ntmps209
 go_upto_region 2 with fail
 have hS1:=hS.ext hx1;generalize w.alloc (.cells #[.int .i64 (a:Int),.int .i64 (b:Int)] 219)=W1 at *;obtain⟨f,hM,hf⟩:=hS1.QL;obtain⟨kl,hkl⟩:=Ou a b (by omega) (by omega);have hlk:=λ(W:World) (hW:W.heap[h+1+1+1]?=W1.heap[h+1+1+1]?)=>(hM.keep hW).look Cw underlying153 (Kq W) hkl true
 have UK:=bQ W1 w.heap.size 0 _ _ _ hkb;have ck1:=bQ W1 w.heap.size 1 _ _ _ hkb;simp only[gE]at UK ck1;have c6:=hS1.pool.c6;have hnb:w.heap.size<W1.drew.heap.size:=bW hkb;have Xa:¬lg pp h s w.heap.size:=λhc=>by have:=hP.uZ hc;omega
 have hh5:h+1+1+1<w.heap.size:=hP.pJ (by omega);have hS0:DI W1.drew pp h N s:=hS1.ext (dQ ⟨1,rfl⟩);have Xl:CR pp h s w s W1.drew:=(jr.refl hP (ah hx1 (dQ ⟨1,rfl⟩))).sm;cases OV:f (.agg #[.int .i64 (a:Int),.int .i64 (b:Int)])with
 |some v=>
  obtain⟨a',b',j,e1,rfl,-,-,hj,hs⟩:=hf _ _ OV;simp only[Value.agg.injEq,Array.mk.injEq,mf,Value.int.injEq,true_and,and_true]at e1;obtain⟨e1,e2⟩:=e1;obtain rfl:a=a':=by omega
  obtain rfl:b=b':=by omega
  simp only[OV,kI,Option.isSome_some,if_true]at hlk;have HJ:=jm hj hs;clear hj hs;refine oJ (λW=>W.cell? ⟨pp,6,none⟩=some (.map (some (h+1+1+1)))/\W.cell? ⟨w.heap.size,0,none⟩=some (.int .i64 (a:Int))/\W.cell? ⟨w.heap.size,1,none⟩=some (.int .i64 (b:Int))/\(Instr.lookup 153 (.map (some (h+1+1+1))) (.agg #[.int .i64 (a:Int),.int .i64 (b:Int)]) true).run prog W=.ok (.tuple #[.int .i64 (j:Int),.bool true]) W) [10] KU ⟨c6,UK,ck1,hlk _ rfl⟩ (λaj ae=>?_);(refine bP 0 aj ae ?_;refine bP 1 aj ae ?_;refine bP 2 aj ae ?_;refine bP 3 aj ae ?_;refine bP 4 aj ae ?_;refine bP 5 aj ae ?_;refine bP 6 aj ae ?_;refine bP 7 aj ae ?_;refine bP 8 aj ae ?_;refine bP 9 aj ae ?_);refine nQ aj [10] [_] ?_;clear aj ae;go_wp2_with fail
  go_ret
  exact⟨s,j,rfl,HJ.out.1,HJ.out.2,Xl,hS0⟩
 |none=>
  simp only[OV,Option.getD_none,Option.isSome_none,if_true]at hlk;refine oJ (λW=>W.cell? ⟨pp,6,none⟩=some (.map (some (h+1+1+1)))/\W.cell? ⟨w.heap.size,0,none⟩=some (.int .i64 (a:Int))/\W.cell? ⟨w.heap.size,1,none⟩=some (.int .i64 (b:Int))/\(Instr.lookup 153 (.map (some (h+1+1+1))) (.agg #[.int .i64 (a:Int),.int .i64 (b:Int)]) true).run prog W=.ok (.tuple #[.int .i64 0,.bool false]) W) [10] KU ⟨c6,UK,ck1,hlk _ rfl⟩ (λaj ae=>?_);(refine bP 0 aj ae ?_;refine bP 1 aj ae ?_;refine bP 2 aj ae ?_;refine bP 3 aj ae ?_;refine bP 4 aj ae ?_;refine bP 5 aj ae ?_;refine bP 6 aj ae ?_;refine bP 7 aj ae ?_;refine bP 8 aj ae ?_;refine bP 9 aj ae ?_);refine nQ aj [10] [_] ?_;clear aj ae hlk hf OV hM f c6;have HKB:Hid (W1.drew.heap[w.heap.size]?=some (.cells #[.int .i64 (a:Int),.int .i64 (b:Int)] 219 (0,0))):=aW hkb;clear UK ck1 hkb hx1 hS1;generalize W1.drew=V0 at *;have hm0:=RP hS0.pool;have hx0:Ext V0 ((V0.alloc (.cells #[] 3)).alloc (.cells #[] 3)):=by go_grown
  have adV:=hS0.ext hx0;have q8:CR pp h s V0 s ((V0.alloc (.cells #[] 3)).alloc (.cells #[] 3)):=(jr.refl hS0.pool hx0).sm;have UC:h+1+1+1<V0.heap.size:=by omega
  have HP0:=aW hS0.pool;have HG0:=jm Xl Xa;have hla:=Bd hP XG;have hlb:=Bd hP hbD;have Ko:=aW (hP.good.wf a _ (af XG));have HWB:=aW (hP.good.wf b _ (af hbD));have zP:=aW hP.good.wf;clear Xl Xa hS0 hS hP;go_upto_region 6 with fail
  generalize (V0.alloc (.cells #[] 3)).alloc (.cells #[] 3)=V1 at *;have hq1:a<s.D.length:=bg XG q8.len;obtain⟨g1,auC,aO1,cO1,yx,atj,alZ,cg1,aaP⟩:=adV.pool.rG hq1;rw[D6 q8.more XG hq1]at cg1 aaP;have aln:=hla.1;have ahE:=Ko.out.1;obtain⟨O1,JF⟩:=fu ((s.D[a]).1);rw[<-JF]at aaP cg1 aln ahE;have anP:=aW JF;clear JF;go_wp2
  go_loopw [10,13,45] (λmv _ ii wr=>∃(k:Nat) (s1:jF) (M:List Nat),k<=O1.length/\ii=.int .i64 ((k:Nat):Int)/\ji s.S wr (.slice aO1 O1.length cO1) O1/\Hid (∀b,s.S b->s1.S b)/\CR pp h s V0 s1 wr/\DI wr pp h N s1/\mH pp h s1 V0 wr mv (.slice (some ⟨V0.heap.size+1,0,none⟩) 0 0) M []/\Hid (qD s1.D ([]++(O1.take k).map (λx=>plus (vl s.D x) (vl s.D b))) M)/\Hid (qD s1.D [] [])) (λ_ _ ii _=>O1.length-(intOf ii).toNat)
  case atStart=>exact⟨0,_,[],aU _,rfl,aaP,aW (λ_ h=>h),q8,adV,hm0,aW (A9 (aW (qD.nil _)).out),(aW (qD.nil _))⟩
  case round=>
   clear q8 adV hm0 aaP yx cg1;obtain⟨k,s2,M1,hk,rfl,sO,Et,ym,Pf,Tq,HL1,HR1⟩:=hrel;have uP:M1.length=([]++(O1.take k).map (λx=>plus (vl s.D x) (vl s.D b))).length:=HL1.out.len;rw[bu,bK,gV]at uP;by_cases hlt:k<O1.length
   .have h1:((k:Nat):Int)<((O1.length:Nat):Int):=by omega
    obtain⟨-,hln,hcl⟩:=ji.at sO;obtain⟨bb,off,rfl,hcell⟩:=hcl (by omega);have hck:=hcell k hlt;have hi1:=ahE _ (ai hlt);obtain⟨aq,cq,rfl,hqc,_⟩:=bT Tq.l;have IH:=aW (ih pp h N s2 O1[k] b wr Pf hN (by omega) (by omega) (by omega));have HS:=aW sO;have hg0:([]:List Gm).length<=100000:=(by simp);obtain⟨kn,hkn⟩:=fu M1.length;have adB:kn<=200000:=(by omega);rw[<-hkn]at hqc ⊢;have Cf:=aW Tq;have Dn:=aW hkn;have hwl:=ym.keep.size;clear hcl hcell sO Tq hkn uP hg0
    go_wp2_with (first
     |(go_at_call 209;refine IH.out.mono ?_;rintro e w2 ⟨s9,j,rfl,hj2,hsy,rV,hSy⟩;have yl:=(Cf.out.go UC rV).l;rw[<-Dn.out]at yl)
     |(at_builtin;refine eO rfl (.tmp 49) (.tmp 54) 41 rfl V0.heap.size 3 i0 (.int .i64 0) 1 8 underlying41 hi0 hz0 hz1 hz2 rfl (by decide) (.slice aq kn cq) kn _ rfl (yl.alloc _) _ 1 _ [.int .i64 (j:Int)] rfl rfl (.inr ⟨_,rfl,fD (dW _ _ _)⟩) one_cell (by unfold maxLen;omega) (by omega) (by rw[fU];have:=rV.keep.size;omega) ?_;intro v5 w5 lq hg5 hl5))
    go_roundw
    case rel=>
     have hm2:=Cf.out.go UC rV;rw[<-Dn.out]at hm2;have IB:=hm2.push (news:=[j]) rV.pool (bY (gz _ _) _) hg5 lq (by simp[Dn.out]) (by rw[lS,dw];rfl) hl5;have hok:O1[k]<s.D.length:=(by omega);have hs3:Same (vl s9.D j) ((λx=>plus (vl s.D x) (vl s.D b)) O1[k]):=by
      have:=hsy;rw[ym.vl zP.out hok,ym.vl zP.out hbD]at this;exact this
     have h3:=(HL1.out.go Pf.pool.good.wf rV).next hj2 hs3;exact⟨k+1,s9,M1++[j],by omega,by go_num,hm2.DW (CR.sup HS.out rV Pf.pool Et.out) (λb hb=>rV.old b (Et.out b hb)) (bY (gz _ _) _) hg5,aW (λb hb=>rV.old b (Et.out b hb)),hm2.side (ym.trans rV) (bY (gz _ _) _) hg5,hSy.side hm2 UC (bY (gz _ _) _) hg5,IB,aW (Ba hlt h3),aW (HR1.out.go Pf.pool.good.wf rV)⟩
    case measure=>simp[intOf];omega
   .have h1:¬(((k:Nat):Int)<((O1.length:Nat):Int)):=by omega
    have hke:k=O1.length:=(by omega);subst hke;have ZA:=aW (Bb HL1.out);obtain⟨wo1,rfl⟩:∃wo:World,wo=wr:=⟨_,rfl⟩;obtain⟨aq1,cq1,rfl,asS,_⟩:=bT Tq.l;clear sO uP HL1 Et;have hq2:b<s2.D.length:=bg hbD ym.len;obtain⟨g2,cap2,aO2,cO2,am8,ati,alY,cg2,aaO⟩:=Pf.pool.rG hq2;rw[D6 ym.more hbD hq2]at cg2 aaO;have alm:=hlb.1;have ahD:=HWB.out.1;obtain⟨O2,hO2⟩:=fu ((s.D[b]).1);rw[<-hO2]at aaO cg2 alm ahD;have anO:=aW hO2;clear hO2;go_wp2
    go_loopw [10,15,65] (λmv _ ii wr=>∃(k:Nat) (s1:jF) (M:List Nat),k<=O2.length/\ii=.int .i64 ((k:Nat):Int)/\ji s2.S wr (.slice aO2 O2.length cO2) O2/\Hid (∀b,s2.S b->s1.S b)/\CR pp h s V0 s1 wr/\DI wr pp h N s1/\mH pp h s1 V0 wr mv (.slice (some ⟨V0.heap.size+1,0,none⟩) 0 0) M []/\Hid (qD s1.D (([]++O1.map (λx=>plus (vl s.D x) (vl s.D b)))++(O2.take k).map (λx=>plus (vl s.D a) (vl s.D x))) M)/\Hid (qD s1.D [] [])) (λ_ _ ii _=>O2.length-(intOf ii).toNat)
    case atStart=>exact⟨0,_,M1,aU _,rfl,aaO,aW (λ_ h=>h),ym,Pf,Tq,aW (A9 ZA.out),HR1⟩
    case round=>
     clear ym Pf Tq aaO am8 cg2;obtain⟨k,s3,M2,hk,rfl,sO,Et,gZ,Pe,Tp,HL2,HR2⟩:=hrel;have uP:M2.length=(([]++O1.map (λx=>plus (vl s.D x) (vl s.D b)))++(O2.take k).map (λx=>plus (vl s.D a) (vl s.D x))).length:=HL2.out.len;rw[bu,bK,gV]at uP;by_cases hlt:k<O2.length
     .have h1:((k:Nat):Int)<((O2.length:Nat):Int):=by omega
      obtain⟨-,hln,hcl⟩:=ji.at sO;obtain⟨bb,off,rfl,hcell⟩:=hcl (by omega);have hck:=hcell k hlt;have hi1:=ahD _ (ai hlt);obtain⟨aq,cq,rfl,hqc,_⟩:=bT Tp.l;have IH:=aW (ih pp h N s3 a O2[k] wr Pe hN (by omega) (by omega) (by omega));have HS:=aW sO;have hg0:(([]++O1.map (λx=>plus (vl s.D x) (vl s.D b))):List Gm).length<=100000:=(by rw[iQ,bK];omega);obtain⟨kn,hkn⟩:=fu M2.length;have adB:kn<=200000:=(by omega);rw[<-hkn]at hqc ⊢;have Cf:=aW Tp;have Dn:=aW hkn;have hwl:=gZ.keep.size;clear hcl hcell sO Tp hkn uP hg0
      go_wp2_with (first
       |(go_at_call 209;refine IH.out.mono ?_;rintro e w2 ⟨s9,j,rfl,hj2,hsy,rV,hSy⟩;have yl:=(Cf.out.go UC rV).l;rw[<-Dn.out]at yl)
       |(at_builtin;refine eO rfl (.tmp 69) (.tmp 74) 41 rfl V0.heap.size 3 i0 (.int .i64 0) 1 8 underlying41 hi0 hz0 hz1 hz2 rfl (by decide) (.slice aq kn cq) kn _ rfl (yl.alloc _) _ 1 _ [.int .i64 (j:Int)] rfl rfl (.inr ⟨_,rfl,fD (dW _ _ _)⟩) one_cell (by unfold maxLen;omega) (by omega) (by rw[fU];have:=rV.keep.size;omega) ?_;intro v5 w5 lq hg5 hl5))
      go_roundw
      case rel=>
       have hm2:=Cf.out.go UC rV;rw[<-Dn.out]at hm2;have IB:=hm2.push (news:=[j]) rV.pool (bY (gz _ _) _) hg5 lq (by simp[Dn.out]) (by rw[lS,dw];rfl) hl5;have hok:O2[k]<s.D.length:=(by omega);have hs3:Same (vl s9.D j) ((λx=>plus (vl s.D a) (vl s.D x)) O2[k]):=by
        have:=hsy;rw[gZ.vl zP.out hok,gZ.vl zP.out XG]at this;exact this
       have h3:=(HL2.out.go Pe.pool.good.wf rV).next hj2 hs3;exact⟨k+1,s9,M2++[j],by omega,by go_num,hm2.DW (CR.sup HS.out rV Pe.pool Et.out) (λb hb=>rV.old b (Et.out b hb)) (bY (gz _ _) _) hg5,aW (λb hb=>rV.old b (Et.out b hb)),hm2.side (gZ.trans rV) (bY (gz _ _) _) hg5,hSy.side hm2 UC (bY (gz _ _) _) hg5,IB,aW (Ba hlt h3),aW (HR2.out.go Pe.pool.good.wf rV)⟩
      case measure=>simp[intOf];omega
     .have h1:¬(((k:Nat):Int)<((O2.length:Nat):Int)):=by omega
      have hke:k=O2.length:=(by omega);subst hke;have HF2:=aW (Bb HL2.out);obtain⟨wo2,rfl⟩:∃wo:World,wo=wr:=⟨_,rfl⟩;obtain⟨aq2,cq2,rfl,asR,_⟩:=bT Tp.l;clear sO uP HL2 Et;have hsw:=Tp.swap;clear Tp;have Ra:=gZ;clear gZ;have hq3:a<s3.D.length:=bg XG Ra.len;obtain⟨g3,auB,aO3,cO3,am7,ath,atf,cg3,aaN⟩:=Pe.pool.qc hq3;rw[D6 Ra.more XG hq3]at cg3 aaN;have alk:=hla.2;have ahC:=Ko.out.2;obtain⟨O3,hO3⟩:=fu ((s.D[a]).2);rw[<-hO3]at aaN cg3 alk ahC;have anN:=aW hO3;clear hO3;go_wp2
      go_loopw [11,17,85] (λmv _ ii wr=>∃(k:Nat) (s1:jF) (M:List Nat),k<=O3.length/\ii=.int .i64 ((k:Nat):Int)/\ji s3.S wr (.slice aO3 O3.length cO3) O3/\Hid (∀b,s3.S b->s1.S b)/\CR pp h s V0 s1 wr/\DI wr pp h N s1/\mH pp h s1 V0 wr mv (.slice aq2 M2.length cq2) M M2/\Hid (qD s1.D ([]++(O3.take k).map (λx=>plus (vl s.D x) (vl s.D b))) M)/\Hid (qD s1.D (([]++O1.map (λx=>plus (vl s.D x) (vl s.D b)))++O2.map (λx=>plus (vl s.D a) (vl s.D x))) M2)) (λ_ _ ii _=>O3.length-(intOf ii).toNat)
      case atStart=>exact⟨0,_,[],aU _,rfl,aaN,aW (λ_ h=>h),Ra,Pe,hsw,aW (A9 HR2.out),HF2⟩
      case round=>
       clear Ra Pe hsw aaN am7 cg3;obtain⟨k,s4,M3,hk,rfl,sO,Et,iq,Pd,Tn,HL3,HR3⟩:=hrel;have uP:M3.length=([]++(O3.take k).map (λx=>plus (vl s.D x) (vl s.D b))).length:=HL3.out.len;rw[bu,bK,gV]at uP;by_cases hlt:k<O3.length
       .have h1:((k:Nat):Int)<((O3.length:Nat):Int):=by omega
        obtain⟨-,hln,hcl⟩:=ji.at sO;obtain⟨bb,off,rfl,hcell⟩:=hcl (by omega);have hck:=hcell k hlt;have hi1:=ahC _ (ai hlt);obtain⟨aq,cq,rfl,hqc,_⟩:=bT Tn.l;have IH:=aW (ih pp h N s4 O3[k] b wr Pd hN (by omega) (by omega) (by omega));have HS:=aW sO;have hg0:([]:List Gm).length<=100000:=(by simp);obtain⟨kn,hkn⟩:=fu M3.length;have adB:kn<=200000:=(by omega);rw[<-hkn]at hqc ⊢;have Cf:=aW Tn;have Dn:=aW hkn;have hwl:=iq.keep.size;clear hcl hcell sO Tn hkn uP hg0
        go_wp2_with (first
         |(go_at_call 209;refine IH.out.mono ?_;rintro e w2 ⟨s9,j,rfl,hj2,hsy,rV,hSy⟩;have yl:=(Cf.out.go UC rV).l;rw[<-Dn.out]at yl)
         |(at_builtin;refine eO rfl (.tmp 89) (.tmp 94) 41 rfl V0.heap.size 3 i0 (.int .i64 0) 1 8 underlying41 hi0 hz0 hz1 hz2 rfl (by decide) (.slice aq kn cq) kn _ rfl (yl.alloc _) _ 1 _ [.int .i64 (j:Int)] rfl rfl (.inr ⟨_,rfl,fD (dW _ _ _)⟩) one_cell (by unfold maxLen;omega) (by omega) (by rw[fU];have:=rV.keep.size;omega) ?_;intro v5 w5 lq hg5 hl5))
        go_roundw
        case rel=>
         have hm2:=Cf.out.go UC rV;rw[<-Dn.out]at hm2;have IB:=hm2.push (news:=[j]) rV.pool (bY (gz _ _) _) hg5 lq (by simp[Dn.out]) (by rw[lS,dw];rfl) hl5;have hok:O3[k]<s.D.length:=(by omega);have hs3:Same (vl s9.D j) ((λx=>plus (vl s.D x) (vl s.D b)) O3[k]):=by
          have:=hsy;rw[iq.vl zP.out hok,iq.vl zP.out hbD]at this;exact this
         have h3:=(HL3.out.go Pd.pool.good.wf rV).next hj2 hs3;exact⟨k+1,s9,M3++[j],by omega,by go_num,hm2.DW (CR.sup HS.out rV Pd.pool Et.out) (λb hb=>rV.old b (Et.out b hb)) (bY (gz _ _) _) hg5,aW (λb hb=>rV.old b (Et.out b hb)),hm2.side (iq.trans rV) (bY (gz _ _) _) hg5,hSy.side hm2 UC (bY (gz _ _) _) hg5,IB,aW (Ba hlt h3),aW (HR3.out.go Pd.pool.good.wf rV)⟩
        case measure=>simp[intOf];omega
       .have h1:¬(((k:Nat):Int)<((O3.length:Nat):Int)):=by omega
        have hke:k=O3.length:=(by omega);subst hke;have HF3:=aW (Bb HL3.out);obtain⟨wo3,rfl⟩:∃wo:World,wo=wr:=⟨_,rfl⟩;obtain⟨aq3,cq3,rfl,asQ,_⟩:=bT Tn.l;clear sO uP HL3 Et;have hq4:b<s4.D.length:=bg hbD iq.len;obtain⟨g4,cap4,aO4,cO4,am6,atg,ate,cg4,aaM⟩:=Pd.pool.qc hq4;rw[D6 iq.more hbD hq4]at cg4 aaM;have alj:=hlb.2;have ahB:=HWB.out.2;obtain⟨O4,hO4⟩:=fu ((s.D[b]).2);rw[<-hO4]at aaM cg4 alj ahB;have anM:=aW hO4;clear hO4;go_wp2
        go_loopw [11,19,105] (λmv _ ii wr=>∃(k:Nat) (s1:jF) (M:List Nat),k<=O4.length/\ii=.int .i64 ((k:Nat):Int)/\ji s4.S wr (.slice aO4 O4.length cO4) O4/\Hid (∀b,s4.S b->s1.S b)/\CR pp h s V0 s1 wr/\DI wr pp h N s1/\mH pp h s1 V0 wr mv (.slice aq2 M2.length cq2) M M2/\Hid (qD s1.D (([]++O3.map (λx=>plus (vl s.D x) (vl s.D b)))++(O4.take k).map (λx=>plus (vl s.D a) (vl s.D x))) M)/\Hid (qD s1.D (([]++O1.map (λx=>plus (vl s.D x) (vl s.D b)))++O2.map (λx=>plus (vl s.D a) (vl s.D x))) M2)) (λ_ _ ii _=>O4.length-(intOf ii).toNat)
        case atStart=>exact⟨0,_,M3,aU _,rfl,aaM,aW (λ_ h=>h),iq,Pd,Tn,aW (A9 HF3.out),HR3⟩
        case round=>
         clear iq Pd Tn aaM am6 cg4;obtain⟨k,s5,M4,hk,rfl,sO,Et,jq,Pb,OO,HL4,HR4⟩:=hrel;have uP:M4.length=(([]++O3.map (λx=>plus (vl s.D x) (vl s.D b)))++(O4.take k).map (λx=>plus (vl s.D a) (vl s.D x))).length:=HL4.out.len;rw[bu,bK,gV]at uP;by_cases hlt:k<O4.length
         .have h1:((k:Nat):Int)<((O4.length:Nat):Int):=by omega
          obtain⟨-,hln,hcl⟩:=ji.at sO;obtain⟨bb,off,rfl,hcell⟩:=hcl (by omega);have hck:=hcell k hlt;have hi1:=ahB _ (ai hlt);obtain⟨aq,cq,rfl,hqc,_⟩:=bT OO.l;have IH:=aW (ih pp h N s5 a O4[k] wr Pb hN (by omega) (by omega) (by omega));have HS:=aW sO;have hg0:(([]++O3.map (λx=>plus (vl s.D x) (vl s.D b))):List Gm).length<=100000:=(by rw[iQ,bK];omega);obtain⟨kn,hkn⟩:=fu M4.length;have adB:kn<=200000:=(by omega);rw[<-hkn]at hqc ⊢;have Cf:=aW OO;have Dn:=aW hkn;have hwl:=jq.keep.size;clear hcl hcell sO OO hkn uP hg0
          go_wp2_with (first
           |(go_at_call 209;refine IH.out.mono ?_;rintro e w2 ⟨s9,j,rfl,hj2,hsy,rV,hSy⟩;have yl:=(Cf.out.go UC rV).l;rw[<-Dn.out]at yl)
           |(at_builtin;refine eO rfl (.tmp 109) (.tmp 114) 41 rfl V0.heap.size 3 i0 (.int .i64 0) 1 8 underlying41 hi0 hz0 hz1 hz2 rfl (by decide) (.slice aq kn cq) kn _ rfl (yl.alloc _) _ 1 _ [.int .i64 (j:Int)] rfl rfl (.inr ⟨_,rfl,fD (dW _ _ _)⟩) one_cell (by unfold maxLen;omega) (by omega) (by rw[fU];have:=rV.keep.size;omega) ?_;intro v5 w5 lq hg5 hl5))
          go_roundw
          case rel=>
           have hm2:=Cf.out.go UC rV;rw[<-Dn.out]at hm2;have IB:=hm2.push (news:=[j]) rV.pool (bY (gz _ _) _) hg5 lq (by simp[Dn.out]) (by rw[lS,dw];rfl) hl5;have hok:O4[k]<s.D.length:=(by omega);have hs3:Same (vl s9.D j) ((λx=>plus (vl s.D a) (vl s.D x)) O4[k]):=by
            have:=hsy;rw[jq.vl zP.out hok,jq.vl zP.out XG]at this;exact this
           have h3:=(HL4.out.go Pb.pool.good.wf rV).next hj2 hs3;exact⟨k+1,s9,M4++[j],by omega,by go_num,hm2.DW (CR.sup HS.out rV Pb.pool Et.out) (λb hb=>rV.old b (Et.out b hb)) (bY (gz _ _) _) hg5,aW (λb hb=>rV.old b (Et.out b hb)),hm2.side (jq.trans rV) (bY (gz _ _) _) hg5,hSy.side hm2 UC (bY (gz _ _) _) hg5,IB,aW (Ba hlt h3),aW (HR4.out.go Pb.pool.good.wf rV)⟩
          case measure=>simp[intOf];omega
         .have h1:¬(((k:Nat):Int)<((O4.length:Nat):Int)):=by omega
          have hke:k=O4.length:=(by omega);subst hke;have HF4:=aW (Bb HL4.out);obtain⟨wo4,rfl⟩:∃wo:World,wo=wr:=⟨_,rfl⟩;obtain⟨aq4,cq4,rfl,asP,_⟩:=bT OO.l;clear sO uP HL4 Et;have hP5:=Pb.pool;have hsm:=Pb.small;have Rf:N*N<=900*900:=pE hN hN;have hroom:s5.D.length+1<=900000:=(by omega);have Ri:M2.length<=200000:=(by have:=HR4.out.len;rw[iQ,bu,bK,bK]at this;omega);have hRl:M4.length<=200000:=(by have:=HF4.out.len;rw[iQ,bu,bK,bK]at this;omega);have hI1:Ints wo4 (.slice aq2 M2.length cq2) (dB M2):=Ints.gm OO.r (by rw[bG];omega);have hI2:Ints wo4 (.slice aq4 M4.length cq4) (dB M4):=Ints.gm OO.l (by rw[bG];omega);have CALL:=aW (qW pp h s5 _ _ M2 M4 wo4 hP5 hroom HR4.out.lt HF4.out.lt (by omega) (by omega) hI1 hI2);clear hI1 hI2 OO hsm hroom Rf;go_upto_region 27 with(go_at_call 125;refine CALL.out.mono ?_;rintro e w6 ⟨s6,i,rfl,uQ,OH,hc6⟩)
          have hsa:Same (vl s6.D i) (plus (vl s.D a) (vl s.D b)):=by
           rw[acW zP.out XG hbD];have e1:=anP.out;have e2:=anO.out;have e3:=anN.out;have e4:=anM.out;have hl:=HR4.out;have hr:=HF4.out;rw[iQ]at hl hr;rw[e1,e2]at hl;rw[e3,e4]at hr;exact VO hP5.good.wf uQ.pool.good.wf hl hr OH
          have Xk:=jq.trans uQ.sm;have ha5:=jq.len;have hS6:=Pb.put uQ OH ha hb (by rw[jq.vl zP.out XG,jq.vl zP.out hbD];exact hsa);have hi6:=OH.lt;obtain⟨f6,hM6,hf6⟩:=hS6.QL;have c66:=hS6.pool.c6;obtain⟨kl6,alL⟩:=Ou a b (by omega) (by omega);have adC:=(Xk.keep.block _ hnb (by
           rintro(c|c)
           .exact HG0.out.2 c
           .omega)).trans HKB.out
          have UK:=bQ w6 w.heap.size 0 _ _ _ adC;have ck1:=bQ w6 w.heap.size 1 _ _ _ adC;simp only[gE]at UK ck1;have Uo:=jm hsa hi6;have HF6:=aW hf6;have HM6:=aW hM6;have hd6:=Xk.len;clear hsa hf6 hc6 OH hi6 hM6;refine oJ (λW=>W.cell? ⟨pp,6,none⟩=some (.map (some (h+1+1+1)))/\W.cell? ⟨w.heap.size,0,none⟩=some (.int .i64 (a:Int))/\W.cell? ⟨w.heap.size,1,none⟩=some (.int .i64 (b:Int))) [6] R4 ⟨c66,UK,ck1⟩ (λaj ae=>?_);(refine bP 0 aj ae ?_;refine bP 1 aj ae ?_;refine bP 2 aj ae ?_;refine bP 3 aj ae ?_;refine bP 4 aj ae ?_;refine bP 5 aj ae ?_);refine nQ aj [6] [_] ?_;clear aj ae;go_wp2_with (at_mapUpdate;refine ku rfl _ _ _ 153 rfl 219 3 Cw underlying153 (h+1+1+1) 810000000000 f6 rfl (HM6.out.keep rfl) (by unfold maxLen;omega) (.agg #[.int .i64 (a:Int),.int .i64 (b:Int)]) (.int .i64 (i:Int)) rfl rfl ⟨kl6,alL⟩ ?_;intro w7 hM7 Rb)
          go_ret
          have hfin:=hS6.store (dQ ⟨1,rfl⟩) HF6.out hM7 Rb (by omega) (by omega) Uo.out.2 (by rw[Xk.vl zP.out XG,Xk.vl zP.out hbD];exact Uo.out.1);exact⟨s6,i,rfl,Uo.out.2,Uo.out.1,HG0.out.1.trans (Xk.trans hfin.2),hfin.1⟩
theorem acZ:∀m,P5 m:=by
 intro m
 induction m with
 |zero=>intro pp h N s a b w _ _ _ _ h;omega
 |succ m ih=>exact U8 ih
theorem VG(pp h N:Nat)(s:jF)(a b:Nat)(w:World)(hS:DI w pp h N s)(hN:N<=900)(ha:a<N)(hb:b<N):Calls prog 209 #[.pointer (some ⟨pp,0,none⟩),.int .i64 (a:Int),.int .i64 (b:Int)] w (acG pp h N s a b w):=
 acZ (a+b+1) pp h N s a b w hS hN ha hb (by omega)
