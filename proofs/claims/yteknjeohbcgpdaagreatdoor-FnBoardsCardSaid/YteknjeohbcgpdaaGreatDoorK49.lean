/-
  Contract of the program's sum: the sum of two games of the pool.
-/
import Derived.Test.YteknjeohbcgpdaaGreatDoorK26
set_option maxRecDepth 100000
namespace Go.Proofs.YteknjeohbcgpdaaGreatDoor
open Tryz
open Go.RowKit
open bO (dH Nd Gm vl Same plus)
variable {pp h a:Nat} {s:iH} {w:World} {L O:List Nat} {D:dH} {g0:List Gm} {f:Nat->Gm}
def abe(pp h N:Nat)(s:iH)(a b:Nat)(w:World)(e:Ending)(w':World):Prop:=
 ∃s' j,e=.returned (.int .i64 ((j:Nat):Int))/\j<s'.D.length/\Same (vl s'.D j) (plus (vl s.D a) (vl s.D b))/\Bb pp h s w s' w'/\Ch w' pp h N s'
def NW(m:Nat):Prop:=∀(pp h N:Nat) (s:iH) (a b:Nat) (w:World),Ch w pp h N s->N<=900->a<N->b<N->a+b<m->Calls prog 106 #[.pointer (some ⟨pp,0,none⟩),.int .i64 (a:Int),.int .i64 (b:Int)] w (abe pp h N s a b w)
theorem PY(hP:dz w pp h s):kY pp h s w ((w.alloc (.cells #[] 3)).alloc (.cells #[] 3)) (.slice (some ⟨w.heap.size,0,none⟩) 0 0) (.slice (some ⟨w.heap.size+1,0,none⟩) 0 0) [] []:=by
 have z1:(w.alloc (.cells #[] 3)).heap.size=w.heap.size+1:=eQ _ _;have z2:((w.alloc (.cells #[] 3)).alloc (.cells #[] 3)).heap.size=w.heap.size+1+1:=by rw[eQ,z1]
 refine⟨(fZ w w.heap.size (ay _) 3).alloc _,?_,?_,?_⟩
 .have:=fZ (w.alloc (.cells #[] 3)) w.heap.size (by omega) 3
  rw[z1]at this;exact this
 .intro b hb hc;simp[Value.ownBlock]at hb hc;omega
 .intro b hb
  have:w.heap.size<=b/\b<=w.heap.size+1:=by
   rcases hb with hb|hb
   .simp[Value.ownBlock]at hb;omega
   .simp[Value.ownBlock]at hb;omega
  exact⟨by omega,hP.new this.1⟩
theorem kY.yQ{wr wa w2:World}{lv rv:Value}{R:List Nat}{T:Nat->Prop}{A:World->Prop}(m:kY pp h s w wr lv rv L R)(a:nN T A wr)(hT:∀b,T b->s.S b)(hx:Ext wr wa)(hg:wa.grownBy w2 lv.ownBlock):nN T A w2:=
 (a.keep (fq (F:=λ_=>False) hx) (λ_ _=>id)).keep (fH hg) (λb hb hc=>(m.wh b (.inl hc)).2.2 (hT b hb))
theorem Cu{D':dH}(h:∃E,D'=D++E)(ha:a<D.length)(ha':a<D'.length):D'[a]=D[a]:=by
 obtain⟨E,rfl⟩:=h;exact dw ha
theorem y8{k j:Nat}(hk:k<O.length)(h:oC D ((g0++(O.take k).map f)++[f O[k]]) (L++[j])):oC D (g0++(O.take (k+1)).map f) (L++[j]):=by
 rw[bg hk,bG];rw[dA]at h;exact h
theorem ze(h:oC D (g0++(O.take O.length).map f) L):oC D (g0++O.map f) L:=by
 rw[bU (ay _)]at h;exact h
theorem y7(h:oC D g0 L):oC D (g0++(O.take 0).map f) L:=by
 simpa using h
theorem zf(hP:dz w pp h s)(ha:a<s.D.length):(s.D[a]).1.length<=a/\(s.D[a]).2.length<=a:=by
 have e1:=oN hP.good (left:=false) (f:=a);have e2:=oN hP.good (left:=true) (f:=a);rw[nJ ha]at e1;rw[oV ha]at e2;exact⟨e2,e1⟩
def Jq:List Row:=[⟨0,[],26,[0]⟩,⟨1,[0],27,[25]⟩,⟨2,[1],28,[26]⟩,⟨3,[2],29,[27]⟩,⟨4,[],30,[7]⟩,⟨5,[3,4],31,[28,29]⟩,⟨6,[5],25,[30]⟩,⟨7,[6],32,[24]⟩,⟨8,[6],33,[24]⟩,⟨9,[7,0,1,2,3,4,5,6,7],9,[31]⟩,⟨10,[8,9,0,1,2,3,4,5,6,7,8,9],10,[32]⟩]
def Qd:List Row:=[⟨0,[],122,[0]⟩,⟨1,[0],123,[121]⟩,⟨2,[1],124,[122]⟩,⟨3,[2],125,[123]⟩,⟨4,[],126,[7]⟩,⟨5,[],127,[20]⟩,⟨6,[3,4,5,0,1,2,3,4,5],0,[124,125,126]⟩]
set_option maxHeartbeats 8000000 in
theorem SV{m:Nat}(ih:NW m):NW (m+1):=by
 intro pp h N s a b w hS hN ha hb hm;have hP:=hS.pool;have hle:=hS.le;have Vr:a<s.D.length:=by omega
 have hbD:b<s.D.length:=by omega
 obtain⟨i0,hi0,hz0,hz1,hz2⟩:=info_parts iw;have hx1:Ext w (w.alloc (.cells #[.int .i64 (a:Int),.int .i64 (b:Int)] 183)):=by go_grown
 have hkb:(w.alloc (.cells #[.int .i64 (a:Int),.int .i64 (b:Int)] 183)).heap[w.heap.size]?=_:=heap_alloc_new w _;go_enter Tryz.func106,Tryz.ntmps106
 go_upto_region 2 with fail
 have hS1:=hS.ext hx1;generalize w.alloc (.cells #[.int .i64 (a:Int),.int .i64 (b:Int)] 183)=W1 at *;obtain⟨f,hM,hf⟩:=hS1.OB;obtain⟨kl,hkl⟩:=MN a b (by omega) (by omega);have hlk:=λ(W:World) (hW:W.heap[h+1+1+1]?=W1.heap[h+1+1+1]?)=>(hM.keep hW).look Aw underlying136 (EX W) hkl true
 have R5:=cell_of_row W1 w.heap.size 0 _ _ _ hkb;have ck1:=cell_of_row W1 w.heap.size 1 _ _ _ hkb;simp only[gE]at R5 ck1;have c6:=hS1.pool.c6;have hnb:w.heap.size<W1.drew.heap.size:=bu hkb;have Lm:¬jN pp h s w.heap.size:=λhc=>by have:=hP.JH hc;omega
 have hh5:h+1+1+1<w.heap.size:=hP.mY (by omega);have hS0:Ch W1.drew pp h N s:=hS1.ext (eU ⟨1,rfl⟩);have Va:Bb pp h s w s W1.drew:=(jK.refl hP (ax hx1 (eU ⟨1,rfl⟩))).sm;cases M9:f (.agg #[.int .i64 (a:Int),.int .i64 (b:Int)])with
 |some v=>
  obtain⟨a',b',j,e1,rfl,-,-,hj,hs⟩:=hf _ _ M9;simp only[Value.agg.injEq,Array.mk.injEq,jQ,Value.int.injEq,true_and,and_true]at e1;obtain⟨e1,e2⟩:=e1;obtain rfl:a=a':=by omega
  obtain rfl:b=b':=by omega
  simp only[M9,bW,Option.isSome_some,if_true]at hlk;have HJ:=aQ (And.intro hj hs);clear hj hs;refine bV (λW=>W.cell? ⟨pp,6,none⟩=some (.map (some (h+1+1+1)))/\W.cell? ⟨w.heap.size,0,none⟩=some (.int .i64 (a:Int))/\W.cell? ⟨w.heap.size,1,none⟩=some (.int .i64 (b:Int))/\(Instr.lookup 136 (.map (some (h+1+1+1))) (.agg #[.int .i64 (a:Int),.int .i64 (b:Int)]) true).run prog W=.ok (.tuple #[.int .i64 (j:Int),.bool true]) W) [10] Jq (by kernel_rfl) ⟨by kernel_rfl,by kernel_rfl,by kernel_rfl⟩ ⟨c6,R5,ck1,hlk _ rfl⟩ (λaz ah=>?_);(refine bT 0 az ah ?_;refine bT 1 az ah ?_;refine bT 2 az ah ?_;refine bT 3 az ah ?_;refine bT 4 az ah ?_;refine bT 5 az ah ?_;refine bT 6 az ah ?_;refine bT 7 az ah ?_;refine bT 8 az ah ?_;refine bT 9 az ah ?_);refine nU az [10] [_] ?_;clear az ah;go_wp2_with fail
  go_ret
  exact⟨s,j,rfl,HJ.out.1,HJ.out.2,Va,hS0⟩
 |none=>
  simp only[M9,Option.getD_none,Option.isSome_none,if_true]at hlk;refine bV (λW=>W.cell? ⟨pp,6,none⟩=some (.map (some (h+1+1+1)))/\W.cell? ⟨w.heap.size,0,none⟩=some (.int .i64 (a:Int))/\W.cell? ⟨w.heap.size,1,none⟩=some (.int .i64 (b:Int))/\(Instr.lookup 136 (.map (some (h+1+1+1))) (.agg #[.int .i64 (a:Int),.int .i64 (b:Int)]) true).run prog W=.ok (.tuple #[.int .i64 0,.bool false]) W) [10] Jq (by kernel_rfl) ⟨by kernel_rfl,by kernel_rfl,by kernel_rfl⟩ ⟨c6,R5,ck1,hlk _ rfl⟩ (λaz ah=>?_);(refine bT 0 az ah ?_;refine bT 1 az ah ?_;refine bT 2 az ah ?_;refine bT 3 az ah ?_;refine bT 4 az ah ?_;refine bT 5 az ah ?_;refine bT 6 az ah ?_;refine bT 7 az ah ?_;refine bT 8 az ah ?_;refine bT 9 az ah ?_);refine nU az [10] [_] ?_;clear az ah hlk hf M9 hM f c6;have HKB:Hid (W1.drew.heap[w.heap.size]?=some (.cells #[.int .i64 (a:Int),.int .i64 (b:Int)] 183 (0,0))):=aQ hkb;clear R5 ck1 hkb hx1 hS1;generalize W1.drew=V0 at *;have hm0:=PY hS0.pool;have hx0:Ext V0 ((V0.alloc (.cells #[] 3)).alloc (.cells #[] 3)):=by go_grown
  have acN:=hS0.ext hx0;have vS:Bb pp h s V0 s ((V0.alloc (.cells #[] 3)).alloc (.cells #[] 3)):=(jK.refl hS0.pool hx0).sm;have RU:h+1+1+1<V0.heap.size:=by omega
  have HP0:=aQ hS0.pool;have HG0:=aQ (And.intro Va Lm);have hla:=zf hP Vr;have hlb:=zf hP hbD;have HWA:=aQ (hP.good.wf a _ (aa Vr));have HWB:=aQ (hP.good.wf b _ (aa hbD));have Gn:=aQ hP.good.wf;clear Va Lm hS0 hS hP;go_upto_region 6 with fail
  generalize (V0.alloc (.cells #[] 3)).alloc (.cells #[] 3)=V1 at *;have hq1:a<s.D.length:=bz Vr vS.len;obtain⟨g1,asB,aO1,cO1,xK,aqM,aj7,cg1,Ze⟩:=acN.pool.rG hq1;rw[Cu vS.more Vr hq1]at cg1 Ze;have ajv:=hla.1;have agf:=HWA.out.1;obtain⟨O1,Lr⟩:∃O,O=(s.D[a]).1:=⟨_,rfl⟩;rw[<-Lr]at Ze cg1 ajv agf;have alX:=aQ Lr;clear Lr;go_wp2
  go_loopw [10,13,45] (λmv _ ii wr=>∃(k:Nat) (s1:iH) (M:List Nat),k<=O1.length/\ii=.int .i64 ((k:Nat):Int)/\kg s.S wr (.slice aO1 O1.length cO1) O1/\Hid (∀b,s.S b->s1.S b)/\Bb pp h s V0 s1 wr/\Ch wr pp h N s1/\kY pp h s1 V0 wr mv (.slice (some ⟨V0.heap.size+1,0,none⟩) 0 0) M []/\Hid (oC s1.D ([]++(O1.take k).map (λx=>plus (vl s.D x) (vl s.D b))) M)/\Hid (oC s1.D [] [])) (λ_ _ ii _=>O1.length-(intOf ii).toNat)
  case atStart=>exact⟨0,_,[],aJ _,rfl,Ze,aQ (λ_ h=>h),vS,acN,hm0,aQ (y7 (aQ (oC.nil _)).out),(aQ (oC.nil _))⟩
  case round=>
   clear vS acN hm0 Ze xK cg1;obtain⟨k,s2,M1,hk,rfl,tu,Ci,vR,Nl,QQ,HL1,HR1⟩:=hrel;have oH:M1.length=([]++(O1.take k).map (λx=>plus (vl s.D x) (vl s.D b))).length:=HL1.out.len;rw[aK,bD,dI]at oH;by_cases hlt:k<O1.length
   .have h1:((k:Nat):Int)<((O1.length:Nat):Int):=by omega
    obtain⟨-,hln,hcl⟩:=kg.at tu;obtain⟨bb,off,rfl,hcell⟩:=hcl (by omega);have hck:=hcell k hlt;have hi1:=agf _ (ai hlt);obtain⟨aq,cq,rfl,hqc,_⟩:=bH QQ.l;have IH:=aQ (ih pp h N s2 O1[k] b wr Nl hN (by omega) (by omega) (by omega));have HS:=aQ tu;have hg0:([]:List Gm).length<=100000:=(by simp);obtain⟨kn,hkn⟩:∃n,n=M1.length:=⟨_,rfl⟩;have acf:kn<=200000:=(by omega);rw[<-hkn]at hqc ⊢;have PM:=aQ QQ;have BX:=aQ hkn;have hwl:=vR.keep.size;clear hcl hcell tu QQ hkn oH hg0
    go_wp2_with (first
     |(go_at_call 106;refine IH.out.mono ?_;rintro e w2 ⟨s9,j,rfl,hj2,hsy,p9,hSy⟩;have vQ:=(PM.out.go RU p9).l;rw[<-BX.out]at vQ)
     |(at_builtin;refine dC rfl (.tmp 49) (.tmp 54) 80 rfl V0.heap.size 3 i0 (.int .i64 0) 1 8 underlying80 hi0 hz0 hz1 hz2 rfl (by decide) (.slice aq kn cq) kn _ rfl (vQ.alloc _) _ 1 _ [.int .i64 (j:Int)] rfl rfl (.inr ⟨_,rfl,dJ (dh _ _ _)⟩) one_cell (by unfold maxLen;omega) (by omega) (by rw[eQ];have:=p9.keep.size;omega) ?_;intro v5 w5 iT hg5 hl5))
    go_roundw
    case rel=>
     have hm2:=PM.out.go RU p9;rw[<-BX.out]at hm2;have Kj:=hm2.push (news:=[j]) p9.pool (bS (Below.refl _ _) _) hg5 iT (by simp[BX.out]) (by rw[kT,bG];rfl) hl5;have hok:O1[k]<s.D.length:=(by omega);have hs3:Same (vl s9.D j) ((λx=>plus (vl s.D x) (vl s.D b)) O1[k]):=by
      have:=hsy;rw[vR.vl Gn.out hok,vR.vl Gn.out hbD]at this;exact this
     have h3:=(HL1.out.go Nl.pool.good.wf p9).next hj2 hs3;exact⟨k+1,s9,M1++[j],by omega,by go_num,hm2.yQ (Bb.sup HS.out p9 Nl.pool Ci.out) (λb hb=>p9.old b (Ci.out b hb)) (bS (Below.refl _ _) _) hg5,aQ (λb hb=>p9.old b (Ci.out b hb)),hm2.side (vR.trans p9) (bS (Below.refl _ _) _) hg5,hSy.side hm2 RU (bS (Below.refl _ _) _) hg5,Kj,aQ (y8 hlt h3),aQ (HR1.out.go Nl.pool.good.wf p9)⟩
    case measure=>simp[intOf];omega
   .have h1:¬(((k:Nat):Int)<((O1.length:Nat):Int)):=by omega
    have hke:k=O1.length:=(by omega);subst hke;have HF1:=aQ (ze HL1.out);obtain⟨wo1,rfl⟩:∃wo:World,wo=wr:=⟨_,rfl⟩;obtain⟨aq1,cq1,rfl,aqh,_⟩:=bH QQ.l;clear tu oH HL1 Ci;have hq2:b<s2.D.length:=bz hbD vR.len;obtain⟨g2,cap2,aO2,cO2,ala,aqL,aj6,cg2,Zd⟩:=Nl.pool.rG hq2;rw[Cu vR.more hbD hq2]at cg2 Zd;have ae9:=hlb.1;have age:=HWB.out.1;obtain⟨O2,hO2⟩:∃O,O=(s.D[b]).1:=⟨_,rfl⟩;rw[<-hO2]at Zd cg2 ae9 age;have alW:=aQ hO2;clear hO2;go_wp2
    go_loopw [10,15,65] (λmv _ ii wr=>∃(k:Nat) (s1:iH) (M:List Nat),k<=O2.length/\ii=.int .i64 ((k:Nat):Int)/\kg s2.S wr (.slice aO2 O2.length cO2) O2/\Hid (∀b,s2.S b->s1.S b)/\Bb pp h s V0 s1 wr/\Ch wr pp h N s1/\kY pp h s1 V0 wr mv (.slice (some ⟨V0.heap.size+1,0,none⟩) 0 0) M []/\Hid (oC s1.D (([]++O1.map (λx=>plus (vl s.D x) (vl s.D b)))++(O2.take k).map (λx=>plus (vl s.D a) (vl s.D x))) M)/\Hid (oC s1.D [] [])) (λ_ _ ii _=>O2.length-(intOf ii).toNat)
    case atStart=>exact⟨0,_,M1,aJ _,rfl,Zd,aQ (λ_ h=>h),vR,Nl,QQ,aQ (y7 HF1.out),HR1⟩
    case round=>
     clear vR Nl QQ Zd ala cg2;obtain⟨k,s3,M2,hk,rfl,tu,Ci,ib,Nk,QP,HL2,HR2⟩:=hrel;have oH:M2.length=(([]++O1.map (λx=>plus (vl s.D x) (vl s.D b)))++(O2.take k).map (λx=>plus (vl s.D a) (vl s.D x))).length:=HL2.out.len;rw[aK,bD,dI]at oH;by_cases hlt:k<O2.length
     .have h1:((k:Nat):Int)<((O2.length:Nat):Int):=by omega
      obtain⟨-,hln,hcl⟩:=kg.at tu;obtain⟨bb,off,rfl,hcell⟩:=hcl (by omega);have hck:=hcell k hlt;have hi1:=age _ (ai hlt);obtain⟨aq,cq,rfl,hqc,_⟩:=bH QP.l;have IH:=aQ (ih pp h N s3 a O2[k] wr Nk hN (by omega) (by omega) (by omega));have HS:=aQ tu;have hg0:(([]++O1.map (λx=>plus (vl s.D x) (vl s.D b))):List Gm).length<=100000:=(by rw[gI,bD];omega);obtain⟨kn,hkn⟩:∃n,n=M2.length:=⟨_,rfl⟩;have acf:kn<=200000:=(by omega);rw[<-hkn]at hqc ⊢;have PM:=aQ QP;have BX:=aQ hkn;have hwl:=ib.keep.size;clear hcl hcell tu QP hkn oH hg0
      go_wp2_with (first
       |(go_at_call 106;refine IH.out.mono ?_;rintro e w2 ⟨s9,j,rfl,hj2,hsy,p9,hSy⟩;have vQ:=(PM.out.go RU p9).l;rw[<-BX.out]at vQ)
       |(at_builtin;refine dC rfl (.tmp 69) (.tmp 74) 80 rfl V0.heap.size 3 i0 (.int .i64 0) 1 8 underlying80 hi0 hz0 hz1 hz2 rfl (by decide) (.slice aq kn cq) kn _ rfl (vQ.alloc _) _ 1 _ [.int .i64 (j:Int)] rfl rfl (.inr ⟨_,rfl,dJ (dh _ _ _)⟩) one_cell (by unfold maxLen;omega) (by omega) (by rw[eQ];have:=p9.keep.size;omega) ?_;intro v5 w5 iT hg5 hl5))
      go_roundw
      case rel=>
       have hm2:=PM.out.go RU p9;rw[<-BX.out]at hm2;have Kj:=hm2.push (news:=[j]) p9.pool (bS (Below.refl _ _) _) hg5 iT (by simp[BX.out]) (by rw[kT,bG];rfl) hl5;have hok:O2[k]<s.D.length:=(by omega);have hs3:Same (vl s9.D j) ((λx=>plus (vl s.D a) (vl s.D x)) O2[k]):=by
        have:=hsy;rw[ib.vl Gn.out hok,ib.vl Gn.out Vr]at this;exact this
       have h3:=(HL2.out.go Nk.pool.good.wf p9).next hj2 hs3;exact⟨k+1,s9,M2++[j],by omega,by go_num,hm2.yQ (Bb.sup HS.out p9 Nk.pool Ci.out) (λb hb=>p9.old b (Ci.out b hb)) (bS (Below.refl _ _) _) hg5,aQ (λb hb=>p9.old b (Ci.out b hb)),hm2.side (ib.trans p9) (bS (Below.refl _ _) _) hg5,hSy.side hm2 RU (bS (Below.refl _ _) _) hg5,Kj,aQ (y8 hlt h3),aQ (HR2.out.go Nk.pool.good.wf p9)⟩
      case measure=>simp[intOf];omega
     .have h1:¬(((k:Nat):Int)<((O2.length:Nat):Int)):=by omega
      have hke:k=O2.length:=(by omega);subst hke;have HF2:=aQ (ze HL2.out);obtain⟨wo2,rfl⟩:∃wo:World,wo=wr:=⟨_,rfl⟩;obtain⟨aq2,cq2,rfl,aqg,_⟩:=bH QP.l;clear tu oH HL2 Ci;have hsw:=QP.swap;clear QP;have O6:=ib;clear ib;have hq3:a<s3.D.length:=bz Vr O6.len;obtain⟨g3,asA,aO3,cO3,ak9,aqK,aqI,cg3,Zc⟩:=Nk.pool.pV hq3;rw[Cu O6.more Vr hq3]at cg3 Zc;have aju:=hla.2;have agd:=HWA.out.2;obtain⟨O3,hO3⟩:∃O,O=(s.D[a]).2:=⟨_,rfl⟩;rw[<-hO3]at Zc cg3 aju agd;have alV:=aQ hO3;clear hO3;go_wp2
      go_loopw [11,17,85] (λmv _ ii wr=>∃(k:Nat) (s1:iH) (M:List Nat),k<=O3.length/\ii=.int .i64 ((k:Nat):Int)/\kg s3.S wr (.slice aO3 O3.length cO3) O3/\Hid (∀b,s3.S b->s1.S b)/\Bb pp h s V0 s1 wr/\Ch wr pp h N s1/\kY pp h s1 V0 wr mv (.slice aq2 M2.length cq2) M M2/\Hid (oC s1.D ([]++(O3.take k).map (λx=>plus (vl s.D x) (vl s.D b))) M)/\Hid (oC s1.D (([]++O1.map (λx=>plus (vl s.D x) (vl s.D b)))++O2.map (λx=>plus (vl s.D a) (vl s.D x))) M2)) (λ_ _ ii _=>O3.length-(intOf ii).toNat)
      case atStart=>exact⟨0,_,[],aJ _,rfl,Zc,aQ (λ_ h=>h),O6,Nk,hsw,aQ (y7 HR2.out),HF2⟩
      case round=>
       clear O6 Nk hsw Zc ak9 cg3;obtain⟨k,s4,M3,hk,rfl,tu,Ci,iU,Nj,QO,HL3,HR3⟩:=hrel;have oH:M3.length=([]++(O3.take k).map (λx=>plus (vl s.D x) (vl s.D b))).length:=HL3.out.len;rw[aK,bD,dI]at oH;by_cases hlt:k<O3.length
       .have h1:((k:Nat):Int)<((O3.length:Nat):Int):=by omega
        obtain⟨-,hln,hcl⟩:=kg.at tu;obtain⟨bb,off,rfl,hcell⟩:=hcl (by omega);have hck:=hcell k hlt;have hi1:=agd _ (ai hlt);obtain⟨aq,cq,rfl,hqc,_⟩:=bH QO.l;have IH:=aQ (ih pp h N s4 O3[k] b wr Nj hN (by omega) (by omega) (by omega));have HS:=aQ tu;have hg0:([]:List Gm).length<=100000:=(by simp);obtain⟨kn,hkn⟩:∃n,n=M3.length:=⟨_,rfl⟩;have acf:kn<=200000:=(by omega);rw[<-hkn]at hqc ⊢;have PM:=aQ QO;have BX:=aQ hkn;have hwl:=iU.keep.size;clear hcl hcell tu QO hkn oH hg0
        go_wp2_with (first
         |(go_at_call 106;refine IH.out.mono ?_;rintro e w2 ⟨s9,j,rfl,hj2,hsy,p9,hSy⟩;have vQ:=(PM.out.go RU p9).l;rw[<-BX.out]at vQ)
         |(at_builtin;refine dC rfl (.tmp 89) (.tmp 94) 80 rfl V0.heap.size 3 i0 (.int .i64 0) 1 8 underlying80 hi0 hz0 hz1 hz2 rfl (by decide) (.slice aq kn cq) kn _ rfl (vQ.alloc _) _ 1 _ [.int .i64 (j:Int)] rfl rfl (.inr ⟨_,rfl,dJ (dh _ _ _)⟩) one_cell (by unfold maxLen;omega) (by omega) (by rw[eQ];have:=p9.keep.size;omega) ?_;intro v5 w5 iT hg5 hl5))
        go_roundw
        case rel=>
         have hm2:=PM.out.go RU p9;rw[<-BX.out]at hm2;have Kj:=hm2.push (news:=[j]) p9.pool (bS (Below.refl _ _) _) hg5 iT (by simp[BX.out]) (by rw[kT,bG];rfl) hl5;have hok:O3[k]<s.D.length:=(by omega);have hs3:Same (vl s9.D j) ((λx=>plus (vl s.D x) (vl s.D b)) O3[k]):=by
          have:=hsy;rw[iU.vl Gn.out hok,iU.vl Gn.out hbD]at this;exact this
         have h3:=(HL3.out.go Nj.pool.good.wf p9).next hj2 hs3;exact⟨k+1,s9,M3++[j],by omega,by go_num,hm2.yQ (Bb.sup HS.out p9 Nj.pool Ci.out) (λb hb=>p9.old b (Ci.out b hb)) (bS (Below.refl _ _) _) hg5,aQ (λb hb=>p9.old b (Ci.out b hb)),hm2.side (iU.trans p9) (bS (Below.refl _ _) _) hg5,hSy.side hm2 RU (bS (Below.refl _ _) _) hg5,Kj,aQ (y8 hlt h3),aQ (HR3.out.go Nj.pool.good.wf p9)⟩
        case measure=>simp[intOf];omega
       .have h1:¬(((k:Nat):Int)<((O3.length:Nat):Int)):=by omega
        have hke:k=O3.length:=(by omega);subst hke;have HF3:=aQ (ze HL3.out);obtain⟨wo3,rfl⟩:∃wo:World,wo=wr:=⟨_,rfl⟩;obtain⟨aq3,cq3,rfl,aqf,_⟩:=bH QO.l;clear tu oH HL3 Ci;have hq4:b<s4.D.length:=bz hbD iU.len;obtain⟨g4,cap4,aO4,cO4,ak8,aqJ,aqH,cg4,Zb⟩:=Nj.pool.pV hq4;rw[Cu iU.more hbD hq4]at cg4 Zb;have ae8:=hlb.2;have agc:=HWB.out.2;obtain⟨O4,hO4⟩:∃O,O=(s.D[b]).2:=⟨_,rfl⟩;rw[<-hO4]at Zb cg4 ae8 agc;have alU:=aQ hO4;clear hO4;go_wp2
        go_loopw [11,19,105] (λmv _ ii wr=>∃(k:Nat) (s1:iH) (M:List Nat),k<=O4.length/\ii=.int .i64 ((k:Nat):Int)/\kg s4.S wr (.slice aO4 O4.length cO4) O4/\Hid (∀b,s4.S b->s1.S b)/\Bb pp h s V0 s1 wr/\Ch wr pp h N s1/\kY pp h s1 V0 wr mv (.slice aq2 M2.length cq2) M M2/\Hid (oC s1.D (([]++O3.map (λx=>plus (vl s.D x) (vl s.D b)))++(O4.take k).map (λx=>plus (vl s.D a) (vl s.D x))) M)/\Hid (oC s1.D (([]++O1.map (λx=>plus (vl s.D x) (vl s.D b)))++O2.map (λx=>plus (vl s.D a) (vl s.D x))) M2)) (λ_ _ ii _=>O4.length-(intOf ii).toNat)
        case atStart=>exact⟨0,_,M3,aJ _,rfl,Zb,aQ (λ_ h=>h),iU,Nj,QO,aQ (y7 HF3.out),HR3⟩
        case round=>
         clear iU Nj QO Zb ak8 cg4;obtain⟨k,s5,M4,hk,rfl,tu,Ci,kz,Ni,MX,HL4,HR4⟩:=hrel;have oH:M4.length=(([]++O3.map (λx=>plus (vl s.D x) (vl s.D b)))++(O4.take k).map (λx=>plus (vl s.D a) (vl s.D x))).length:=HL4.out.len;rw[aK,bD,dI]at oH;by_cases hlt:k<O4.length
         .have h1:((k:Nat):Int)<((O4.length:Nat):Int):=by omega
          obtain⟨-,hln,hcl⟩:=kg.at tu;obtain⟨bb,off,rfl,hcell⟩:=hcl (by omega);have hck:=hcell k hlt;have hi1:=agc _ (ai hlt);obtain⟨aq,cq,rfl,hqc,_⟩:=bH MX.l;have IH:=aQ (ih pp h N s5 a O4[k] wr Ni hN (by omega) (by omega) (by omega));have HS:=aQ tu;have hg0:(([]++O3.map (λx=>plus (vl s.D x) (vl s.D b))):List Gm).length<=100000:=(by rw[gI,bD];omega);obtain⟨kn,hkn⟩:∃n,n=M4.length:=⟨_,rfl⟩;have acf:kn<=200000:=(by omega);rw[<-hkn]at hqc ⊢;have PM:=aQ MX;have BX:=aQ hkn;have hwl:=kz.keep.size;clear hcl hcell tu MX hkn oH hg0
          go_wp2_with (first
           |(go_at_call 106;refine IH.out.mono ?_;rintro e w2 ⟨s9,j,rfl,hj2,hsy,p9,hSy⟩;have vQ:=(PM.out.go RU p9).l;rw[<-BX.out]at vQ)
           |(at_builtin;refine dC rfl (.tmp 109) (.tmp 114) 80 rfl V0.heap.size 3 i0 (.int .i64 0) 1 8 underlying80 hi0 hz0 hz1 hz2 rfl (by decide) (.slice aq kn cq) kn _ rfl (vQ.alloc _) _ 1 _ [.int .i64 (j:Int)] rfl rfl (.inr ⟨_,rfl,dJ (dh _ _ _)⟩) one_cell (by unfold maxLen;omega) (by omega) (by rw[eQ];have:=p9.keep.size;omega) ?_;intro v5 w5 iT hg5 hl5))
          go_roundw
          case rel=>
           have hm2:=PM.out.go RU p9;rw[<-BX.out]at hm2;have Kj:=hm2.push (news:=[j]) p9.pool (bS (Below.refl _ _) _) hg5 iT (by simp[BX.out]) (by rw[kT,bG];rfl) hl5;have hok:O4[k]<s.D.length:=(by omega);have hs3:Same (vl s9.D j) ((λx=>plus (vl s.D a) (vl s.D x)) O4[k]):=by
            have:=hsy;rw[kz.vl Gn.out hok,kz.vl Gn.out Vr]at this;exact this
           have h3:=(HL4.out.go Ni.pool.good.wf p9).next hj2 hs3;exact⟨k+1,s9,M4++[j],by omega,by go_num,hm2.yQ (Bb.sup HS.out p9 Ni.pool Ci.out) (λb hb=>p9.old b (Ci.out b hb)) (bS (Below.refl _ _) _) hg5,aQ (λb hb=>p9.old b (Ci.out b hb)),hm2.side (kz.trans p9) (bS (Below.refl _ _) _) hg5,hSy.side hm2 RU (bS (Below.refl _ _) _) hg5,Kj,aQ (y8 hlt h3),aQ (HR4.out.go Ni.pool.good.wf p9)⟩
          case measure=>simp[intOf];omega
         .have h1:¬(((k:Nat):Int)<((O4.length:Nat):Int)):=by omega
          have hke:k=O4.length:=(by omega);subst hke;have HF4:=aQ (ze HL4.out);obtain⟨wo4,rfl⟩:∃wo:World,wo=wr:=⟨_,rfl⟩;obtain⟨aq4,cq4,rfl,aqe,_⟩:=bH MX.l;clear tu oH HL4 Ci;have Hm:=Ni.pool;have hsm:=Ni.small;have hNN:N*N<=900*900:=gu hN hN;have hroom:s5.D.length+1<=900000:=(by omega);have VA:M2.length<=200000:=(by have:=HR4.out.len;rw[gI,aK,bD,bD]at this;omega);have hRl:M4.length<=200000:=(by have:=HF4.out.len;rw[gI,aK,bD,bD]at this;omega);have hI1:Ints wo4 (.slice aq2 M2.length cq2) (dD M2):=Ints.eD MX.r (by rw[bJ];omega);have hI2:Ints wo4 (.slice aq4 M4.length cq4) (dD M4):=Ints.eD MX.l (by rw[bJ];omega);have CALL:=aQ (zk pp h s5 _ _ M2 M4 wo4 Hm hroom HR4.out.lt HF4.out.lt (by omega) (by omega) hI1 hI2);clear hI1 hI2 MX hsm hroom hNN;go_upto_region 27 with(go_at_call 119;refine CALL.out.mono ?_;rintro e w6 ⟨s6,i,rfl,xI,hp6,hc6⟩)
          have hsa:Same (vl s6.D i) (plus (vl s.D a) (vl s.D b)):=by
           rw[abu Gn.out Vr hbD];have e1:=alX.out;have e2:=alW.out;have e3:=alV.out;have e4:=alU.out;have hl:=HR4.out;have hr:=HF4.out;rw[gI]at hl hr;rw[e1,e2]at hl;rw[e3,e4]at hr;exact TR Hm.good.wf xI.pool.good.wf hl hr hp6
          have U9:=kz.trans xI.sm;have ha5:=kz.len;have hS6:=Ni.put xI hp6 ha hb (by rw[kz.vl Gn.out Vr,kz.vl Gn.out hbD];exact hsa);have hi6:=hp6.lt;obtain⟨f6,hM6,hf6⟩:=hS6.OB;have c66:=hS6.pool.c6;obtain⟨kl6,ajT⟩:=MN a b (by omega) (by omega);have ach:=(U9.keep.block _ hnb (by
           rintro(c|c)
           .exact HG0.out.2 c
           .omega)).trans HKB.out
          have R5:=cell_of_row w6 w.heap.size 0 _ _ _ ach;have ck1:=cell_of_row w6 w.heap.size 1 _ _ _ ach;simp only[gE]at R5 ck1;have HSA:=aQ (And.intro hsa hi6);have HF6:=aQ hf6;have HM6:=aQ hM6;have hd6:=U9.len;clear hsa hf6 hc6 hp6 hi6 hM6;refine bV (λW=>W.cell? ⟨pp,6,none⟩=some (.map (some (h+1+1+1)))/\W.cell? ⟨w.heap.size,0,none⟩=some (.int .i64 (a:Int))/\W.cell? ⟨w.heap.size,1,none⟩=some (.int .i64 (b:Int))) [6] Qd (by kernel_rfl) ⟨by kernel_rfl,by kernel_rfl,by kernel_rfl⟩ ⟨c66,R5,ck1⟩ (λaz ah=>?_);(refine bT 0 az ah ?_;refine bT 1 az ah ?_;refine bT 2 az ah ?_;refine bT 3 az ah ?_;refine bT 4 az ah ?_;refine bT 5 az ah ?_);refine nU az [6] [_] ?_;clear az ah;go_wp2_with (at_mapUpdate;refine iK rfl _ _ _ 136 rfl 183 3 Aw underlying136 (h+1+1+1) 810000000000 f6 rfl (HM6.out.keep rfl) (by unfold maxLen;omega) (.agg #[.int .i64 (a:Int),.int .i64 (b:Int)]) (.int .i64 (i:Int)) rfl rfl ⟨kl6,ajT⟩ ?_;intro w7 hM7 DR)
          go_ret
          have hfin:=hS6.store (eU ⟨1,rfl⟩) HF6.out hM7 DR (by omega) (by omega) HSA.out.2 (by rw[U9.vl Gn.out Vr,U9.vl Gn.out hbD];exact HSA.out.1);exact⟨s6,i,rfl,HSA.out.2,HSA.out.1,HG0.out.1.trans (U9.trans hfin.2),hfin.1⟩
theorem abz:∀m,NW m:=by
 intro m
 induction m with
 |zero=>intro pp h N s a b w _ _ _ _ h;omega
 |succ m ih=>exact SV ih
theorem TH(pp h N:Nat)(s:iH)(a b:Nat)(w:World)(hS:Ch w pp h N s)(hN:N<=900)(ha:a<N)(hb:b<N):Calls prog 106 #[.pointer (some ⟨pp,0,none⟩),.int .i64 (a:Int),.int .i64 (b:Int)] w (abe pp h N s a b w):=
 abz (a+b+1) pp h N s a b w hS hN ha hb (by omega)
end Go.Proofs.YteknjeohbcgpdaaGreatDoor