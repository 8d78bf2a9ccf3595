/-
  Contract of the program's sum: the sum of two games of the pool.
-/
import Derived.Test.YteknjeohbcgpdaaGreatDoorK31
set_option maxRecDepth 100000
namespace Go.Proofs.YteknjeohbcgpdaaGreatDoor
open Tryz
open Go.RowKit
open bz (dC Nd Gm vl Same plus)
variable {pp h a:Nat} {s:iQ} {w:World} {L O:List Nat} {D:dC} {g0:List Gm} {f:Nat->Gm}
def Yd(pp h N:Nat)(s:iQ)(a b:Nat)(w:World)(e:Ending)(w':World):Prop:=
 ∃s' j,e=.returned (.int .i64 ((j:Nat):Int))/\j<s'.D.length/\Same (vl s'.D j) (plus (vl s.D a) (vl s.D b))/\Ag pp h s w s' w'/\Bq w' pp h N s'
def MI(m:Nat):Prop:=∀(pp h N:Nat) (s:iQ) (a b:Nat) (w:World),Bq w pp h N s->N<=900->a<N->b<N->a+b<m->Calls prog 106 #[.pointer (some ⟨pp,0,none⟩),.int .i64 (a:Int),.int .i64 (b:Int)] w (Yd pp h N s a b w)
theorem Om(hP:dm w pp h s):lu pp h s w ((w.alloc (.cells #[] 3)).alloc (.cells #[] 3)) (.slice (some ⟨w.heap.size,0,none⟩) 0 0) (.slice (some ⟨w.heap.size+1,0,none⟩) 0 0) [] []:=by
 have z1:(w.alloc (.cells #[] 3)).heap.size=w.heap.size+1:=fw _ _;have z2:((w.alloc (.cells #[] 3)).alloc (.cells #[] 3)).heap.size=w.heap.size+1+1:=by rw[fw,z1]
 refine⟨(fC w w.heap.size (ai _) 3).alloc _,?_,?_,?_⟩
 .have:=fC (w.alloc (.cells #[] 3)) w.heap.size (by omega) 3
  rw[z1]at this;exact this
 .intro b hb hc;simp[Value.ownBlock]at hb hc;omega
 .intro b hb
  have:w.heap.size<=b/\b<=w.heap.size+1:=by
   rcases hb with hb|hb
   .simp[Value.ownBlock]at hb;omega
   .simp[Value.ownBlock]at hb;omega
  exact⟨by omega,hP.new this.1⟩
theorem lu.yj{wr wa w2:World}{lv rv:Value}{R:List Nat}{T:Nat->Prop}{A:World->Prop}(m:lu pp h s w wr lv rv L R)(a:oP T A wr)(hT:∀b,T b->s.S b)(hx:Ext wr wa)(hg:wa.grownBy w2 lv.ownBlock):oP T A w2:=
 (a.keep (fV (F:=λ_=>False) hx) (λ_ _=>id)).keep (fD hg) (λb hb hc=>(m.uW b (.inl hc)).2.2 (hT b hb))
theorem BC{D':dC}(h:∃E,D'=D++E)(ha:a<D.length)(ha':a<D'.length):D'[a]=D[a]:=by
 obtain⟨E,rfl⟩:=h;exact dM ha
theorem yC{k j:Nat}(hk:k<O.length)(h:oo D ((g0++(O.take k).map f)++[f O[k]]) (L++[j])):oo D (g0++(O.take (k+1)).map f) (L++[j]):=by
 rw[bg hk,aU];rw[bY]at h;exact h
theorem yD(h:oo D (g0++(O.take O.length).map f) L):oo D (g0++O.map f) L:=by
 rw[cO (ai _)]at h;exact h
theorem yB(h:oo D g0 L):oo D (g0++(O.take 0).map f) L:=by
 simpa using h
theorem yE(hP:dm w pp h s)(ha:a<s.D.length):(s.D[a]).1.length<=a/\(s.D[a]).2.length<=a:=by
 have e1:=oK hP.good (left:=false) (f:=a);have e2:=oK hP.good (left:=true) (f:=a);rw[nK ha]at e1;rw[oU ha]at e2;exact⟨e2,e1⟩
def Iy:List Row:=[⟨0,[],26,[0]⟩,⟨1,[0],27,[25]⟩,⟨2,[1],28,[26]⟩,⟨3,[2],29,[27]⟩,⟨4,[],30,[7]⟩,⟨5,[3,4],31,[28,29]⟩,⟨6,[5],25,[30]⟩,⟨7,[6],32,[24]⟩,⟨8,[6],33,[24]⟩,⟨9,[7,0,1,2,3,4,5,6,7],9,[31]⟩,⟨10,[8,9,0,1,2,3,4,5,6,7,8,9],10,[32]⟩]
def OB:List Row:=[⟨0,[],122,[0]⟩,⟨1,[0],123,[121]⟩,⟨2,[1],124,[122]⟩,⟨3,[2],125,[123]⟩,⟨4,[],126,[7]⟩,⟨5,[],127,[20]⟩,⟨6,[3,4,5,0,1,2,3,4,5],0,[124,125,126]⟩]
set_option maxHeartbeats 8000000 in
theorem QQ{m:Nat}(ih:MI m):MI (m+1):=by
 intro pp h N s a b w hS hN ha hb hm;have hP:=hS.pool;have hle:=hS.le;have Tv:a<s.D.length:=by omega
 have hbD:b<s.D.length:=by omega
 obtain⟨i0,hi0,hz0,hz1,hz2⟩:=info_parts iy;have hx1:Ext w (w.alloc (.cells #[.int .i64 (a:Int),.int .i64 (b:Int)] 183)):=by go_grown
 have hkb:(w.alloc (.cells #[.int .i64 (a:Int),.int .i64 (b:Int)] 183)).heap[w.heap.size]?=_:=heap_alloc_new w _;go_enter Tryz.func106,Tryz.ntmps106
 go_upto_region 2 with fail
 have hS1:=hS.ext hx1;generalize w.alloc (.cells #[.int .i64 (a:Int),.int .i64 (b:Int)] 183)=W1 at *;obtain⟨f,hM,hf⟩:=hS1.Ni;obtain⟨kl,hkl⟩:=Lu a b (by omega) (by omega);have hlk:=λ(W:World) (hW:W.heap[h+1+1+1]?=W1.heap[h+1+1+1]?)=>(hM.keep hW).look zU underlying136 (El W) hkl true
 have Qn:=cell_of_row W1 w.heap.size 0 _ _ _ hkb;have ck1:=cell_of_row W1 w.heap.size 1 _ _ _ hkb;simp only[gE]at Qn ck1;have c6:=hS1.pool.c6;have hnb:w.heap.size<W1.drew.heap.size:=bG hkb;have Ka:¬jP pp h s w.heap.size:=λhc=>by have:=hP.IY hc;omega
 have hh5:h+1+1+1<w.heap.size:=hP.ny (by omega);have hS0:Bq W1.drew pp h N s:=hS1.ext (bS ⟨1,rfl⟩);have Tc:Ag pp h s w s W1.drew:=(jK.refl hP (ay hx1 (bS ⟨1,rfl⟩))).sm;cases LZ:f (.agg #[.int .i64 (a:Int),.int .i64 (b:Int)])with
 |some v=>
  obtain⟨a',b',j,e1,rfl,-,-,hj,hs⟩:=hf _ _ LZ;simp only[Value.agg.injEq,Array.mk.injEq,jU,Value.int.injEq,true_and,and_true]at e1;obtain⟨e1,e2⟩:=e1;obtain rfl:a=a':=by omega
  obtain rfl:b=b':=by omega
  simp only[LZ,gz,Option.isSome_some,if_true]at hlk;have HJ:=aH (And.intro hj hs);clear hj hs;refine bW (λW=>W.cell? ⟨pp,6,none⟩=some (.map (some (h+1+1+1)))/\W.cell? ⟨w.heap.size,0,none⟩=some (.int .i64 (a:Int))/\W.cell? ⟨w.heap.size,1,none⟩=some (.int .i64 (b:Int))/\(Instr.lookup 136 (.map (some (h+1+1+1))) (.agg #[.int .i64 (a:Int),.int .i64 (b:Int)]) true).run prog W=.ok (.tuple #[.int .i64 (j:Int),.bool true]) W) [10] Iy (by kernel_rfl) ⟨by kernel_rfl,by kernel_rfl,by kernel_rfl⟩ ⟨c6,Qn,ck1,hlk _ rfl⟩ (λax ae=>?_);(refine bT 0 ax ae ?_;refine bT 1 ax ae ?_;refine bT 2 ax ae ?_;refine bT 3 ax ae ?_;refine bT 4 ax ae ?_;refine bT 5 ax ae ?_;refine bT 6 ax ae ?_;refine bT 7 ax ae ?_;refine bT 8 ax ae ?_;refine bT 9 ax ae ?_);refine ow ax [10] [_] ?_;clear ax ae;go_wp2_with fail
  go_ret
  exact⟨s,j,rfl,HJ.out.1,HJ.out.2,Tc,hS0⟩
 |none=>
  simp only[LZ,Option.getD_none,Option.isSome_none,if_true]at hlk;refine bW (λW=>W.cell? ⟨pp,6,none⟩=some (.map (some (h+1+1+1)))/\W.cell? ⟨w.heap.size,0,none⟩=some (.int .i64 (a:Int))/\W.cell? ⟨w.heap.size,1,none⟩=some (.int .i64 (b:Int))/\(Instr.lookup 136 (.map (some (h+1+1+1))) (.agg #[.int .i64 (a:Int),.int .i64 (b:Int)]) true).run prog W=.ok (.tuple #[.int .i64 0,.bool false]) W) [10] Iy (by kernel_rfl) ⟨by kernel_rfl,by kernel_rfl,by kernel_rfl⟩ ⟨c6,Qn,ck1,hlk _ rfl⟩ (λax ae=>?_);(refine bT 0 ax ae ?_;refine bT 1 ax ae ?_;refine bT 2 ax ae ?_;refine bT 3 ax ae ?_;refine bT 4 ax ae ?_;refine bT 5 ax ae ?_;refine bT 6 ax ae ?_;refine bT 7 ax ae ?_;refine bT 8 ax ae ?_;refine bT 9 ax ae ?_);refine ow ax [10] [_] ?_;clear ax ae hlk hf LZ hM f c6;have HKB:Hid (W1.drew.heap[w.heap.size]?=some (.cells #[.int .i64 (a:Int),.int .i64 (b:Int)] 183 (0,0))):=aH hkb;clear Qn ck1 hkb hx1 hS1;generalize W1.drew=V0 at *;have hm0:=Om hS0.pool;have hx0:Ext V0 ((V0.alloc (.cells #[] 3)).alloc (.cells #[] 3)):=by go_grown
  have ZA:=hS0.ext hx0;have uP:Ag pp h s V0 s ((V0.alloc (.cells #[] 3)).alloc (.cells #[] 3)):=(jK.refl hS0.pool hx0).sm;have Qk:h+1+1+1<V0.heap.size:=by omega
  have HP0:=aH hS0.pool;have HG0:=aH (And.intro Tc Ka);have hla:=yE hP Tv;have hlb:=yE hP hbD;have HWA:=aH (hP.good.wf a _ (aa Tv));have HWB:=aH (hP.good.wf b _ (aa hbD));have Fq:=aH hP.good.wf;clear Tc Ka hS0 hS hP;go_upto_region 6 with fail
  generalize (V0.alloc (.cells #[] 3)).alloc (.cells #[] 3)=V1 at *;have hq1:a<s.D.length:=aQ Tv uP.len;obtain⟨g1,anw,aO1,cO1,wQ,alV,afV,Z0,Wt⟩:=ZA.pool.qR hq1;rw[BC uP.more Tv hq1]at Z0 Wt;have aft:=hla.1;have acO:=HWA.out.1;obtain⟨O1,Kc⟩:∃O,O=(s.D[a]).1:=⟨_,rfl⟩;rw[<-Kc]at Wt Z0 aft acO;have ahs:=aH Kc;clear Kc;go_wp2
  go_loopw [10,13,45] (λmv _ ii wr=>∃(k:Nat) (s1:iQ) (M:List Nat),k<=O1.length/\ii=.int .i64 ((k:Nat):Int)/\kD s.S wr (.slice aO1 O1.length cO1) O1/\Hid (∀b,s.S b->s1.S b)/\Ag pp h s V0 s1 wr/\Bq wr pp h N s1/\lu pp h s1 V0 wr mv (.slice (some ⟨V0.heap.size+1,0,none⟩) 0 0) M []/\Hid (oo s1.D ([]++(O1.take k).map (λx=>plus (vl s.D x) (vl s.D b))) M)/\Hid (oo s1.D [] [])) (λ_ _ ii _=>O1.length-(intOf ii).toNat)
  case atStart=>exact⟨0,_,[],az _,rfl,Wt,aH (λ_ h=>h),uP,ZA,hm0,aH (yB (aH (oo.nil _)).out),(aH (oo.nil _))⟩
  case round=>
   clear uP ZA hm0 Wt wQ Z0;obtain⟨k,s2,M1,hk,rfl,sw,fK,uO,Mg,Pn,HL1,HR1⟩:=hrel;have qU:M1.length=([]++(O1.take k).map (λx=>plus (vl s.D x) (vl s.D b))).length:=HL1.out.len;rw[aj,aJ,ek]at qU;by_cases hlt:k<O1.length
   .have h1:((k:Nat):Int)<((O1.length:Nat):Int):=by omega
    obtain⟨-,hln,hcl⟩:=kD.at sw;obtain⟨bb,off,rfl,hcell⟩:=hcl (by omega);have hck:=hcell k hlt;have hi1:=acO _ (ah hlt);obtain⟨aq,cq,rfl,hqc,_⟩:=bD Pn.l;have IH:=aH (ih pp h N s2 O1[k] b wr Mg hN (by omega) (by omega) (by omega));have HS:=aH sw;have hg0:([]:List Gm).length<=100000:=(by simp);obtain⟨kn,hkn⟩:∃n,n=M1.length:=⟨_,rfl⟩;have Y7:kn<=200000:=(by omega);rw[<-hkn]at hqc ⊢;have DR:=aH Pn;have Bb:=aH hkn;have hwl:=uO.keep.size;clear hcl hcell sw Pn hkn qU hg0
    go_wp2_with (first
     |(go_at_call 106;refine IH.out.mono ?_;rintro e w2 ⟨s9,j,rfl,hj2,hsy,pO,Zx⟩;have uN:=(DR.out.go Qk pO).l;rw[<-Bb.out]at uN)
     |(at_builtin;refine bQ rfl (.tmp 49) (.tmp 54) 80 rfl V0.heap.size 3 i0 (.int .i64 0) 1 8 underlying80 hi0 hz0 hz1 hz2 rfl (by decide) (.slice aq kn cq) kn _ rfl (uN.alloc _) _ 1 _ [.int .i64 (j:Int)] rfl rfl (.inr ⟨_,rfl,cK (bP _ _ _)⟩) one_cell (by unfold maxLen;omega) (by omega) (by rw[fw];have:=pO.keep.size;omega) ?_;intro v5 w5 fI hg5 hl5))
    go_roundw
    case rel=>
     have hm2:=DR.out.go Qk pO;rw[<-Bb.out]at hm2;have Jw:=hm2.push (news:=[j]) pO.pool (bK (Below.refl _ _) _) hg5 fI (by simp[Bb.out]) (by rw[kZ,aU];rfl) hl5;have hok:O1[k]<s.D.length:=(by omega);have hs3:Same (vl s9.D j) ((λx=>plus (vl s.D x) (vl s.D b)) O1[k]):=by
      have:=hsy;rw[uO.vl Fq.out hok,uO.vl Fq.out hbD]at this;exact this
     have h3:=(HL1.out.go Mg.pool.good.wf pO).next hj2 hs3;exact⟨k+1,s9,M1++[j],by omega,by go_num,hm2.yj (Ag.sup HS.out pO Mg.pool fK.out) (λb hb=>pO.old b (fK.out b hb)) (bK (Below.refl _ _) _) hg5,aH (λb hb=>pO.old b (fK.out b hb)),hm2.side (uO.trans pO) (bK (Below.refl _ _) _) hg5,Zx.side hm2 Qk (bK (Below.refl _ _) _) hg5,Jw,aH (yC hlt h3),aH (HR1.out.go Mg.pool.good.wf pO)⟩
    case measure=>simp[intOf];omega
   .have h1:¬(((k:Nat):Int)<((O1.length:Nat):Int)):=by omega
    have hke:k=O1.length:=(by omega);subst hke;have HF1:=aH (yD HL1.out);obtain⟨wo1,rfl⟩:∃wo:World,wo=wr:=⟨_,rfl⟩;obtain⟨aq1,cq1,rfl,alq,_⟩:=bD Pn.l;clear sw qU HL1 fK;have hq2:b<s2.D.length:=aQ hbD uO.len;obtain⟨g2,cap2,aO2,cO2,agU,alU,afU,cg2,Ws⟩:=Mg.pool.qR hq2;rw[BC uO.more hbD hq2]at cg2 Ws;have afs:=hlb.1;have acN:=HWB.out.1;obtain⟨O2,hO2⟩:∃O,O=(s.D[b]).1:=⟨_,rfl⟩;rw[<-hO2]at Ws cg2 afs acN;have ahr:=aH hO2;clear hO2;go_wp2
    go_loopw [10,15,65] (λmv _ ii wr=>∃(k:Nat) (s1:iQ) (M:List Nat),k<=O2.length/\ii=.int .i64 ((k:Nat):Int)/\kD s2.S wr (.slice aO2 O2.length cO2) O2/\Hid (∀b,s2.S b->s1.S b)/\Ag pp h s V0 s1 wr/\Bq wr pp h N s1/\lu pp h s1 V0 wr mv (.slice (some ⟨V0.heap.size+1,0,none⟩) 0 0) M []/\Hid (oo s1.D (([]++O1.map (λx=>plus (vl s.D x) (vl s.D b)))++(O2.take k).map (λx=>plus (vl s.D a) (vl s.D x))) M)/\Hid (oo s1.D [] [])) (λ_ _ ii _=>O2.length-(intOf ii).toNat)
    case atStart=>exact⟨0,_,M1,az _,rfl,Ws,aH (λ_ h=>h),uO,Mg,Pn,aH (yB HF1.out),HR1⟩
    case round=>
     clear uO Mg Pn Ws agU cg2;obtain⟨k,s3,M2,hk,rfl,sw,fK,gX,Mf,Pm,HL2,HR2⟩:=hrel;have qU:M2.length=(([]++O1.map (λx=>plus (vl s.D x) (vl s.D b)))++(O2.take k).map (λx=>plus (vl s.D a) (vl s.D x))).length:=HL2.out.len;rw[aj,aJ,ek]at qU;by_cases hlt:k<O2.length
     .have h1:((k:Nat):Int)<((O2.length:Nat):Int):=by omega
      obtain⟨-,hln,hcl⟩:=kD.at sw;obtain⟨bb,off,rfl,hcell⟩:=hcl (by omega);have hck:=hcell k hlt;have hi1:=acN _ (ah hlt);obtain⟨aq,cq,rfl,hqc,_⟩:=bD Pm.l;have IH:=aH (ih pp h N s3 a O2[k] wr Mf hN (by omega) (by omega) (by omega));have HS:=aH sw;have hg0:(([]++O1.map (λx=>plus (vl s.D x) (vl s.D b))):List Gm).length<=100000:=(by rw[fB,aJ];omega);obtain⟨kn,hkn⟩:∃n,n=M2.length:=⟨_,rfl⟩;have Y7:kn<=200000:=(by omega);rw[<-hkn]at hqc ⊢;have DR:=aH Pm;have Bb:=aH hkn;have hwl:=gX.keep.size;clear hcl hcell sw Pm hkn qU hg0
      go_wp2_with (first
       |(go_at_call 106;refine IH.out.mono ?_;rintro e w2 ⟨s9,j,rfl,hj2,hsy,pO,Zx⟩;have uN:=(DR.out.go Qk pO).l;rw[<-Bb.out]at uN)
       |(at_builtin;refine bQ rfl (.tmp 69) (.tmp 74) 80 rfl V0.heap.size 3 i0 (.int .i64 0) 1 8 underlying80 hi0 hz0 hz1 hz2 rfl (by decide) (.slice aq kn cq) kn _ rfl (uN.alloc _) _ 1 _ [.int .i64 (j:Int)] rfl rfl (.inr ⟨_,rfl,cK (bP _ _ _)⟩) one_cell (by unfold maxLen;omega) (by omega) (by rw[fw];have:=pO.keep.size;omega) ?_;intro v5 w5 fI hg5 hl5))
      go_roundw
      case rel=>
       have hm2:=DR.out.go Qk pO;rw[<-Bb.out]at hm2;have Jw:=hm2.push (news:=[j]) pO.pool (bK (Below.refl _ _) _) hg5 fI (by simp[Bb.out]) (by rw[kZ,aU];rfl) hl5;have hok:O2[k]<s.D.length:=(by omega);have hs3:Same (vl s9.D j) ((λx=>plus (vl s.D a) (vl s.D x)) O2[k]):=by
        have:=hsy;rw[gX.vl Fq.out hok,gX.vl Fq.out Tv]at this;exact this
       have h3:=(HL2.out.go Mf.pool.good.wf pO).next hj2 hs3;exact⟨k+1,s9,M2++[j],by omega,by go_num,hm2.yj (Ag.sup HS.out pO Mf.pool fK.out) (λb hb=>pO.old b (fK.out b hb)) (bK (Below.refl _ _) _) hg5,aH (λb hb=>pO.old b (fK.out b hb)),hm2.side (gX.trans pO) (bK (Below.refl _ _) _) hg5,Zx.side hm2 Qk (bK (Below.refl _ _) _) hg5,Jw,aH (yC hlt h3),aH (HR2.out.go Mf.pool.good.wf pO)⟩
      case measure=>simp[intOf];omega
     .have h1:¬(((k:Nat):Int)<((O2.length:Nat):Int)):=by omega
      have hke:k=O2.length:=(by omega);subst hke;have HF2:=aH (yD HL2.out);obtain⟨wo2,rfl⟩:∃wo:World,wo=wr:=⟨_,rfl⟩;obtain⟨aq2,cq2,rfl,alp,_⟩:=bD Pm.l;clear sw qU HL2 fK;have hsw:=Pm.swap;clear Pm;have NG:=gX;clear gX;have hq3:a<s3.D.length:=aQ Tv NG.len;obtain⟨g3,anv,aO3,cO3,agT,alT,alR,cg3,Wq⟩:=Mf.pool.pM hq3;rw[BC NG.more Tv hq3]at cg3 Wq;have afr:=hla.2;have acM:=HWA.out.2;obtain⟨O3,hO3⟩:∃O,O=(s.D[a]).2:=⟨_,rfl⟩;rw[<-hO3]at Wq cg3 afr acM;have ahq:=aH hO3;clear hO3;go_wp2
      go_loopw [11,17,85] (λmv _ ii wr=>∃(k:Nat) (s1:iQ) (M:List Nat),k<=O3.length/\ii=.int .i64 ((k:Nat):Int)/\kD s3.S wr (.slice aO3 O3.length cO3) O3/\Hid (∀b,s3.S b->s1.S b)/\Ag pp h s V0 s1 wr/\Bq wr pp h N s1/\lu pp h s1 V0 wr mv (.slice aq2 M2.length cq2) M M2/\Hid (oo s1.D ([]++(O3.take k).map (λx=>plus (vl s.D x) (vl s.D b))) M)/\Hid (oo s1.D (([]++O1.map (λx=>plus (vl s.D x) (vl s.D b)))++O2.map (λx=>plus (vl s.D a) (vl s.D x))) M2)) (λ_ _ ii _=>O3.length-(intOf ii).toNat)
      case atStart=>exact⟨0,_,[],az _,rfl,Wq,aH (λ_ h=>h),NG,Mf,hsw,aH (yB HR2.out),HF2⟩
      case round=>
       clear NG Mf hsw Wq agT cg3;obtain⟨k,s4,M3,hk,rfl,sw,fK,iX,Me,Pk,Xo,HR3⟩:=hrel;have qU:M3.length=([]++(O3.take k).map (λx=>plus (vl s.D x) (vl s.D b))).length:=Xo.out.len;rw[aj,aJ,ek]at qU;by_cases hlt:k<O3.length
       .have h1:((k:Nat):Int)<((O3.length:Nat):Int):=by omega
        obtain⟨-,hln,hcl⟩:=kD.at sw;obtain⟨bb,off,rfl,hcell⟩:=hcl (by omega);have hck:=hcell k hlt;have hi1:=acM _ (ah hlt);obtain⟨aq,cq,rfl,hqc,_⟩:=bD Pk.l;have IH:=aH (ih pp h N s4 O3[k] b wr Me hN (by omega) (by omega) (by omega));have HS:=aH sw;have hg0:([]:List Gm).length<=100000:=(by simp);obtain⟨kn,hkn⟩:∃n,n=M3.length:=⟨_,rfl⟩;have Y7:kn<=200000:=(by omega);rw[<-hkn]at hqc ⊢;have DR:=aH Pk;have Bb:=aH hkn;have hwl:=iX.keep.size;clear hcl hcell sw Pk hkn qU hg0
        go_wp2_with (first
         |(go_at_call 106;refine IH.out.mono ?_;rintro e w2 ⟨s9,j,rfl,hj2,hsy,pO,Zx⟩;have uN:=(DR.out.go Qk pO).l;rw[<-Bb.out]at uN)
         |(at_builtin;refine bQ rfl (.tmp 89) (.tmp 94) 80 rfl V0.heap.size 3 i0 (.int .i64 0) 1 8 underlying80 hi0 hz0 hz1 hz2 rfl (by decide) (.slice aq kn cq) kn _ rfl (uN.alloc _) _ 1 _ [.int .i64 (j:Int)] rfl rfl (.inr ⟨_,rfl,cK (bP _ _ _)⟩) one_cell (by unfold maxLen;omega) (by omega) (by rw[fw];have:=pO.keep.size;omega) ?_;intro v5 w5 fI hg5 hl5))
        go_roundw
        case rel=>
         have hm2:=DR.out.go Qk pO;rw[<-Bb.out]at hm2;have Jw:=hm2.push (news:=[j]) pO.pool (bK (Below.refl _ _) _) hg5 fI (by simp[Bb.out]) (by rw[kZ,aU];rfl) hl5;have hok:O3[k]<s.D.length:=(by omega);have hs3:Same (vl s9.D j) ((λx=>plus (vl s.D x) (vl s.D b)) O3[k]):=by
          have:=hsy;rw[iX.vl Fq.out hok,iX.vl Fq.out hbD]at this;exact this
         have h3:=(Xo.out.go Me.pool.good.wf pO).next hj2 hs3;exact⟨k+1,s9,M3++[j],by omega,by go_num,hm2.yj (Ag.sup HS.out pO Me.pool fK.out) (λb hb=>pO.old b (fK.out b hb)) (bK (Below.refl _ _) _) hg5,aH (λb hb=>pO.old b (fK.out b hb)),hm2.side (iX.trans pO) (bK (Below.refl _ _) _) hg5,Zx.side hm2 Qk (bK (Below.refl _ _) _) hg5,Jw,aH (yC hlt h3),aH (HR3.out.go Me.pool.good.wf pO)⟩
        case measure=>simp[intOf];omega
       .have h1:¬(((k:Nat):Int)<((O3.length:Nat):Int)):=by omega
        have hke:k=O3.length:=(by omega);subst hke;have HF3:=aH (yD Xo.out);obtain⟨wo3,rfl⟩:∃wo:World,wo=wr:=⟨_,rfl⟩;obtain⟨aq3,cq3,rfl,alo,_⟩:=bD Pk.l;clear sw qU Xo fK;have hq4:b<s4.D.length:=aQ hbD iX.len;obtain⟨g4,cap4,aO4,cO4,agS,alS,alQ,cg4,Wp⟩:=Me.pool.pM hq4;rw[BC iX.more hbD hq4]at cg4 Wp;have afq:=hlb.2;have acL:=HWB.out.2;obtain⟨O4,hO4⟩:∃O,O=(s.D[b]).2:=⟨_,rfl⟩;rw[<-hO4]at Wp cg4 afq acL;have ahp:=aH hO4;clear hO4;go_wp2
        go_loopw [11,19,105] (λmv _ ii wr=>∃(k:Nat) (s1:iQ) (M:List Nat),k<=O4.length/\ii=.int .i64 ((k:Nat):Int)/\kD s4.S wr (.slice aO4 O4.length cO4) O4/\Hid (∀b,s4.S b->s1.S b)/\Ag pp h s V0 s1 wr/\Bq wr pp h N s1/\lu pp h s1 V0 wr mv (.slice aq2 M2.length cq2) M M2/\Hid (oo s1.D (([]++O3.map (λx=>plus (vl s.D x) (vl s.D b)))++(O4.take k).map (λx=>plus (vl s.D a) (vl s.D x))) M)/\Hid (oo s1.D (([]++O1.map (λx=>plus (vl s.D x) (vl s.D b)))++O2.map (λx=>plus (vl s.D a) (vl s.D x))) M2)) (λ_ _ ii _=>O4.length-(intOf ii).toNat)
        case atStart=>exact⟨0,_,M3,az _,rfl,Wp,aH (λ_ h=>h),iX,Me,Pk,aH (yB HF3.out),HR3⟩
        case round=>
         clear iX Me Pk Wp agS cg4;obtain⟨k,s5,M4,hk,rfl,sw,fK,kH,Md,LP,HL4,HR4⟩:=hrel;have qU:M4.length=(([]++O3.map (λx=>plus (vl s.D x) (vl s.D b)))++(O4.take k).map (λx=>plus (vl s.D a) (vl s.D x))).length:=HL4.out.len;rw[aj,aJ,ek]at qU;by_cases hlt:k<O4.length
         .have h1:((k:Nat):Int)<((O4.length:Nat):Int):=by omega
          obtain⟨-,hln,hcl⟩:=kD.at sw;obtain⟨bb,off,rfl,hcell⟩:=hcl (by omega);have hck:=hcell k hlt;have hi1:=acL _ (ah hlt);obtain⟨aq,cq,rfl,hqc,_⟩:=bD LP.l;have IH:=aH (ih pp h N s5 a O4[k] wr Md hN (by omega) (by omega) (by omega));have HS:=aH sw;have hg0:(([]++O3.map (λx=>plus (vl s.D x) (vl s.D b))):List Gm).length<=100000:=(by rw[fB,aJ];omega);obtain⟨kn,hkn⟩:∃n,n=M4.length:=⟨_,rfl⟩;have Y7:kn<=200000:=(by omega);rw[<-hkn]at hqc ⊢;have DR:=aH LP;have Bb:=aH hkn;have hwl:=kH.keep.size;clear hcl hcell sw LP hkn qU hg0
          go_wp2_with (first
           |(go_at_call 106;refine IH.out.mono ?_;rintro e w2 ⟨s9,j,rfl,hj2,hsy,pO,Zx⟩;have uN:=(DR.out.go Qk pO).l;rw[<-Bb.out]at uN)
           |(at_builtin;refine bQ rfl (.tmp 109) (.tmp 114) 80 rfl V0.heap.size 3 i0 (.int .i64 0) 1 8 underlying80 hi0 hz0 hz1 hz2 rfl (by decide) (.slice aq kn cq) kn _ rfl (uN.alloc _) _ 1 _ [.int .i64 (j:Int)] rfl rfl (.inr ⟨_,rfl,cK (bP _ _ _)⟩) one_cell (by unfold maxLen;omega) (by omega) (by rw[fw];have:=pO.keep.size;omega) ?_;intro v5 w5 fI hg5 hl5))
          go_roundw
          case rel=>
           have hm2:=DR.out.go Qk pO;rw[<-Bb.out]at hm2;have Jw:=hm2.push (news:=[j]) pO.pool (bK (Below.refl _ _) _) hg5 fI (by simp[Bb.out]) (by rw[kZ,aU];rfl) hl5;have hok:O4[k]<s.D.length:=(by omega);have hs3:Same (vl s9.D j) ((λx=>plus (vl s.D a) (vl s.D x)) O4[k]):=by
            have:=hsy;rw[kH.vl Fq.out hok,kH.vl Fq.out Tv]at this;exact this
           have h3:=(HL4.out.go Md.pool.good.wf pO).next hj2 hs3;exact⟨k+1,s9,M4++[j],by omega,by go_num,hm2.yj (Ag.sup HS.out pO Md.pool fK.out) (λb hb=>pO.old b (fK.out b hb)) (bK (Below.refl _ _) _) hg5,aH (λb hb=>pO.old b (fK.out b hb)),hm2.side (kH.trans pO) (bK (Below.refl _ _) _) hg5,Zx.side hm2 Qk (bK (Below.refl _ _) _) hg5,Jw,aH (yC hlt h3),aH (HR4.out.go Md.pool.good.wf pO)⟩
          case measure=>simp[intOf];omega
         .have h1:¬(((k:Nat):Int)<((O4.length:Nat):Int)):=by omega
          have hke:k=O4.length:=(by omega);subst hke;have HF4:=aH (yD HL4.out);obtain⟨wo4,rfl⟩:∃wo:World,wo=wr:=⟨_,rfl⟩;obtain⟨aq4,cq4,rfl,aln,_⟩:=bD LP.l;clear sw qU HL4 fK;have Ww:=Md.pool;have hsm:=Md.small;have hNN:N*N<=900*900:=jR hN hN;have hroom:s5.D.length+1<=900000:=(by omega);have TE:M2.length<=200000:=(by have:=HR4.out.len;rw[fB,aj,aJ,aJ]at this;omega);have hRl:M4.length<=200000:=(by have:=HF4.out.len;rw[fB,aj,aJ,aJ]at this;omega);have hI1:Ints wo4 (.slice aq2 M2.length cq2) (dx M2):=Ints.eO LP.r (by rw[bu];omega);have hI2:Ints wo4 (.slice aq4 M4.length cq4) (dx M4):=Ints.eO LP.l (by rw[bu];omega);have CALL:=aH (yF pp h s5 _ _ M2 M4 wo4 Ww hroom HR4.out.lt HF4.out.lt (by omega) (by omega) hI1 hI2);clear hI1 hI2 LP hsm hroom hNN;go_upto_region 27 with(go_at_call 119;refine CALL.out.mono ?_;rintro e w6 ⟨s6,i,rfl,wO,XO,hc6⟩)
          have hsa:Same (vl s6.D i) (plus (vl s.D a) (vl s.D b)):=by
           rw[Yt Fq.out Tv hbD];have e1:=ahs.out;have e2:=ahr.out;have e3:=ahq.out;have e4:=ahp.out;have hl:=HR4.out;have hr:=HF4.out;rw[fB]at hl hr;rw[e1,e2]at hl;rw[e3,e4]at hr;exact RA Ww.good.wf wO.pool.good.wf hl hr XO
          have Ta:=kH.trans wO.sm;have ha5:=kH.len;have Zz:=Md.put wO XO ha hb (by rw[kH.vl Fq.out Tv,kH.vl Fq.out hbD];exact hsa);have hi6:=XO.lt;obtain⟨f6,hM6,hf6⟩:=Zz.Ni;have c66:=Zz.pool.c6;obtain⟨kl6,afJ⟩:=Lu a b (by omega) (by omega);have Y8:=(Ta.keep.block _ hnb (by
           rintro(c|c)
           .exact HG0.out.2 c
           .omega)).trans HKB.out
          have Qn:=cell_of_row w6 w.heap.size 0 _ _ _ Y8;have ck1:=cell_of_row w6 w.heap.size 1 _ _ _ Y8;simp only[gE]at Qn ck1;have HSA:=aH (And.intro hsa hi6);have HF6:=aH hf6;have HM6:=aH hM6;have hd6:=Ta.len;clear hsa hf6 hc6 XO hi6 hM6;refine bW (λW=>W.cell? ⟨pp,6,none⟩=some (.map (some (h+1+1+1)))/\W.cell? ⟨w.heap.size,0,none⟩=some (.int .i64 (a:Int))/\W.cell? ⟨w.heap.size,1,none⟩=some (.int .i64 (b:Int))) [6] OB (by kernel_rfl) ⟨by kernel_rfl,by kernel_rfl,by kernel_rfl⟩ ⟨c66,Qn,ck1⟩ (λax ae=>?_);(refine bT 0 ax ae ?_;refine bT 1 ax ae ?_;refine bT 2 ax ae ?_;refine bT 3 ax ae ?_;refine bT 4 ax ae ?_;refine bT 5 ax ae ?_);refine ow ax [6] [_] ?_;clear ax ae;go_wp2_with (at_mapUpdate;refine iT rfl _ _ _ 136 rfl 183 3 zU underlying136 (h+1+1+1) 810000000000 f6 rfl (HM6.out.keep rfl) (by unfold maxLen;omega) (.agg #[.int .i64 (a:Int),.int .i64 (b:Int)]) (.int .i64 (i:Int)) rfl rfl ⟨kl6,afJ⟩ ?_;intro w7 hM7 Hf)
          go_ret
          have hfin:=Zz.store (bS ⟨1,rfl⟩) HF6.out hM7 Hf (by omega) (by omega) HSA.out.2 (by rw[Ta.vl Fq.out Tv,Ta.vl Fq.out hbD];exact HSA.out.1);exact⟨s6,i,rfl,HSA.out.2,HSA.out.1,HG0.out.1.trans (Ta.trans hfin.2),hfin.1⟩
theorem Yy:∀m,MI m:=by
 intro m
 induction m with
 |zero=>intro pp h N s a b w _ _ _ _ h;omega
 |succ m ih=>exact QQ ih
theorem Ru(pp h N:Nat)(s:iQ)(a b:Nat)(w:World)(hS:Bq w pp h N s)(hN:N<=900)(ha:a<N)(hb:b<N):Calls prog 106 #[.pointer (some ⟨pp,0,none⟩),.int .i64 (a:Int),.int .i64 (b:Int)] w (Yd pp h N s a b w):=
 Yy (a+b+1) pp h N s a b w hS hN ha hb (by omega)
end Go.Proofs.YteknjeohbcgpdaaGreatDoor