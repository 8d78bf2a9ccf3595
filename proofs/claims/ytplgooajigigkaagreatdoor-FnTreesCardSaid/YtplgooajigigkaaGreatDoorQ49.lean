/- 49 -/
import Derived.Test.YtplgooajigigkaaGreatDoorQ14
set_option maxRecDepth 100000
set_option maxHeartbeats 4000000
namespace Go.Proofs.YtplgooajigigkaaGreatDoor
open Tryz
open Go.RowKit
variable {w wr w0 w5:World} {pc po k:Nat} {ov cv v5:Value} {out:List Int} {sb:ByteArray} {us:List Nat} {X:Obj} {z:Int}
structure zy(w wr:World)(pc po:Nat)(ov:Value)(out:List Int)(sb:ByteArray):Prop where
 b1:wr.heap[w.heap.size]?=some (.cells #[.slice none 0 0,.string ⟨#[]⟩] 43 (0,0))
 b2:wr.heap[po]?=some (.cells #[ov,.string sb] 43 (0,0))
 own:wr.ownsRow (w.heap.size+1) 3 1 ov out.length (out.map (Value.int .i64))
 np:ov.ownBlock≠some po
 pz:w.heap.size<po
 Zz:pc<w.heap.size
 keep:dW (λb=>b=pc) w wr
theorem zy.cur{w3:World}(m:zy w wr pc po ov out sb)(h:dW (λb=>b=pc) wr w3):zy w w3 pc po ov out sb:=by
 have h1:=m.pz;have h2:=m.Zz;exact⟨(h.block _ (bq m.b1) (by omega)).trans m.b1,(h.block _ (bq m.b2) (by omega)).trans m.b2,aV m.own h (λb hb e=>by have:=(m.own.lt b hb).1;omega),m.np,m.pz,m.Zz,m.keep.trans h λ_ _ h=>h⟩
theorem zy.put(m:zy w wr pc po ov out sb)(c:uk w0 wr pc cv us k)
 (ho:w5.ownsRow (w.heap.size+1) 3 1 v5 (out.length+1) (out.map (Value.int .i64)++[.int .i64 z])) (hg:(wr.alloc X).grownBy w5 ov.ownBlock) (hl:lY (wr.alloc X) ov v5):
 zy w (w5.setCell ⟨po,0,none⟩ v5) pc po v5 (out++[z]) sb/\uk w0 (w5.setCell ⟨po,0,none⟩ v5) pc cv us k/\w5.cell? ⟨po,0,none⟩=some ov/\w5.frozen? ⟨po,0,none⟩=false:=by
 have hp:=m.pz;have hq:=m.Zz;have hz:(wr.alloc X).heap.size=wr.heap.size+1:=eX _ _;have zg:=hg.size;have hk:dW (λb=>ov.ownBlock=some b) wr w5:=⟨hg.os,hg.tape,hg.output,by omega,λb hb hn=>by
  rw[hg.block b (by omega) (λe=>hn e.symm),gI _ _ _ hb]⟩
 have hb2:w5.heap[po]?=some (.cells #[ov,.string sb] 43 (0,0)):=(hk.block _ (bq m.b2) (λe=>m.np e)).trans m.b2;have hno:v5.ownBlock≠some po:=λe=>by
  rcases hl with k|⟨q,k,k2⟩
  .have:=m.np;rw[<-k]at this;exact this e
  .rw[k]at e;injection e with e;have:=bq m.b2;omega
 have hks:dW (λb=>b=po\/ov.ownBlock=some b) wr (w5.setCell ⟨po,0,none⟩ v5):=(vK hk λ_ h=>Or.inr h).trans (vK (dx (p:=⟨po,0,none⟩)) λ_ h=>Or.inl h) λ_ _ h=>h
 have hlt:∀b,(b=po\/ov.ownBlock=some b)->w.heap.size<b:=λb h=>by
  rcases h with e|e
  .omega
  .have:=(m.own.lt b e).1;omega
 have c0:=bI w5 po 0 _ _ _ hb2;simp only[gE]at c0;refine⟨⟨(hks.block _ (bq m.b1) (λe=>by have:=hlt _ e;omega)).trans m.b1,iV _ _ _ _ _ _ hb2,?_,hno,hp,hq,m.keep.trans hks (λb hb e=>by have:=hlt _ e;omega)⟩,c.keep hks (λb e=>by have:=hlt _ e;omega),c0,iW w5 po 0 _ _ hb2⟩;rw[bz,aK];exact aV ho (dx (p:=⟨po,0,none⟩)) (λb hb e=>hno (by have e':b=po:=e;rw[<-e'];exact hb))
theorem zy.sign(m:zy w wr pc po ov out sb)(c:uk w0 wr pc cv us k)(s2:ByteArray):
 zy w (wr.setCell ⟨po,1,none⟩ (.string s2)) pc po ov out s2/\uk w0 (wr.setCell ⟨po,1,none⟩ (.string s2)) pc cv us k:=by
 have hp:=m.pz;have hq:=m.Zz;have hks:dW (λb=>b=po) wr (wr.setCell ⟨po,1,none⟩ (.string s2)):=dx (p:=⟨po,1,none⟩);refine⟨⟨(hks.block _ (bq m.b1) (by omega)).trans m.b1,iV _ _ 1 _ _ _ m.b2,aV m.own hks (λb hb e=>m.np (by rw[hb,e])),m.np,hp,hq,m.keep.trans hks (λb hb e=>by omega)⟩,c.keep hks (λb e=>by omega)⟩
theorem zy.alloc{w0 w wr:World}{pc po k:Nat}{cv:Value}{us:List Nat}{ov:Value}{out:List Int}{sb:ByteArray}(m:zy w wr pc po ov out sb)(c:uk w0 wr pc cv us k)(X:Obj):
 zy w (wr.alloc X) pc po ov out sb/\uk w0 (wr.alloc X) pc cv us k:=by
 have hk:dW (λ_=>False) wr (wr.alloc X):=⟨rfl,rfl,rfl,by simp,λb hb _=>gI _ _ _ hb⟩;exact⟨m.cur (vK hk λ_ e=>e.elim),c.keep hk λ_ e=>e.elim⟩
theorem zy.cells(m:zy w wr pc po ov out sb):wr.cell? ⟨po,0,none⟩=some ov/\wr.cell? ⟨po,1,none⟩=some (.string sb)/\wr.frozen? ⟨po,1,none⟩=false:=
 ⟨bI wr po 0 _ _ _ m.b2,bI wr po 1 _ _ _ m.b2,iW wr po 1 _ _ m.b2⟩
def Zo(w0 w:World)(pc:Nat)(cv:Value)(us:List Nat)(k n:Nat)(e:Ending)(w':World):Prop:=
 ∃(v':Value) (out:List Int) (s:ByteArray),e=.returned (.agg #[v',.string s])/\Ints w' v' out/\(∀b,v'.ownBlock=some b->w.heap.size<b)/\s.size<=60/\mh w0 w w' pc cv us k n
def Q6:List Row:=[⟨0,[],35,[5]⟩,⟨1,[0],36,[34]⟩,⟨2,[],37,[0]⟩,⟨3,[],38,[]⟩,⟨4,[2,3],39,[36,37]⟩,⟨5,[1,4],40,[35,38]⟩,⟨6,[0,1,2,3,4,5],41,[5]⟩,⟨7,[6,5,4,0,1,2,3,4,5],0,[40,39]⟩]
def Q5:List Row:=[⟨0,[],55,[5]⟩,⟨1,[0],56,[54]⟩,⟨2,[],57,[0]⟩,⟨3,[],58,[]⟩,⟨4,[2,3],59,[56,57]⟩,⟨5,[4],60,[58]⟩,⟨6,[1,5,4],61,[55,59]⟩,⟨7,[0,1,2,3,4,5,6],62,[5]⟩,⟨8,[7,6,6,0,1,2,3,4,5,6],0,[61,60]⟩]
def Q4:List Row:=[⟨0,[],69,[5]⟩,⟨1,[0],70,[68]⟩,⟨2,[1],71,[69]⟩,⟨3,[],72,[0]⟩,⟨4,[3],73,[71]⟩,⟨5,[4],74,[72]⟩,⟨6,[2,5],75,[70,73]⟩]
theorem zy.Hm(h:zy w wr pc po ov out sb/\uk w0 wr pc cv us k)
 (ho:w5.ownsRow (w.heap.size+1) 3 1 v5 (out.length+1) (out.map (Value.int .i64)++[.int .i64 z])) (hg:(wr.alloc X).grownBy w5 ov.ownBlock) (hl:lY (wr.alloc X) ov v5):
 Hid (zy w (w5.setCell ⟨po,0,none⟩ v5) pc po v5 (out++[z]) sb/\uk w0 (w5.setCell ⟨po,0,none⟩ v5) pc cv us k)/\w5.cell? ⟨po,0,none⟩=some ov/\w5.frozen? ⟨po,0,none⟩=false:=
 let q:=h.1.put h.2 ho hg hl;⟨aI ⟨q.1,q.2.1⟩,q.2.2.1,q.2.2.2⟩
def ZG(w:World)(po:Nat):Nat:=match w.cell? ⟨po,0,none⟩with|some (.slice _ n _)=>n|_=>0
theorem Na{n c:Nat}{a:Option Addr}(h:w.cell? ⟨po,0,none⟩=some (.slice a n c)):ZG w po=n:=by unfold ZG;rw[h]
theorem Oc(w:World):Ints (w.alloc (.cells #[.int .i64 (-1),.int .i64 (-2),.int .i64 9] 3)) (.slice (some ⟨w.heap.size,0,none⟩) 3 3) [-1,-2,9]:=by
 have hown:(w.alloc (.cells #[.int .i64 (-1),.int .i64 (-2),.int .i64 9] 3)).ownsRow 0 3 1 (.slice (some ⟨w.heap.size,0,none⟩) 3 3) 3 (([-1,-2,9]:List Int).map (Value.int .i64)):=
  ⟨by simp,.inr ⟨w.heap.size,3,#[.int .i64 (-1),.int .i64 (-2),.int .i64 9],rfl,az _,dV w _,ax _,by decide,rfl,by simp⟩⟩
 exact Ints.dX hown (by decide)
theorem AO{k':Nat}(h:zy w wr pc po ov out sb/\uk w0 wr pc cv us k')(hk:k'<=k+60)(hs:sb.size<=60)(ho:out.length<=60):
 wr.cell? ⟨w.heap.size,0,none⟩=some (.slice none 0 0)/\wr.frozen? ⟨w.heap.size,0,none⟩=false/\(wr.setCell ⟨w.heap.size,0,none⟩ ov).cell? ⟨w.heap.size,1,none⟩=some (.string ⟨#[]⟩)/\(wr.setCell ⟨w.heap.size,0,none⟩ ov).frozen? ⟨w.heap.size,1,none⟩=false/\
 Hid (((wr.setCell ⟨w.heap.size,0,none⟩ ov).setCell ⟨w.heap.size,1,none⟩ (.string sb)).heap[w.heap.size]?=some (.cells #[ov,.string sb] 43 (0,0))/\Zo w0 w pc cv us k 60 (.returned (.agg #[ov,.string sb])) ((wr.setCell ⟨w.heap.size,0,none⟩ ov).setCell ⟨w.heap.size,1,none⟩ (.string sb))):=by
 obtain⟨m,c⟩:=h;have hp:=m.pz;have hq:=m.Zz;obtain⟨r0,r1,r2,r3⟩:=dn m.b1;refine⟨r0,r1,(r2 _).1,(r2 _).2,aI ⟨r3 _ _,ov,out,sb,rfl,?_,λb hb=>by have:=(m.own.lt b hb).1;omega,hs,⟨k',hk,?_⟩,?_⟩⟩
 .have hks:dW (λb=>b=w.heap.size) wr ((wr.setCell ⟨w.heap.size,0,none⟩ ov).setCell ⟨w.heap.size,1,none⟩ (.string sb)):=(dx (p:=⟨w.heap.size,0,none⟩)).trans (dx (p:=⟨w.heap.size,1,none⟩)) λ_ _ h=>h
  exact Ints.dX (aV m.own hks (λb hb e=>by have:=(m.own.lt b hb).1;omega)) (by omega)
 .have hks:dW (λb=>b=w.heap.size) wr ((wr.setCell ⟨w.heap.size,0,none⟩ ov).setCell ⟨w.heap.size,1,none⟩ (.string sb)):=(dx (p:=⟨w.heap.size,0,none⟩)).trans (dx (p:=⟨w.heap.size,1,none⟩)) λ_ _ h=>h
  exact c.keep hks (λb e=>by omega)
 .have hks:dW (λb=>b=w.heap.size) wr ((wr.setCell ⟨w.heap.size,0,none⟩ ov).setCell ⟨w.heap.size,1,none⟩ (.string sb)):=(dx (p:=⟨w.heap.size,0,none⟩)).trans (dx (p:=⟨w.heap.size,1,none⟩)) λ_ _ h=>h
  exact m.keep.trans hks (λb hb e=>by omega)
theorem Jj(h:zy w wr pc po ov out sb/\uk w0 wr pc cv us k):zy w wr.drew pc po ov out sb/\uk w0 wr.drew pc cv us k:=by
 have hk:dW (λ_=>False) wr wr.drew:=⟨rfl,rfl,rfl,ax _,λ_ _ _=>rfl⟩;exact⟨h.1.cur (vK hk λ_ e=>e.elim),h.2.keep hk λ_ e=>e.elim⟩
theorem FJ(h:uk w0 w pc cv us k)(hk:k<=1000)(most:Nat)(hm:most<=8)(hpc:pc<w.heap.size):
 Calls prog 40 #[.pointer (some ⟨pc,0,none⟩),.int .i64 ((most:Nat):Int)] w (Zo w0 w pc cv us k 60):=by
 obtain⟨i0,hi0,hz0,hz1,hz2⟩:=info_parts fB;obtain⟨W,hW,hx,b0,b1,hz⟩:=Uv w (.cells #[.slice none 0 0,.string ⟨#[]⟩] 43) (.cells #[.slice none 0 0,.string ⟨#[]⟩] 43);have hk0:dW (λ_=>False) w W:=⟨hx.os,hx.tape,hx.output,hx.size,λb hb _=>hx.block b hb⟩;have hD:zy w W pc (w.heap.size+1) (.slice none 0 0) [] ⟨#[]⟩:=⟨b0,b1,⟨by simp,.inl ⟨rfl,rfl⟩⟩,by simp[Value.ownBlock],by omega,hpc,vK hk0 λ_ e=>e.elim⟩;have hC:=h.keep hk0 (λb e=>e.elim);have hwm:wrap64 (((most:Nat):Int)+1)=(((most+1:Nat):Nat):Int):=by rw[Yo (by omega)];omega
 obtain⟨po,hpo⟩:=eu (w.heap.size+1);rw[<-hpo]at hD;clear hk0 b0 b1 hx hz h hpc;go_enter Tryz.func40,Tryz.ntmps40
 go_upto_region 2 with fail
 rw[<-hW,<-hpo];clear hW hpo;go_upto_region 3 with(go_at_call 83;refine(lD hC (by omega) (most+1) (by omega)).mono ?_;rintro e w1 ⟨x,hx,rfl,hg1⟩)
 obtain⟨⟨k1,hk1,hc1⟩,e1⟩:=hg1;have hD1:=hD.cur e1;have HXM:Hid (x<=8):=aI (by omega);clear hC hD e1 hx hwm;go_wp2
 go_loopw [7] (λiv wr=>∃(i k':Nat) (ov:Value) (out:List Int) (sb:ByteArray),iv=.int .i64 ((i:Nat):Int)/\i<=x/\out.length<=i/\sb.size<=i/\k'<=k+1+3*i/\Hid (zy w wr pc po ov out sb/\uk w0 wr pc cv us k')) (λiv _=>x-(intOf iv).toNat)
 case atStart=>exact⟨0,k1,_,[],_,rfl,az _,ax _,ax _,by omega,aI ⟨hD1,hc1⟩⟩
 case round=>
  clear hD1 hc1;obtain⟨i,k',ov,out,sb,rfl,hi,hol,hsb,hkk,HM⟩:=hrel;have Ae:=HXM.out;by_cases hlt:i<x
  .have h1:((i:Nat):Int)<((x:Nat):Int):=by omega
   have hk2:k'<=900000:=(by omega);have hk3:k'+1<=900000:=(by omega);have hi2:i+1<=200:=(by omega);have U2:=lD HM.out.2 (df hk2 (by decide)) (i+1) hi2;rw[fU]at U2;have U2:=aI U2;have yG:((x:Nat):Int)<=8:=(by omega);go_upto_region 7 with(go_at_call 83;refine U2.out.mono ?_;rintro e w3 ⟨z,hz,rfl,hg⟩)
   obtain⟨⟨k3,agF,hc3⟩,e3⟩:=hg;have oD:=HM.out.1.cur e3;have ajs:z<=200:=(by omega);clear hz e3;have JC:=jW oD hc3;have VJ:=aI (EZ hc3 (by omega) 2 (by omega));obtain⟨ao,co,rfl,Tc,Xp⟩:=bu oD.own;have hpz:=oD.pz;have HI:=JM hi0 hz0 hz1 hz2;have HB:=Hi5 hol hsb hkk hk1 (And.intro hi Ae);have hkb:k3<=k+30/\k<=1000:=(by omega);have HKB:=aI (show k3<=k+2+3*i by omega);have acD:out.length<=9:=(by omega);have acy:sb.size<=9:=(by omega);clear hc3 oD hk2 hk3 hi2 agF hkk hol hsb hi0 hz0 hz1 hz2 HM U2;go_upto_region 9 with(go_at_call 84;refine VJ.out.mono ?_;rintro e w4 ⟨y,rfl,hg4⟩)
   all_goals
    obtain⟨⟨k4,hk4,hc4⟩,e4⟩:=hg4;have yJ:=JC.out.1.cur e4;have CZ:=yJ.own;obtain⟨s0,s1,s2⟩:=yJ.cells;have Nl:=bq yJ.b2;have NR:=jW yJ hc4;clear hc4 yJ e4;go_upto_region 10 with(at_builtin;first|(refine dm rfl (.tmp 29) (.tmp 31) 41 rfl (w.heap.size+1) 3 i0 (.int .i64 0) 1 8 underlying41 HI.out.1 HI.out.2.1 HI.out.2.2.1 HI.out.2.2.2 rfl (by decide) (.slice ao out.length co) out.length (out.map (Value.int .i64)) rfl (CZ.alloc _) _ 1 _ [.int .i64 (((z:Nat):Int)-1)] rfl rfl (.inr ⟨_,rfl,dA (bY _ _ _)⟩) (by intro u hu;simp at hu;subst hu;rfl) (by unfold maxLen;omega) (by omega) (by rw[eX];omega) ?_;intro v5 w5 ji hg5 hl5;obtain⟨a5,c5,rfl,-⟩:=bu ji;obtain⟨H5,g5,f5⟩:=zy.Hm NR.out ji hg5 hl5)|(refine dm rfl (.tmp 29) (.tmp 31) 41 rfl (w.heap.size+1) 3 i0 (.int .i64 0) 1 8 underlying41 HI.out.1 HI.out.2.1 HI.out.2.2.1 HI.out.2.2.2 rfl (by decide) (.slice ao out.length co) out.length (out.map (Value.int .i64)) rfl (CZ.alloc _) _ 1 _ [.int .i64 (((i:Nat):Int)-1)] rfl rfl (.inr ⟨_,rfl,dA (bY _ _ _)⟩) (by intro u hu;simp at hu;subst hu;rfl) (by unfold maxLen;omega) (by omega) (by rw[eX];omega) ?_;intro v5 w5 ji hg5 hl5;obtain⟨a5,c5,rfl,-⟩:=bu ji;obtain⟨H5,g5,f5⟩:=zy.Hm NR.out ji hg5 hl5))
   all_goals
    obtain⟨Wg,Xv⟩:=eu ((w5.setCell ⟨po,0,none⟩ (.slice a5 (out.length+1) c5)).drew);have LK:=Jj H5.out;rw[<-Xv]at LK;obtain⟨t0,t1,t2⟩:=LK.1.cells;have hDa:=LK.1.alloc LK.2 (.cells #[.string ⟨#[76]⟩,.string ⟨#[82]⟩] 9);have hst:=GH Wg [⟨#[76]⟩,⟨#[82]⟩] (by decide);have hne:∀b,(Value.slice (some ⟨Wg.heap.size,0,none⟩) 2 2).ownBlock=some b->b≠pc:=λb hb e=>by
     have hb':Wg.heap.size=b:=(by simpa [Value.ownBlock]using hb);have:=bq LK.1.b1;have:=LK.1.Zz;omega
    have HOF:=aI (Ry hDa.2 (by omega) _ 2 [⟨#[76]⟩,⟨#[82]⟩] hst ⟨by decide,by decide⟩ hne);have HDA:=aI hDa;clear hDa hst hne LK s0 s1 s2 H5;go_upto_region 10 with fail
    refine mQ (λV=>V.cell? ⟨po,1,none⟩=some (.string sb)) [7] Q6 (by rw[<-Xv];exact t1) (λai aa=>?_);rw[<-Xv]at aa ⊢;clear Xv;(refine bg 0 ai aa ?_;refine bg 1 ai aa ?_;refine bg 2 ai aa ?_);(refine kS ai (i:=3) λK hK=>?_;go_simp);refine hK.out _ _ (λ_=>aQ aa _) ?_;clear hK K;(try simp only[nP]);(refine kS ai (i:=4) λK hK=>?_;go_simp);refine HOF.out.mono ?_;rintro e w6 ⟨t,ht,rfl,Xk⟩;obtain⟨⟨k6,hk6,hc6⟩,e6⟩:=Xk;have LF:=HDA.out.1.cur e6;obtain⟨v0,v1,v2⟩:=LF.cells;refine hK.out _ _ (λ_=>v1) ?_;clear hK K aa;have aa:=v1;(try simp only[nP]);have ht1:t.size<=1:=by
     rcases dZ.1 ht with rfl|ht
     .decide
     .rcases dZ.1 ht with rfl|ht
      .decide
      .cases ht
    have Ca:¬(9223372036854775807<sb.size+t.size):=(by omega);have HM6:=aI (LF.sign hc6 (sb++t));clear LF hc6 e6;(refine bg 5 ai aa ?_;refine bg 6 ai aa ?_);refine mM ai [7] [_] ?_;clear ai aa;go_wp2
    go_roundw
   all_goals first
    |exact⟨i+1,k6,_,_,_,by go_num,hlt,by rw[aK];have:=HB.out.1;simp;omega,by rw[ig];have:=HB.out.2.1;omega,by have:=HKB.out;omega,HM6⟩
    |(simp[intOf];omega)
  .have h1:¬(((i:Nat):Int)<((x:Nat):Int)):=by omega
   obtain⟨ao,co,rfl,Tc,Xp⟩:=bu HM.out.1.own;have VJ:=aI (EZ HM.out.2 (by omega) 12 (by omega));have hkb:k'<=k+25/\k<=1000:=(by omega);have acD:out.length<=8:=(by omega);have acy:sb.size<=8:=(by omega);have HI:=JM hi0 hz0 hz1 hz2;have hM:=HM.out.1;have hpz:=hM.pz;clear hkk hol hsb hi hk hm hk1 hi0 hz0 hz1 hz2 HXM hlt Ae;go_upto_region 12 with(go_at_call 84;refine VJ.out.mono ?_;rintro e w4 ⟨y,rfl,hg4⟩;obtain⟨⟨k4,hk4,hc4⟩,e4⟩:=hg4;have yJ:=hM.cur e4;obtain⟨t0,t1,t2⟩:=yJ.cells;obtain⟨r0,r1,r2,r3,HQ⟩:=AO (k:=k) ⟨yJ,hc4⟩ (by omega) (by omega) (by omega);have NR:=jW yJ hc4;clear yJ e4 hc4)
   .clear HQ r0 r1 r2 r3
    go_upto_region 13 with(go_at_call 83;refine(lD NR.out.2 (by omega) 3 (by omega)).mono ?_;rintro e w5 ⟨z,hz,rfl,hg5⟩)
    obtain⟨⟨k5,hk5,Da⟩,e5⟩:=hg5;have JI:=NR.out.1.cur e5;have hz3:z=0\/z=1\/z=2:=(by omega);obtain⟨t0,t1,t2⟩:=JI.cells;clear hz e5 NR;rcases hz3 with rfl|rfl|rfl
    .have Yf:=jW JI Da
     clear JI Da;go_upto_region 14 with fail
     go_wp2_with (go_at_call 86;refine(A9 Yf.out.2 (by omega) sb _ rfl (by omega)).mono ?_;rintro e w6 ⟨s',hs',rfl,Xk⟩;obtain⟨⟨k6,hk6,hc6⟩,e6⟩:=Xk;have LF:=Yf.out.1.cur e6;obtain⟨v0,v1,v2⟩:=LF.cells;have Qk:=LF.sign hc6 s';obtain⟨x0,x1,x2⟩:=Qk.1.cells;obtain⟨r0,r1,r2,r3,HQ⟩:=AO (k:=k) Qk (by omega) (by omega) (by omega);clear Qk LF e6 hc6)
     (try simp only[Exit.inBlock,Exit.then]);refine bodyPost_ret (results_cell_row rfl _ _ w.heap.size 43 #[.slice ao out.length co,.string s'] (0,0) _ rfl HQ.out.1 underlying43 rfl (by kernel_rfl)) rfl ?_;exact HQ.out.2
    .have Yf:=jW JI Da
     have HI2:=yD HI.out.1 HI.out.2.1 HI.out.2.2;clear JI Da;go_upto_region 16 with fail
     obtain⟨Wg,Xv⟩:=eu w5.drew;have LK:=Jj Yf.out;rw[<-Xv]at LK;obtain⟨u0,u1,u2⟩:=LK.1.cells;have hDa:=LK.1.alloc LK.2 (.cells #[.int .i64 (-1),.int .i64 (-2),.int .i64 9] 3);have hst:=Oc Wg;have hne:∀b,(Value.slice (some ⟨Wg.heap.size,0,none⟩) 3 3).ownBlock=some b->b≠pc:=λb hb e=>by
      have hb':Wg.heap.size=b:=(by simpa [Value.ownBlock]using hb);have:=bq LK.1.b1;have:=LK.1.Zz;omega
     have HAM:=aI (Ew hDa.2 (by omega) _ [-1,-2,9] hst ⟨by decide,by decide⟩ hne);have HDA:=aI hDa;clear hDa hst hne LK t0 t1 t2;refine mQ (λV=>V.cell? ⟨po,0,none⟩=some (.slice ao out.length co)) [7,8] Q5 (by rw[<-Xv];exact u0) (λai aa=>?_);rw[<-Xv]at aa ⊢;clear Xv u1 u2;(refine bg 0 ai aa ?_;refine bg 1 ai aa ?_;refine bg 2 ai aa ?_);(refine kS ai (i:=3) λK hK=>?_;go_simp);refine hK.out _ _ (λ_=>aQ aa _) ?_;clear hK K;(try simp only[nP]);(refine kS ai (i:=4) λK hK=>?_;go_simp);refine HAM.out.mono ?_;rintro e w6 ⟨zz,hzz,rfl,Xk⟩;obtain⟨⟨k6,hk6,hc6⟩,e6⟩:=Xk;have LF:=HDA.out.1.cur e6;obtain⟨v0,v1,v2⟩:=LF.cells;refine hK.out _ _ (λ_=>v0) ?_;clear hK K aa;have aa:=v0;(try simp only[nP]);have ho6:=LF.own;have hz6:=bq LF.b2;have HM6:=jW LF hc6;clear LF hc6 e6;(refine kS ai (i:=5) λK hK=>?_;go_simp);refine hK.out _ _ (λ_=>aQ aa _) ?_;clear hK K;(try simp only[nP]);refine kS ai (i:=6) λK hK=>?_
     refine gu rfl (.tmp 55) (.tmp 59) 41 rfl (w.heap.size+1) 3 i0 (.int .i64 0) 1 8 underlying41 HI.out.1 HI.out.2.1 HI.out.2.2.1 HI.out.2.2.2 rfl (by decide) (.slice ao out.length co) out.length (out.map (Value.int .i64)) rfl (by exact ho6.alloc (.cells #[.int .i64 zz] 3)) _ 1 _ [.int .i64 zz] rfl rfl (.inr ⟨_,rfl,dA (by exact bY w6 _ _)⟩) (by intro u hu;simp at hu;subst hu;rfl) (by unfold maxLen;omega) (by omega) (by show _<=(w6.alloc _).heap.size;rw[eX];omega) ?_;intro v7 w7 zf zS Lj;obtain⟨a7,c7,rfl,-⟩:=bu zf;obtain⟨H7,g7,f7⟩:=zy.Hm HM6.out zf zS Lj;refine hK.out _ _ (λ_=>g7) ?_;clear hK K aa v0 v1 v2;have aa:=g7;(try simp only[nP]);have Qk:=H7.out;obtain⟨t0,t1,t2⟩:=Qk.1.cells;have hM8:=Qk.1.sign Qk.2 (sb++⟨#[76]⟩);obtain⟨x0,x1,x2⟩:=hM8.1.cells;have hsz:(sb++⟨#[76]⟩:ByteArray).size=sb.size+1:=(by rw[ig];rfl);obtain⟨r0,r1,r2,r3,HQ⟩:=AO (k:=k) hM8 (by omega) (by omega) (by rw[aK];simp;omega);have Ca:¬(9223372036854775807<sb.size+1):=(by omega);clear Qk hM8 zf zS Lj ho6 hsz;refine mM ai [7,8] [_,_] ?_;clear ai aa;go_wp2
     (try simp only[Exit.inBlock,Exit.then]);refine bodyPost_ret (results_cell_row rfl _ _ w.heap.size 43 #[.slice a7 (out.length+1) c7,.string (sb++⟨#[76]⟩)] (0,0) _ rfl HQ.out.1 underlying43 rfl (by kernel_rfl)) rfl ?_;exact HQ.out.2
    .have Yf:=jW JI Da
     clear JI Da;go_wp2
     go_loopw [] (λwr2=>∃(k':Nat) (ov:Value) (out:List Int) (sb:ByteArray),out.length<=9/\sb.size<=out.length+8/\k'+10<=k5+out.length+10/\Hid (zy w wr2 pc po ov out sb/\uk w0 wr2 pc cv us k')) (λwr2=>9-ZG wr2 po)
     case atStart=>exact⟨k5,_,out,sb,by omega,by omega,by omega,Yf⟩
     case round=>
      clear hM acy acD t0 t1 t2;obtain⟨k',ov,out,sb,ho1,hs1,hkk,HM⟩:=hrel;obtain⟨ao,co,rfl,Tc,Xp⟩:=bu HM.out.1.own;obtain⟨k0,k1,k2⟩:=HM.out.1.cells;have wK:=aI (Na k0);go_upto_region 19 with fail
      refine mQ (λV=>V.cell? ⟨po,0,none⟩=some (.slice ao out.length co)) [6] Q4 k0 (λai aa=>?_);(refine bg 0 ai aa ?_;refine bg 1 ai aa ?_;refine bg 2 ai aa ?_;refine bg 3 ai aa ?_);(refine kS ai (i:=4) λK hK=>?_;go_simp);refine(lD (HM.out.2.drew 1) (by omega) 2 (by omega)).mono ?_;rintro e w5 ⟨y,hy,rfl,hg5⟩;have JI:=HM.out.1.cur (w3:=w5) ⟨hg5.2.os,hg5.2.tape,hg5.2.output,hg5.2.size,hg5.2.block⟩;obtain⟨⟨k6,hk6,hC5⟩,-⟩:=hg5;obtain⟨t0,t1,t2⟩:=JI.cells;have hy2:y<2:=(by omega);have ji:=JI.own;have Nk:=bq JI.b2;have amd:=JI.pz;have Yf:=jW JI hC5;clear JI hC5 hy;have aa:=t0;refine hK.out _ _ (λ_=>aa) ?_;clear hK K;(try simp only[nP]);(refine bg 5 ai aa ?_);refine mM ai [6] [_] ?_;clear ai aa;by_cases hcc:out.length<8+y
      .have hci:((out.length:Nat):Int)<8+((y:Nat):Int):=by omega
       have hol:out.length<=8:=(by omega);have HRM:Hid (∀v7 w7,((w7:World).setCell ⟨po,0,none⟩ v7).heap.size=w7.heap.size):=aI λv7 w7=>by simp
       go_upto_region 21 with(at_builtin;refine dm rfl (.tmp 76) (.tmp 77) 41 rfl (w.heap.size+1) 3 i0 (.int .i64 0) 1 8 underlying41 HI.out.1 HI.out.2.1 HI.out.2.2.1 HI.out.2.2.2 rfl (by decide) (.slice ao out.length co) out.length (out.map (Value.int .i64)) rfl (ji.alloc _) _ 1 _ [.int .i64 (-1)] rfl rfl (.inr ⟨_,rfl,dA (bY _ _ _)⟩) (by intro u hu;simp at hu;subst hu;rfl) (by unfold maxLen;omega) (by omega) (by rw[eX];omega) ?_;intro v7 w7 zf zS Lj;obtain⟨a7,c7,rfl,-⟩:=bu zf;obtain⟨H7,g7,f7⟩:=zy.Hm Yf.out zf zS Lj)
       obtain⟨v0,v1,v2⟩:=H7.out.1.cells;have hM8:=H7.out.1.sign H7.out.2 (sb++⟨#[82]⟩);have HS8:Hid ((sb++⟨#[82]⟩:ByteArray).size=sb.size+1):=aI (by rw[ig];rfl);have HM8:=aI hM8;have Ca:¬(9223372036854775807<sb.size+1):=(by omega);clear hM8 zf zS Lj ji;go_wp2
       go_roundw
       case rel=>exact⟨_,_,_,_,_,_,_,_,_,_,_,_,_,_,_,_,⟨k6,_,out++[-1],sb++⟨#[82]⟩,by simp;omega,by rw[HS8.out];simp;omega,by simp;omega,HM8⟩,rfl⟩
       case measure=>
        have e7:=HM8.out.1.cells.1;rw[Na e7,wK.out];omega
      .have hci:¬(((out.length:Nat):Int)<8+((y:Nat):Int)):=by omega
       obtain⟨r0,r1,r2,r3,HQ⟩:=AO (k:=k) Yf.out (by omega) (by omega) (by omega);clear ji k0 k1 k2;go_wp2
       (try simp only[Exit.inBlock,Exit.then]);refine bodyPost_ret (results_cell_row rfl _ _ w.heap.size 43 #[.slice ao out.length co,.string sb] (0,0) _ rfl HQ.out.1 underlying43 rfl (by kernel_rfl)) rfl ?_;exact HQ.out.2
   ·(try simp only[Exit.inBlock,Exit.then])
    refine bodyPost_ret (results_cell_row rfl _ _ w.heap.size 43 #[.slice ao out.length co,.string sb] (0,0) _ rfl HQ.out.1 underlying43 rfl (by kernel_rfl)) rfl ?_;exact HQ.out.2
