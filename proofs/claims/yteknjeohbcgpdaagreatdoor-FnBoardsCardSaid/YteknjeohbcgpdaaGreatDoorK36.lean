/-
  Contract of the reference's l21Parts.
-/
import Derived.Test.YteknjeohbcgpdaaGreatDoorK34
set_option maxRecDepth 100000
namespace Go.Proofs.YteknjeohbcgpdaaGreatDoor
open Tryz
open Go.RowKit
open bO (fw GB fD Cs fr Grown sub uL D6 none_ uz Ba Bd)
variable {cl pl yF:Cl} {D D':Nat->Nat->Bool}
def uX:List Row:=[⟨0,[],74,[4]⟩,⟨1,[],75,[9]⟩,⟨2,[0,1],76,[73,74]⟩,⟨3,[2],77,[75]⟩,⟨4,[],78,[10]⟩,⟨5,[],79,[4]⟩,⟨6,[],80,[9]⟩,⟨7,[5,6],81,[78,79]⟩,⟨8,[7],82,[80]⟩,⟨9,[],83,[10]⟩,⟨10,[8,9],84,[81,82]⟩,⟨11,[10],85,[83]⟩,⟨12,[11],86,[84]⟩,⟨13,[12],87,[7,85]⟩,⟨14,[12],88,[9,85]⟩,⟨15,[13,14,12],89,[86,87,85]⟩,⟨16,[15,12],90,[88,85]⟩,⟨17,[12],91,[10,85]⟩,⟨18,[16,17,12],92,[89,90,85]⟩,⟨19,[18,12],93,[91,85]⟩,⟨20,[19,12],94,[92,85]⟩,⟨21,[12,20],95,[85,93]⟩,⟨22,[3,4,0,1,2,3,4,5,6,7,8,9,10,11,12,13,14,15,16,17,18,19,20,21],96,[76,77]⟩,⟨23,[22,21,12,0,1,2,3,4,5,6,7,8,9,10,11,12,13,14,15,16,17,18,19,20,21],0,[95,94]⟩]
def NV(b:fw)(w:World)(e:Ending)(w':World):Prop:=
 ∃v PL,e=.returned v/\Rows uM 1 (λb=>w.heap.size<=b/\b<w'.heap.size) w' v (PL.map (·.2))/\qP (fr b) (fr b) PL/\PL.length<=64/\(∃hh ww ks,GB b hh ww/\jL (fr b) hh ww (λ_ _=>True) ks (PL.map (·.2)))/\Ext w w'
structure Iy(S:Cs)(hh ww:Nat)(cl:Cl)(D:Nat->Nat->Prop)(PL:List (Cs × fw))(k:Nat):Prop where
 st:∃U,qP S U PL/\lK cl=sub S U/\Seen S U D
 done:∀r c,D r c->jk cl r c=false
 len:PL.length<=k
 px:∃ks,jL S hh ww D ks (PL.map (·.2))
theorem Iy.skip{S:Cs}{hh ww:Nat}{cl:Cl}{D D':Nat->Nat->Prop}{PL:List (Cs × fw)}{k k':Nat}(h:Iy S hh ww cl D PL k)(hD:∀r c,D' r c->D r c\/jk cl r c=false)(hM:∀r c,D r c->D' r c)(hL:∀r c x y,D x y->(r<x\/(r=x/\c<=y))->D r c)(hk:k<=k'):Iy S hh ww cl D' PL k':=by
 obtain⟨U,h1,h2,h3⟩:=h.st;have key:∀r c,jk cl r c=false->S r c=true->U r c=true:=λr c e s=>by
  cases q:U r c with
  |true=>rfl
  |false=>
   have:lK cl r c=true:=(by rw[h2];exact bO.mo.2 ⟨s,q⟩);unfold lK at this;rw[e]at this;cases this
 obtain⟨ks,hx⟩:=h.px;refine⟨⟨U,h1,h2,h3.skip hM λr c d s=>(hD r c d).imp id λe=>key r c e s⟩,λr c d=>by rcases hD r c d with e|e;exact h.done r c e;exact e,dn h.len hk,ks,hx.skip hM λr c d f=>?_⟩;rcases hD r c d with e|e
 .exact e
 .obtain⟨r0,c0,d0,q⟩:=h3.from_ r c (key r c e f.1)
  exact hL _ _ _ _ d0 (f.2 _ _ q.symm)
theorem Iy.add{S:Cs}{hh ww:Nat}{cl yF pl:Cl}{PL:List (Cs × fw)}{i k n:Nat}{y:fw}(h:Iy S hh ww cl (λr c=>r<i\/(r=i/\c<k)) PL n)(hg:Grown (lK cl) none_ (lK pl))(ho:Bc (lK pl) y)(hik:jk pl i k=true)
 (he:∀x z,jk yF x z=(jk cl x z && !jk pl x z)) (hd:∀x y,lK pl x y=true->none_ x y=true\/kZ (lK cl) i k x y) (hc:jk cl i k=true) (hk:k<8) (hy:BV hh ww (lK pl) y):Iy S hh ww yF (λr c=>r<i\/(r=i/\c<k+1)) (PL++[(lK pl,y)]) (n+1):=by
 obtain⟨U,h1,h2,h3⟩:=h.st;have hsu:S i k=true/\U i k=false:=by
  have:lK cl i k=true:=hc;rw[h2]at this;exact bO.mo.1 this
 have hcn:=QF h3 h2 hg hik hd hsu.2;obtain⟨ks,hx⟩:=h.px;refine⟨⟨_,h1.add (by rw[<-h2];exact hg) ho,?_,h3.part hcn (λr c d=>by omega) (λr c d=>by omega) (by omega) hsu.1⟩,λr c d=>?_,by rw[aK];have:=h.len;simp;omega,_,by
  rw[bG];exact(hx.add hk (h3.first hsu.1 hsu.2) (λr c d _=>d) hcn hy).skip (λr c d=>by omega) (λr c d _=>by omega)⟩
 .have e:lK yF=sub (lK cl) (lK pl):=by funext x z;exact he x z
  rw[e,h2,bO.Yd]
 .rw[he]
  by_cases e:r=i/\c=k
  .rw[e.1,e.2,hik];simp
  .rw[h.done r c (by omega)];rfl
def Taken(cl pl yF:Cl)(D:Nat->Nat->Bool):Prop:=∀x z,jk yF x z=(jk cl x z && !(D x z && jk pl x z))
theorem Taken.step{hh ww r q:Nat}(h:Taken cl pl yF D)(s:Sz yF hh ww)(hr:r<hh)(hq:q<ww)(hD:∀x z,D' x z=(D x z || (x == r && z == q)))(hn:D r q=false){b:Bool}(hb:b=(jk yF r q && !jk pl r q)):Taken cl pl (pG yF r q b) D':=by
 intro x z;rw[Pj s hr hq,hD];by_cases e:x=r/\z=q
 .obtain⟨rfl,rfl⟩:=e
  rw[if_pos ⟨rfl,rfl⟩,hb,h x z,hn];simp
 .rw[if_neg e,h x z]
  have:(x == r && z == q)=false:=by rw[l8];intro k;simp at k;exact e k
  rw[this,Bool.or_false]
theorem Taken.mono(h:Taken cl pl yF D)(hD:∀x z,jk cl x z=true->D' x z=D x z):Taken cl pl yF D':=by
 intro x z;rw[h x z];cases e:jk cl x z with
 |false=>rfl
 |true=>rw[hD x z e]
set_option maxHeartbeats 8000000 in
theorem zC(v:Value)(ss:List ByteArray)(hh ww:Nat)(w:World)(h:Strs w v ss)(g:GB (bd ss) hh ww):
 Calls prog 74 #[.agg #[v]] w (NV (bd ss) w):=by
 obtain⟨a,cap,rfl,hcap,p8⟩:=h.open;obtain⟨i0,hi0,hz0',hz1',hz2'⟩:=info_parts tZ;obtain⟨i1,hi1,hy0,hy1,hy2⟩:=info_parts yD;obtain⟨i2,hi2,hu0,hu1,hu2⟩:=info_parts uf;have h8:=g.h1;have w8:=g.w1;have hbb:((w.alloc (.cells #[.slice a ss.length cap] 31)).alloc (.cells #[] 31)).heap[w.heap.size]?=some (.cells #[.slice a ss.length cap] 31 (0,0)):=by
  rw[Below.heap_alloc _ _ _ (by simp)];exact heap_alloc_new _ _
 have hr0:=World.ownsRow_made (w.alloc (.cells #[.slice a ss.length cap] 31)) (base:=w.heap.size+1) (e:=31) (size:=1) #[] 0 (by rw[eQ];omega) (by decide) (by simp);have hx0:Ext w ((w.alloc (.cells #[.slice a ss.length cap] 31)).alloc (.cells #[] 31)):=by go_grown
 rw[eQ]at hr0;have hzb:((w.alloc (.cells #[.slice a ss.length cap] 31)).alloc (.cells #[] 31)).heap.size=w.heap.size+2:=by rw[eQ,eQ]
 have ZZ:=aQ hzb;have HGB:=aQ g;have hcell:∀W,Ext w W->Calls prog 75 #[.agg #[.slice a ss.length cap]] W λe w'=>∃v' sl,e=.returned v'/\Gr w' W.heap.size v' sl (gK ss)/\Ext W w':=λW hW=>pW _ ss hh ww W (h.ext hW) g
 have uB:=aQ (nL g);have hnn:=(nL g).hgt;have hmk:=λW:World=>run_make (P:=prog) W 106 4 i2 (.bool false) underlying106 hi2 hu0 .i64 .i64 (ww:Int) (ww:Int) (by omega) (by omega) (by rw[hu2];omega) (by omega)
 simp only[dP,hu1,jZ,Value.cells]at hmk;clear g hzb;go_enter Tryz.func74,Tryz.ntmps74
 go_upto_region 3 with(go_at_call 75;refine(hcell _ hx0).mono ?_;rintro e w1 ⟨vc,sl,rfl,hG,hx1⟩;obtain⟨gc,cc,rfl,-,-⟩:=hG.len)
 have hM0:PH w w1 w1 (.slice a ss.length cap) (.slice gc hh cc) sl hh ww (gK ss) (.slice (some ⟨w.heap.size+1,0,none⟩) 0 0) [] []:=by
  rw[ZZ.out,hnn]at hG;exact⟨(hx1.block _ (bu hbb)).trans hbb,hG,uB.out,bY hr0 hx1,λb hb=>by simp[Value.ownBlock]at hb;exact .inl hb.symm,Items.nil λb hb=>hb.2.1,ax hx0 hx1,λb hb=>by rw[<-hnn]at hb hG;exact(hG.lt hb).2,ay _⟩
 have ahw:Hid (Iy (fr (bd ss)) hh ww (gK ss) (λr _=>r<0) [] 0):=aQ ⟨⟨none_,qP.start _,by rw[Hr];funext r c;simp[sub,none_],(Seen.nil _).skip (λ_ _ h=>h.elim) (λ_ _ h _=>absurd h (by omega))⟩,λr c d=>absurd d (by omega),ay _,[],(jL.nil _ hh ww).skip (λ_ _ h=>h.elim) (λ_ _ h _=>absurd h (by omega))⟩;have HZ1:Hid (w.heap.size+2<=w1.heap.size):=aQ (by have:=hx1.size;have:=ZZ.out;omega);clear hbb hr0 hx0 hx1 hcell hnn hG ZZ;go_wp2
 go_loopw [3,5,6,7,8,9,10] (λov ii _ _ _ _ _ wr=>∃(i:Nat) (xs:List Value) (PL:List (Cs × fw)) (cl:Cl),ii=.int .i64 ((i:Nat):Int)/\i<=hh/\PH w w1 wr (.slice a ss.length cap) (.slice gc hh cc) sl hh ww cl ov xs (PL.map (·.2))/\Hid (Iy (fr (bd ss)) hh ww cl (λr _=>r<i) PL (i*ww))) (λ_ ii _ _ _ _ _ _=>hh-(intOf ii).toNat)
 case atStart=>exact⟨0,[],[],gK ss,rfl,aJ _,hM0,aQ (ahw.out.skip (λr c d=>.inl d) (λ_ _ d=>d) (λr c x y d e=>by omega) (by omega))⟩
 case round=>
  clear hM0 ahw uB;obtain⟨i,xs,PL,cl,rfl,hi,hM,N9⟩:=hrel;by_cases hlt:i<hh
  .have hil:((i:Nat):Int)<((hh:Nat):Int):=by omega
   have fJ:=aQ hlt;obtain⟨gt,ct,ar,cr,et,er,hct⟩:=hM.grid.rowAt hM.sz hlt;simp only[Value.slice.injEq,true_and]at et;obtain⟨rfl,rfl⟩:=et;clear er hlt;go_wp2
   go_loopw [3,6,7,8,9,10] (λov kk _ _ _ _ wr=>∃(k:Nat) (xs:List Value) (PL:List (Cs × fw)) (cl:Cl),kk=.int .i64 ((k:Nat):Int)/\k<=ww/\PH w w1 wr (.slice a ss.length cap) (.slice (some ⟨gt,0,none⟩) hh cc) sl hh ww cl ov xs (PL.map (·.2))/\Hid (Iy (fr (bd ss)) hh ww cl (λr c=>r<i\/(r=i/\c<k)) PL (i*ww+k))) (λ_ kk _ _ _ _ _=>ww-(intOf kk).toNat)
   case atStart=>exact⟨0,xs,PL,cl,rfl,aJ _,hM,aQ (N9.out.skip (λr c d=>.inl (by omega)) (λr c d=>by omega) (λr c x y d e=>by omega) (by omega))⟩
   case round=>
    clear hM N9 hct;obtain⟨k,xs,PL,cl,rfl,hk,hM,N9⟩:=hrel;by_cases hkl:k<ww
    .have hkl':((k:Nat):Int)<((ww:Nat):Int):=by omega
     have jl:=aQ hkl;obtain⟨gt2,ct2,g2,c2,Kz,Zu,htop,hbit,hfz⟩:=hM.grid.at2 hM.sz fJ.out hkl;simp only[Value.slice.injEq,true_and,bN,Addr.mk.injEq,and_true]at Kz;obtain⟨rfl,rfl⟩:=Kz;have HM:=aQ hM;clear hM Zu hkl hfz;cases hg0:jk cl i k with
     |false=>
      rw[hg0]at hbit;have HN:=aQ (N9.out.skip (D':=λr c=>r<i\/(r=i/\c<k+1)) (k':=i*ww+(k+1)) (λr c d=>by
       by_cases e:r=i/\c=k
       .exact .inr (by rw[e.1,e.2];exact hg0)
       .exact .inl (by omega)) (λr c d=>by omega) (λr c x y d e=>by omega) (by omega))
      clear hg0;go_wp2
      go_roundw
      case rel=>exact⟨k+1,xs,PL,cl,by go_num,jl.out,HM.out,HN⟩
      case measure=>have:=jl.out;simp[intOf];omega
     |true=>
      rw[hg0]at hbit;have HG0:=aQ hg0;clear hg0;obtain⟨wa,hwa⟩:∃wa,wa=wr:=⟨_,rfl⟩;have hr1:=World.ownsRow_made wr (base:=wr.heap.size) (e:=106) (size:=1) #[] 0 (ay _) (by decide) (by simp);have hx1:=bS (Below.refl wr.heap.size wr) (.cells #[] 106);go_upto_region 12 with fail
      rw[<-hwa]at HM hr1 hx1 htop hbit ⊢;clear hwa hbit htop;have Xh:Hid (Gr (wa.alloc (.cells #[] 106)) wa.heap.size (.slice (some ⟨wa.heap.size,0,none⟩) 0 0) (λ_=>.slice none 0 0) (List.replicate 0 (List.replicate ww false))):=aQ (Gr.nil hr1);clear hr1;go_loopw [7,8] (λpv rr wr=>∃(r:Nat) (ps:Nat->Value),rr=.int .i64 ((r:Nat):Int)/\r<=hh/\Ext wa wr/\Hid (Gr wr wa.heap.size pv ps (List.replicate r (List.replicate ww false)))) (λ_ rr _=>hh-(intOf rr).toNat)
      case atStart=>exact⟨0,_,rfl,aJ _,hx1,Xh⟩
      case round=>
       clear hx1 Xh;obtain⟨r,ps,rfl,hr,hx,Sb⟩:=hrel;by_cases hlt:r<hh
       .have hrl:((r:Nat):Int)<((hh:Nat):Int):=by omega
        have wI:=aQ hlt;obtain⟨gt3,ct3,ar3,cr3,VQ,er3,acx⟩:=(HM.out.ext' hx).grid.rowAt HM.out.sz hlt;simp only[Value.slice.injEq,true_and,bN,Addr.mk.injEq,and_true]at VQ;obtain⟨rfl,rfl⟩:=VQ;obtain⟨ap,cp,rfl,-,-⟩:=Sb.out.len;have HXA:=aQ hx;have DK:=Sb.out.row;have hlen:(List.replicate r (List.replicate ww false)).length=r:=(by simp);rw[hlen]at DK;have hzx:=hx.size;have hro:(wr.alloc (.cells (madeCells #[.bool false] ww) 4)).ownsRow wr.heap.size 4 1 (.slice (some ⟨wr.heap.size,0,none⟩) ww ww) ww ((List.replicate ww false).map Value.bool):=by
         rw[<-yx];exact World.ownsRow_lit wr _ _ (ay _) (by unfold maxLen;omega) (by rw[size_madeCells];simp)
        have hxm:=bS (Below.refl wr.heap.size wr) (.cells (madeCells #[.bool false] ww) 4);have HRO:=aQ hro;have hown2:=bY DK hxm;rw[hlen];clear hlt er3 hx hro DK hlen;go_wp2_with (at_builtin;refine dC rfl (.tmp 44) (.tmp 51) 104 rfl wa.heap.size 106 i1 (.slice none 0 0) 1 24 underlying104 hi1 hy0 hy1 hy2 rfl (by decide) (.slice ap r cp) r _ rfl (hown2.alloc _) _ 1 _ [.slice (some ⟨wr.heap.size,0,none⟩) ww ww] rfl rfl (.inr ⟨_,rfl,dJ (qf _ _ _ _)⟩) mD (by unfold maxLen;omega) (by omega) (by rw[eQ,eQ];omega) ?_;intro v5 w5 iT hg5 hl5)
        go_roundw
        case rel=>
         have hl2:(List.replicate r (List.replicate ww false)).length=r:=(by simp);have HP2:=Sb.out;rw[hl2]at HP2;obtain⟨ps',hS⟩:=Gr.push (r:=List.replicate ww false) HP2 hxm hzx (by simpa using HRO.out) (by rw[hl2];exact iT) hg5 hl5;refine⟨r+1,ps',by go_num,wI.out,dS (bS (ax HXA.out hxm) _) hg5 (λq hq=>(HP2.lt (.inl hq)).1),aQ ?_⟩;rw[List.replicate_succ'];exact hS
        case measure=>have:=wI.out;simp[intOf];omega
       .have hrl:¬(((r:Nat):Int)<((hh:Nat):Int)):=by omega
        have hre:r=hh:=(by omega);subst hre;obtain⟨ap,cp,rfl,-,-⟩:=Sb.out.len;have hlen:(List.replicate r (List.replicate ww false)).length=r:=(by simp);have oQ:=HM.out.ext' hx
        have acO:oU wr (w.heap.size+2) wa.heap.size (.slice (some ⟨gt,0,none⟩) r cc) sl cl (.slice ap (List.replicate r (List.replicate ww false)).length cp) ps (uD r ww) r ww:=
         ⟨oQ.grid,Sb.out,oQ.sz,CP r ww,λb hb hc=>by
          have h1:=HM.out.lt b hc;have h2:=(Sb.out.lt (.inr (by rw[hlen];exact hb))).1;have:=HM.out.z1;omega⟩
        have hgrow:=JY wr (w.heap.size+2) wa.heap.size _ sl cl _ ps (uD r ww) r ww (i:Int) (k:Int) acO h8 w8 (by omega) (by omega);rw[hlen]at hgrow ⊢;have HX:=aQ hx;have adr:=aQ acO;clear hx hlen acO hlt oQ;go_upto_region 16 with(go_at_call 125;refine hgrow.mono ?_;rintro e w4 ⟨pl,rfl,RZ,hK4,hG4,Pd,hD4⟩)
        have hx4:Ext wa w4:=jw HX.out hK4 (λb hb=>(adr.out.part.lt (.inr (by rw[adr.out.ss.hgt];exact hb))).1);have HIK:=aQ (Pd (by unfold EK;simp only[dK,decide_eq_true_eq,dP];exact⟨⟨by have:=fJ.out;omega,by have:=jl.out;omega⟩,HG0.out⟩));have X7:=aQ (And.intro hG4 hD4);have I5:=aQ RZ.part;have HSP:=aQ RZ.ss;have Ac:=HM.out.ext' hx4;have ag6:Hid (Taken cl pl cl (λx _=>decide (x<0))):=aQ (λx z=>by simp);have HZA:=aQ HM.out.z1;clear hgrow RZ hK4 hG4 Pd hD4 hx4 HX adr Sb;go_wp2
        go_loopw [9,10] (λrr _ wr=>∃(q:Nat) (yF:Cl),rr=.int .i64 ((q:Nat):Int)/\q<=r/\PH w w1 wr (.slice a ss.length cap) (.slice (some ⟨gt,0,none⟩) r cc) sl r ww yF u3 xs (PL.map (·.2))/\Hid (Gr wr wa.heap.size (.slice ap r cp) ps pl)/\Hid (Taken cl pl yF (λx _=>decide (x<q)))) (λrr _ _=>r-(intOf rr).toNat)
        case atStart=>exact⟨0,cl,rfl,aJ _,Ac,I5,ag6⟩
        case round=>
         clear Ac ag6;obtain⟨q,yF,rfl,hq,hM,I5,wH⟩:=hrel;by_cases hlt:q<r
         .have oH:((q:Nat):Int)<((r:Nat):Int):=by omega
          have Xj:=aQ hlt;obtain⟨gt3,ct3,ar3,cr3,VQ,er3,acx⟩:=hM.grid.rowAt hM.sz hlt;simp only[Value.slice.injEq,true_and,bN,Addr.mk.injEq,and_true]at VQ;obtain⟨rfl,rfl⟩:=VQ;clear er3 hlt;go_wp2
          go_loopw [10] (λzz wr=>∃(z:Nat) (yF:Cl),zz=.int .i64 ((z:Nat):Int)/\z<=ww/\PH w w1 wr (.slice a ss.length cap) (.slice (some ⟨gt,0,none⟩) r cc) sl r ww yF u3 xs (PL.map (·.2))/\Hid (Gr wr wa.heap.size (.slice ap r cp) ps pl)/\Hid (Taken cl pl yF (λx y=>decide (x<q\/(x=q/\y<z))))) (λzz _=>ww-(intOf zz).toNat)
          case atStart=>exact⟨0,yF,rfl,aJ _,hM,I5,aQ (wH.out.mono λx y _=>by rw[decide_eq_decide];omega)⟩
          case round=>
           clear hM wH acx;obtain⟨z,yF,rfl,hz,hM,I5,wH⟩:=hrel;by_cases hlz:z<ww
           .have hzl:((z:Nat):Int)<((ww:Nat):Int):=by omega
            have HLZ:=aQ hlz;obtain⟨gt3,ct3,g3,c3,VQ,e3,m1,m2,m3⟩:=hM.grid.at2 hM.sz Xj.out hlz;simp only[Value.slice.injEq,true_and,bN,Addr.mk.injEq,and_true]at VQ;obtain⟨rfl,rfl⟩:=VQ;obtain⟨gp,cp2,g4,c4,ep,e4,n1,n2,-⟩:=I5.out.at2 HSP.out Xj.out hlz;simp only[Value.slice.injEq,true_and]at ep;obtain⟨rfl,rfl⟩:=ep;have oH:((q:Nat):Int)<((r:Nat):Int):=(by have:=Xj.out;omega);have hxd:Ext wr wr.drew:=⟨rfl,rfl,rfl,ay _,λ_ _=>rfl⟩;have Lu:=hM.ext' hxd;have HMK:=λx=>aQ (Lu.mark Xj.out hlz e3 x)
            have HPK:=λx=>aQ ((I5.out.ext hxd).keep (Lu.mark Xj.out hlz e3 x).2.1 λb hb hbe=>by
             have h1:=(I5.out.lt hb).1;have h2:=(Lu.mark Xj.out hlz e3 x).2.2;have:=HZA.out;omega)
            have Sa:=λb hb=>aQ (wH.out.step (D':=λx y=>decide (x<q\/(x=q/\y<z+1))) hM.sz Xj.out hlz (λx y=>by
             rw[jy];simp;omega) (by simp) (b:=b) hb)
            clear hM Lu hxd e3 e4 hlz I5 wH;cases hx1:jk yF q z with
            |false=>
             rw[hx1]at m2;have HN:=Sa false (by rw[hx1];rfl);clear Sa hx1;go_upto_region 22 with fail
             refine bV (λW=>W.cell? ⟨gt,q,none⟩=some (.slice (some ⟨g3,0,none⟩) ww c3)/\W.cell? ⟨g3,z,none⟩=some (.bool false)/\W.cell? ⟨gp,q,none⟩=some (.slice (some ⟨g4,0,none⟩) ww c4)/\W.cell? ⟨g4,z,none⟩=some (.bool (jk pl q z))) [23] uX (by kernel_rfl) ⟨by kernel_rfl,by kernel_rfl,by kernel_rfl⟩ ⟨m1,m2,n1,n2⟩ (λaz ah=>?_);(refine bT 0 az ah ?_;refine bT 1 az ah ?_;refine bT 2 az ah ?_;refine bT 3 az ah ?_;refine bT 4 az ah ?_;refine bT 5 az ah ?_;refine bT 6 az ah ?_;refine bT 7 az ah ?_;refine bT 8 az ah ?_;refine bT 9 az ah ?_;refine bT 10 az ah ?_;refine bT 11 az ah ?_;refine bT 12 az ah ?_);((refine eu az (i:=13) (oi:=_) (v:=undef) (by simp only[gE];rfl) (by kernel_rfl) (by exact λ_ _ _ h=>h) ah (Or.inr ⟨by rfl,rfl⟩) ?r14);(try simp only[nP]);(refine eu az (i:=14) (oi:=_) (v:=undef) (by simp only[gE];rfl) (by kernel_rfl) (by exact λ_ _ _ h=>h) ah (Or.inr ⟨by rfl,rfl⟩) ?r15);(try simp only[nP]);(refine eu az (i:=15) (oi:=_) (v:=undef) (by simp only[gE];rfl) (by kernel_rfl) (by exact λ_ _ _ h=>h) ah (Or.inr ⟨by rfl,rfl⟩) ?r16);(try simp only[nP]);(refine eu az (i:=16) (oi:=_) (v:=undef) (by simp only[gE];rfl) (by kernel_rfl) (by exact λ_ _ _ h=>h) ah (Or.inr ⟨by rfl,rfl⟩) ?r17);(try simp only[nP]);(refine eu az (i:=17) (oi:=_) (v:=undef) (by simp only[gE];rfl) (by kernel_rfl) (by exact λ_ _ _ h=>h) ah (Or.inr ⟨by rfl,rfl⟩) ?r18);(try simp only[nP]);(refine eu az (i:=18) (oi:=_) (v:=undef) (by simp only[gE];rfl) (by kernel_rfl) (by exact λ_ _ _ h=>h) ah (Or.inr ⟨by rfl,rfl⟩) ?r19);(try simp only[nP]);(refine eu az (i:=19) (oi:=_) (v:=undef) (by simp only[gE];rfl) (by kernel_rfl) (by exact λ_ _ _ h=>h) ah (Or.inr ⟨by rfl,rfl⟩) ?r20);(try simp only[nP]);(refine eu az (i:=20) (oi:=_) (v:=undef) (by simp only[gE];rfl) (by kernel_rfl) (by exact λ_ _ _ h=>h) ah (Or.inr ⟨by rfl,rfl⟩) ?r21);(try simp only[nP]));(refine bT 21 az ah ?_;refine bT 22 az ah ?_);refine nU az [23] [_] ?_;clear az ah;go_wp2
             go_roundw
             case rel=>exact⟨z+1,_,by go_num,HLZ.out,(HMK false).out.1,HPK false,HN⟩
             case measure=>have:=HLZ.out;simp[intOf];omega
            |true=>
             rw[hx1]at m2;cases hx2:jk pl q z with
             |false=>
              rw[hx2]at n2;have HN:=Sa true (by rw[hx1,hx2];rfl);clear Sa hx1 hx2;go_upto_region 22 with fail
              refine bV (λW=>W.cell? ⟨gt,q,none⟩=some (.slice (some ⟨g3,0,none⟩) ww c3)/\W.cell? ⟨g3,z,none⟩=some (.bool true)/\W.cell? ⟨gp,q,none⟩=some (.slice (some ⟨g4,0,none⟩) ww c4)/\W.cell? ⟨g4,z,none⟩=some (.bool false)) [23] uX (by kernel_rfl) ⟨by kernel_rfl,by kernel_rfl,by kernel_rfl⟩ ⟨m1,m2,n1,n2⟩ (λaz ah=>?_);(refine bT 0 az ah ?_;refine bT 1 az ah ?_;refine bT 2 az ah ?_;refine bT 3 az ah ?_;refine bT 4 az ah ?_;refine bT 5 az ah ?_;refine bT 6 az ah ?_;refine bT 7 az ah ?_;refine bT 8 az ah ?_;refine bT 9 az ah ?_;refine bT 10 az ah ?_;refine bT 11 az ah ?_;refine bT 12 az ah ?_;refine bT 13 az ah ?_;refine bT 14 az ah ?_;refine bT 15 az ah ?_;refine bT 16 az ah ?_;refine bT 17 az ah ?_;refine bT 18 az ah ?_;refine bT 19 az ah ?_;refine bT 20 az ah ?_;refine bT 21 az ah ?_;refine bT 22 az ah ?_);refine nU az [23] [_] ?_;clear az ah;go_wp2
              go_roundw
              case rel=>exact⟨z+1,_,by go_num,HLZ.out,(HMK true).out.1,HPK true,HN⟩
              case measure=>have:=HLZ.out;simp[intOf];omega
             |true=>
              rw[hx2]at n2;have HN:=Sa false (by rw[hx1,hx2];rfl);clear Sa hx1 hx2;go_upto_region 22 with fail
              refine bV (λW=>W.cell? ⟨gt,q,none⟩=some (.slice (some ⟨g3,0,none⟩) ww c3)/\W.cell? ⟨g3,z,none⟩=some (.bool true)/\W.cell? ⟨gp,q,none⟩=some (.slice (some ⟨g4,0,none⟩) ww c4)/\W.cell? ⟨g4,z,none⟩=some (.bool true)) [23] uX (by kernel_rfl) ⟨by kernel_rfl,by kernel_rfl,by kernel_rfl⟩ ⟨m1,m2,n1,n2⟩ (λaz ah=>?_);(refine bT 0 az ah ?_;refine bT 1 az ah ?_;refine bT 2 az ah ?_;refine bT 3 az ah ?_;refine bT 4 az ah ?_;refine bT 5 az ah ?_;refine bT 6 az ah ?_;refine bT 7 az ah ?_;refine bT 8 az ah ?_;refine bT 9 az ah ?_;refine bT 10 az ah ?_;refine bT 11 az ah ?_;refine bT 12 az ah ?_;refine bT 13 az ah ?_;refine bT 14 az ah ?_;refine bT 15 az ah ?_;refine bT 16 az ah ?_;refine bT 17 az ah ?_;refine bT 18 az ah ?_;refine bT 19 az ah ?_;refine bT 20 az ah ?_;refine bT 21 az ah ?_;refine bT 22 az ah ?_);refine nU az [23] [_] ?_;clear az ah;go_wp2
              go_roundw
              case rel=>exact⟨z+1,_,by go_num,HLZ.out,(HMK false).out.1,HPK false,HN⟩
              case measure=>have:=HLZ.out;simp[intOf];omega
           .have hzl:¬(((z:Nat):Int)<((ww:Nat):Int)):=by omega
            have MP:z=ww:=(by omega);have HZE:=aQ MP;have oH:((q:Nat):Int)<((r:Nat):Int):=(by have:=Xj.out;omega);obtain⟨gt3,ct3,ar3,cr3,VQ,er3,acx⟩:=hM.grid.rowAt hM.sz Xj.out;simp only[Value.slice.injEq,true_and,bN,Addr.mk.injEq,and_true]at VQ;obtain⟨rfl,rfl⟩:=VQ;have IE:=aQ hM;clear MP hlz hM er3;go_wp2
            go_roundw
            case rel=>exact⟨q+1,yF,by go_num,Xj.out,IE.out,I5,aQ (wH.out.mono λx y hxy=>by
             have h1:=uj HM.out.sz hxy;have:=HZE.out;rw[decide_eq_decide];omega)⟩
            case measure=>have:=Xj.out;simp[intOf];omega
         .have oH:¬(((q:Nat):Int)<((r:Nat):Int)):=by omega
          have hqe:q=r:=(by omega);have HQE:=aQ hqe;have hb6:=tV _ ps pl r ww _ wr I5.out HSP.out h8 w8;have HE2:Hid (∀x z,jk yF x z=(jk cl x z && !jk pl x z)):=aQ λx z=>by
           rw[wH.out x z];cases e:jk cl x z with
           |false=>rfl
           |true=>
            have:=(uj HM.out.sz e).1;have hd:decide (x<q)=true:=decide_eq_true (by omega);simp only[hd,xB]
          obtain⟨ao,co,rfl,-,-⟩:=bH hM.own;have hoM:=hM.own;rw[bD]at hoM;have hbl:PL.length<=80:=by
           have l1:=N9.out.len;have l2:=gu (show i<=8 by have:=fJ.out;omega) w8.2;have:=jl.out;omega
          have HM6:=aQ hM;have HGC:Hid (GB (jE pl) r ww):=aQ (AZ HSP.out h8 w8);have HFC:Hid (∃r c,fr (jE pl) r c=true):=aQ ⟨i,k,by rw[sQ];show jk pl i k=true;have:=HIK.out;simpa using this⟩;have XH:=hM.ext.size;have YK:=HZ1.out;have apM:=hM.z1;clear hqe hlt hM wH HQE;rw[bD]
          go_wp2_with (first
           |(go_at_call 126;refine(JW _ s6 r ww _ ajf Km hf6).mono ?_;rintro e w7 ⟨v7,s7,t7,bo7,f7,o7,rfl,BF,Vk,acC,hx7⟩;obtain⟨a7,c7,rfl,-,-⟩:=bH BF;have ajw:=bY ajx hx7;have hz7:=hx7.size)
           |(go_at_call 127;refine hb6.mono ?_;rintro e w6 ⟨v6,s6,rfl,OZ,acD,hx6⟩;obtain⟨a6,c6,rfl,-,-⟩:=bH OZ;have Km:GB (bd s6) r ww:=by(rw[acD];exact HGC.out)
             have hf6:∃r c,fr (bd s6) r c=true:=(by(rw[acD];exact HFC.out));have ajf:=Strs.eD OZ (by have:=oh Km;omega);have ajx:=bY hoM hx6;have hz6:=hx6.size)
           |(at_builtin;refine dC rfl (.tmp 96) (.tmp 100) 57 rfl (w.heap.size+1) 31 i0 (.agg #[.slice none 0 0]) 1 24 underlying57 hi0 hz0' hz1' hz2' rfl (by decide) (.slice ao PL.length co) PL.length xs rfl (ajw.alloc _) _ 1 _ [.slice a7 s7.length c7] rfl rfl (.inr ⟨_,rfl,dJ (dh _ _ _)⟩) mD (by unfold maxLen;omega) (by omega) (by rw[eQ];omega) ?_;intro v8 w8' ho8 hg8 hl8))
          go_roundw
          case rel=>
           have DR:=zT Km Vk;have hs7:s7.length<=8:=by
            have e1:=DR.1.hgt;have e2:=DR.1.h1;rw[<-acC,iy]at e1;omega
           rw[acD]at acC Vk;rw[sQ]at Vk;have yg:=(N9.out.add (y:=oz (jE pl) t7 bo7 f7 o7) (by have:=X7.out.1;rw[uQ]at this;exact this) (Yp HSP.out h8 w8 Vk) (by have:=HIK.out;simpa using this) HE2.out (by have:=X7.out.2;rw[uQ]at this;simpa using this) HG0.out (by have:=jl.out;omega) ⟨_,_,_,_,_,AZ HSP.out h8 w8,sQ _,Vk,rfl⟩);have hMP:=HM6.out;rw[bD]at hMP;have HPM:=hMP.push (ax hx6 hx7) (jV BF hz6) acC hs7 (by rw[bD];exact ho8) hg8 hl8;exact⟨k+1,_,PL++[(lK pl,oz (jE pl) t7 bo7 f7 o7)],yF,by go_num,jl.out,by rw[bG];exact HPM,aQ ⟨yg.st,yg.done,by have:=yg.len;omega,yg.px⟩⟩
          case measure=>have:=jl.out;simp[intOf];omega
    .have hkl':¬(((k:Nat):Int)<((ww:Nat):Int)):=by omega
     have hke:k=ww:=(by omega);have Er:=aQ hke;obtain⟨gt2,ct2,ar2,cr2,Kz,er2,hct⟩:=hM.grid.rowAt hM.sz fJ.out;simp only[Value.slice.injEq,true_and,bN,Addr.mk.injEq,and_true]at Kz;obtain⟨rfl,rfl⟩:=Kz;have HM:=aQ hM;clear hke hkl hM er2;go_wp2
     go_roundw
     case rel=>exact⟨i+1,xs,PL,cl,by go_num,fJ.out,HM.out,aQ (N9.out.skip (λr c d=>by
      by_cases e:jk cl r c=true
      .have h1:=uj HM.out.sz e
       have:=Er.out;exact .inl (by omega)
      .exact .inr (by simpa using e)) (λr c d=>by omega) (λr c x y d e=>by omega) (by rw[Er.out,uI];exact ay _))⟩
     case measure=>have:=fJ.out;simp[intOf];omega
  .have hil:¬(((i:Nat):Int)<((hh:Nat):Int)):=by omega
   have hie:i=hh:=(by omega);have Gq:=aQ hie;obtain⟨ao,co,rfl,-,-⟩:=bH hM.own;have HM:=aQ hM;clear hie hlt hM;go_wp2
   go_ret
   have hM:=HM.out;rw[bD]at hM;refine⟨.slice ao PL.length co,PL,rfl,Rows.eD hM.own rfl hM.it (λb hb=>⟨by have:=hb.1;have:=HZ1.out;omega,hb.2.1⟩) (λb hb=>⟨by have:=(hM.own.lt b hb).1;omega,(hM.own.lt b hb).2⟩) (λb hb=>hb.2),?_,?_,⟨hh,ww,?_⟩,hM.ext⟩
   .obtain⟨U,h1,h2,-⟩:=N9.out.st
    have e:U=fr (bd ss):=bO.AQ λx y=>⟨λhU=>h1.shut.1 _ _ hU,λhS=>by
     cases hU:U x y with
     |true=>rfl
     |false=>
      exfalso;have h3:lK cl x y=true:=(by rw[h2];exact bO.mo.2 ⟨hS,hU⟩);have h4:=(uj hM.sz h3).1;have h5:=N9.out.done x y (by have:=Gq.out;omega);unfold lK at h3;rw[h5]at h3;cases h3⟩
    rw[e]at h1;exact h1
   .have l1:=N9.out.len
    have l2:=gu (show i<=8 by omega) w8.2;omega
   .obtain⟨ks,hx⟩:=N9.out.px
    exact⟨ks,HGB.out,hx.skip (λ_ _ _=>trivial) (λr c _ hf=>by have:=(HGB.out.Az hf.1).1;have:=Gq.out;omega)⟩
end Go.Proofs.YteknjeohbcgpdaaGreatDoor