/-
  Memory of the program's reduced; what it yields; the law of canon. (4 texts.)
-/
import Derived.Test.YteknjeohbcgpdaaGreatDoorK21
import Derived.Test.YteknjeohbcgpdaaGreatDoorK23
set_option maxRecDepth 100000
namespace Go.Proofs.YteknjeohbcgpdaaGreatDoor
open Tryz
section
open Go.RowKit
open bO (dH Nd vl Same Ge)
variable {D:dH} {root:Nat} {left:Bool} {l:List Nat}
def abd(D:dH)(root:Nat)(left:Bool)(l:List Nat)(v:Int):Prop:=(v=-1/\∀y,y∈l->¬lZ D left root y)\/∃y,y∈l/\v=(y:Int)/\lZ D left root y
theorem E9{k:Nat}(hk:k<l.length)(h:Hid (∀j (h:j<l.length),j<k->¬lZ D left root l[j]))(hn:¬lZ D left root l[k]):Hid (∀j (h:j<l.length),j<k+1->¬lZ D left root l[j]):=by
 intro j hj hjk;by_cases e:j=k
 .subst e;exact hn
 .exact h j hj (by omega)
theorem SK(h:Hid (∀j (h:j<l.length),j<l.length->¬lZ D left root l[j])):abd D root left l (-1):=
 .inl ⟨rfl,λy hy=>by obtain⟨j,hj,rfl⟩:=aW.1 hy;exact h j hj hj⟩
theorem kg.at{T:Nat->Prop}{w:World}{a:Option Addr}{n c:Nat}{l:List Nat}(h:kg T w (.slice a n c) l):n=l.length/\l.length<=1152921504606846976/\(0<l.length->∃b off,a=some ⟨b,off,none⟩/\∀k (hk:k<l.length),w.cell? ⟨b,off+k,none⟩=some (.int .i64 (l[k]:Int))):=by
 obtain⟨a',c',e,-,hln,hcl⟩:=h.out;simp only[Value.slice.injEq,bJ]at e;obtain⟨rfl,rfl,rfl⟩:=e;rw[bJ]at hln hcl;refine⟨rfl,hln,λh0=>?_⟩;obtain⟨b,off,e,hc⟩:=hcl h0;exact⟨b,off,e,λk hk=>by rw[hc k hk,gy hk]⟩
set_option maxHeartbeats 2000000 in
theorem Bo(pp h:Nat)(s:iH)(root x:Nat)(left:Bool)(v:Value)(l:List Nat)(T:Nat->Prop)(w:World)(hP:dz w pp h s)(hr:root<s.D.length)(hl:∀x,x∈l->x<s.D.length)(hT:Off pp h s w T)(hv:kg T w v l):
 Calls prog 196 #[.pointer (some ⟨pp,0,none⟩),.int .i64 (root:Int),.int .i64 (x:Int),.bool left,v] w λe w'=>∃z:Int,e=.returned (.int .i64 z)/\abd s.D root left l z/\jK pp h s w s w':=by
 have hds:=hP.small;obtain⟨av,cv,rfl,-⟩:=id hv.out;rw[bJ]at hv ⊢;go_enter Tryz.func196,Tryz.ntmps196
 go_wp2
 go_loopw [12,15] (λ_ ii wr=>∃k:Nat,k<=l.length/\ii=.int .i64 ((k:Nat):Int)/\jK pp h s w s wr/\Hid (∀j (h:j<l.length),j<k->¬lZ s.D left root l[j])) (λ_ ii _=>l.length-(intOf ii).toNat)
 case atStart=>exact⟨0,aJ _,rfl,jK.refl hP (Below.refl _ _),λj _ h=>absurd h (by omega)⟩
 case round=>
  obtain⟨k,hk,rfl,hgo,HN⟩:=hrel;obtain⟨-,hln,hcl⟩:=kg.at (nN.go hv hT hgo);by_cases hlt:k<l.length
  .have h1:((k:Nat):Int)<((l.length:Nat):Int):=by omega
   obtain⟨b,off,rfl,hcell⟩:=hcl (by omega);have hck:=hcell k hlt;have hxl:=hl _ (ai hlt);have HV:=aQ hv;clear hcl hcell hv;cases left with
   |true=>
    have IH:=aQ (Cr pp h s root l[k] wr hgo.pool hr hxl);by_cases hge:lZ s.D true root l[k]
    .have Et:=aQ hge
     clear hge
     go_wp2_with (go_at_call 217;refine IH.out.mono ?_;rintro e wX ⟨g,rfl,hg,ib⟩
                  obtain rfl:g=true:=hg.2 (by simpa [lZ]using Et.out);clear hg)
     go_ret
     exact⟨_,rfl,.inr ⟨l[k],ai hlt,rfl,Et.out⟩,hgo.trans ib⟩
    .have Et:=aQ hge
     clear hge
     go_wp2_with (go_at_call 217;refine IH.out.mono ?_;rintro e wX ⟨g,rfl,hg,ib⟩
                  obtain rfl:g=false:=l8.2 (λe=>Et.out (by simpa [lZ]using hg.1 e));clear hg)
     go_roundw
     case rel=>exact⟨k+1,by omega,by go_num,hgo.trans ib,E9 hlt HN Et.out⟩
     case measure=>simp[intOf];omega
   |false=>
    have IH:=aQ (Cr pp h s l[k] root wr hgo.pool hxl hr);by_cases hge:lZ s.D false root l[k]
    .have Et:=aQ hge
     clear hge
     go_wp2_with (go_at_call 217;refine IH.out.mono ?_;rintro e wX ⟨g,rfl,hg,ib⟩
                  obtain rfl:g=true:=hg.2 (by simpa [lZ]using Et.out);clear hg)
     go_ret
     exact⟨_,rfl,.inr ⟨l[k],ai hlt,rfl,Et.out⟩,hgo.trans ib⟩
    .have Et:=aQ hge
     clear hge
     go_wp2_with (go_at_call 217;refine IH.out.mono ?_;rintro e wX ⟨g,rfl,hg,ib⟩
                  obtain rfl:g=false:=l8.2 (λe=>Et.out (by simpa [lZ]using hg.1 e));clear hg)
     go_roundw
     case rel=>exact⟨k+1,by omega,by go_num,hgo.trans ib,E9 hlt HN Et.out⟩
     case measure=>simp[intOf];omega
  .have h1:¬(((k:Nat):Int)<((l.length:Nat):Int)):=by omega
   have hke:k=l.length:=(by omega);subst hke;go_wp2
   go_ret
   exact⟨_,rfl,SK HN,hgo⟩
end
section
open Go.RowKit
open bO (dH Nd vl Same Ge)
variable {pp h i k:Nat} {s s':iH} {w w1 w2:World} {T:Nat->Prop} {D:dH} {left:Bool} {l:List Nat} {z:List Int}
theorem jK.side{G:Nat->Prop}(k:jK pp h s w s' w1)(hk:dX G w1 w2)(hG:∀b,G b->w.heap.size<=b/\¬jN pp h s' b/\¬s'.S b):jK pp h s w s' w2:=
 ⟨k.pool.keep hk (λb hb hg=>(hG b hg).2.1 hb) (λb hb hg=>(hG b hg).2.2 hb),k.keep.trans hk (λx hx hg=>by have:=(hG x hg).1;omega),k.own,k.old,k.lists,k.more,k.known⟩
def LJ(pp h:Nat)(s:iH)(w:World)(T:Nat->Prop):Prop:=∀b,T b->b<w.heap.size/\¬jN pp h s b/\¬s.S b
theorem LJ.go{w':World}(o:LJ pp h s w T)(k:jK pp h s w s' w'):LJ pp h s' w' T:=λb hb=>by
 have h1:=o b hb;have hz:=k.keep.size;refine⟨by omega,λh2=>?_,λh2=>?_⟩
 .rcases k.own b h2 with h3|h3
  .exact h1.2.1 h3
  .omega
 .rcases k.lists b h2 with h3|h3
  .exact h1.2.2 h3
  .omega
theorem LJ.off(o:LJ pp h s w T):Off pp h s w T:=λb hb=>⟨(o b hb).1,(o b hb).2.1⟩
theorem dz.new(k:dz w pp h s){b:Nat}(hb:w.heap.size<=b):¬jN pp h s b/\¬s.S b:=⟨λhc=>by have:=k.JH hc;omega,λhc=>by have:=k.yA hc;omega⟩
theorem ic.hit(h:ic D left l z i 0)(hi:i<l.length)(hd:Xy D left l i):ic D left l (z++[(i:Int)]) (i+1) 0:=by
 have hlt:∀y,y∈z->y<i:=λy hy=>by
  obtain⟨h0,_⟩:=h.bd y hy;obtain⟨j,rfl⟩:∃j:Nat,y=(j:Int):=⟨y.toNat,by omega⟩;rcases(h.mem j).1 hy with⟨a,_⟩|⟨_,k',b,_⟩
  .omega
  .omega
 refine⟨?_,λy hy=>?_,λj=>?_⟩
 .rw[oo]
  exact⟨h.Cf,by simp,λx hx y hy=>by simp at hy;subst hy;exact hlt x hx⟩
 .rcases bq.1 hy with hy|hy
  .exact h.bd y hy
  .simp at hy;omega
 .rw[bq,h.mem]
  simp only[lC];constructor
  .rintro((⟨a,b⟩|⟨_,k',b,_⟩)|a)
   .exact .inl ⟨by omega,b⟩
   .omega
   .obtain rfl:j=i:=by omega
    exact .inl ⟨by omega,hd⟩
  .rintro(⟨a,b⟩|⟨_,k',b,_⟩)
   .rcases fI j i with c|c
    .exact .inl (.inl ⟨c,b⟩)
    .exact .inr (by omega)
   .omega
theorem ic.miss(h:ic D left l z i 0)(hd:¬Xy D left l i):ic D left l z (i+1) 0:=by
 refine⟨h.Cf,h.bd,λj=>?_⟩;rw[h.mem];constructor
 .rintro(⟨a,b⟩|⟨_,k',b,_⟩)
  .exact .inl ⟨by omega,b⟩
  .omega
 .rintro(⟨a,b⟩|⟨_,k',b,_⟩)
  .rcases fI j i with c|c
   .exact .inl ⟨c,b⟩
   .obtain rfl:j=i:=by omega
    exact absurd b hd
  .omega
theorem Wz(p:Prop):∃g:Bool,g=true↔p:=by
 by_cases h:p
 .exact⟨true,by simp[h]⟩
 .exact⟨false,by simp[h]⟩
theorem mh(h:Hid (∀j,j<k->¬mi D left l i j))(hn:¬mi D left l i k):Hid (∀j,j<k+1->¬mi D left l i j):=by
 intro j hj;by_cases e:j=k
 .subst e;exact hn
 .exact h j (by omega)
theorem ada{gB gW:Bool}(hi:i<l.length)(hk:k<l.length)(hne:k≠i)(hB:gB=true↔Ge (vl D l[k]) (vl D l[i]))(hW:gW=true↔Ge (vl D l[i]) (vl D l[k])):
 mi D left l i k↔(if left then gB else gW)=true/\((if left then gW else gB)=false\/k<i):=by
 unfold mi lZ;simp only[List.getD,aa hi,aa hk,bW];cases left
 .simp only[lF,if_false,<-hB,<-hW,hne,ne_eq,not_false_eq_true,true_and,Bool.not_eq_true]
 .simp only[if_true,<-hB,<-hW,hne,ne_eq,not_false_eq_true,true_and,Bool.not_eq_true]
theorem jK.app{X:Obj}{ov:Value}{e:TypeId}{size n:Nat}{xs:List Value}(k:jK pp h s w s' w1)(ho:w1.ownsRow w.heap.size e size ov n xs)(hg:(w1.alloc X).grownBy w2 ov.ownBlock)
 (hc:∀b,ov.ownBlock=some b->¬jN pp h s' b/\¬s'.S b):jK pp h s w s' w2:=
 (k.ext (bS (Below.refl _ _) X)).side (fH hg) λb hb=>⟨(ho.lt b hb).1,hc b hb⟩
def WW(pp h:Nat)(s:iH)(left:Bool)(l:List Nat)(w:World)(e:Ending)(w':World):Prop:=∃v' z,e=.returned v'/\w'.ownsRow w.heap.size 3 1 v' z.length (z.map (Value.int .i64))/\ic s.D left l z l.length 0/\jK pp h s w s w'
set_option maxHeartbeats 4000000 in
theorem x8(pp h:Nat)(s:iH)(left:Bool)(v:Value)(l:List Nat)(T:Nat->Prop)(w:World)(hP:dz w pp h s)(hl:∀x,x∈l->x<s.D.length)(hll:l.length<=1000000)(hT:Off pp h s w T)(hv:kg T w v l):
 Calls prog 198 #[.pointer (some ⟨pp,0,none⟩),v,.bool left] w (WW pp h s left l w):=by
 have hds:=hP.small;obtain⟨i0,hi0,hz0,hz1,hz2⟩:=info_parts iw;obtain⟨av,cv,rfl,-⟩:=id hv.out;rw[bJ]at hv ⊢;have hown:∀{ov:Value} {W:World} {n:Nat} {xs:List Value},W.ownsRow w.heap.size 3 1 ov n xs->∀b,ov.ownBlock=some b->¬jN pp h s b/\¬s.S b:=λho b hb=>hP.new (ho.lt b hb).1
 go_enter Tryz.func198,Tryz.ntmps198
 have hr0:=fZ w w.heap.size (ay _) 3;have hx0:Ext w (w.alloc (.cells #[] 3)):=by go_grown
 go_wp2
 generalize w.alloc (.cells #[] 3)=W0 at *;go_loopw [7,8,9,17] (λov _ _ ii wr=>∃(i:Nat) (z:List Int),i<=l.length/\ii=.int .i64 ((i:Nat):Int)/\wr.ownsRow w.heap.size 3 1 ov z.length (z.map (Value.int .i64))/\ic s.D left l z i 0/\jK pp h s w s wr) (λ_ _ _ ii _=>l.length-(intOf ii).toNat)
 case atStart=>exact⟨0,[],aJ _,rfl,hr0,ic.nil _ _ _,jK.refl hP hx0⟩
 case round=>
  clear hr0 hx0;obtain⟨i,z,hi,rfl,hO,hI,hgo⟩:=hrel;by_cases hlt:i<l.length
  .have h1:((i:Nat):Int)<((l.length:Nat):Int):=by omega
   obtain⟨-,hln,hcl⟩:=kg.at (nN.go hv hT hgo);obtain⟨b,off,rfl,hcell⟩:=hcl (by omega);have hci:=hcell i hlt;have hxi:=hl _ (ai hlt);have hzl:=hI.len;obtain⟨ao,co,rfl,hco,_⟩:=bH hO;obtain⟨xi,abQ⟩:∃x,x=l[i]:=⟨_,rfl⟩;rw[<-abQ]at hci hxi;have HXI:=aQ abQ;have HD:=aQ hI;have HV:=aQ hv;clear hcl hcell abQ hI hv;obtain⟨wo,rfl⟩:∃wo:World,wo=wr:=⟨_,rfl⟩;go_wp2
   go_loopw [7,10,11,12,13,24] (λov _ _ _ _ kk wr=>∃k:Nat,k<=l.length/\kk=.int .i64 ((k:Nat):Int)/\ov=.slice ao z.length co/\wr.ownsRow w.heap.size 3 1 (.slice ao z.length co) z.length (z.map (Value.int .i64))/\jK pp h s w s wr/\Hid (∀j,j<k->¬mi s.D left l i j)) (λ_ _ _ _ _ kk _=>l.length-(intOf kk).toNat)
   case atStart=>exact⟨0,aJ _,rfl,rfl,hO,hgo,λj h=>absurd h (by omega)⟩
   case round=>
    clear hO hgo hci;obtain⟨k,hk,rfl,rfl,hO,hgo,HN⟩:=hrel;by_cases hkt:k<l.length
    .have h2:((k:Nat):Int)<((l.length:Nat):Int):=by omega
     obtain⟨-,-,hcl⟩:=kg.at (nN.go HV.out hT hgo);obtain⟨b',off',e,hcell⟩:=hcl (by omega);simp only[bN,Addr.mk.injEq,and_true]at e;obtain⟨rfl,rfl⟩:=e;have hck:=hcell k hkt;have hxk:=hl _ (ai hkt);by_cases hki:k=i
     .subst hki
      clear hcl hcell;go_wp2
      go_roundw
      case rel=>exact⟨k+1,by omega,by go_num,rfl,hO,hgo,mh HN (λh=>h.1 rfl)⟩
      case measure=>simp[intOf];omega
     .have h3:((k:Int)== (i:Int))=false:=by simp;omega
      obtain⟨xk,YL⟩:∃x,x=l[k]:=⟨_,rfl⟩;rw[<-YL]at hck hxk;obtain⟨gB,hB⟩:∃g:Bool,g=true↔Ge (vl s.D xk) (vl s.D xi):=Wz _;obtain⟨gW,hW⟩:∃g:Bool,g=true↔Ge (vl s.D xi) (vl s.D xk):=Wz _;have LH:=aQ (ada (left:=left) hlt hkt hki (by rw[<-YL,<-HXI.out];exact hB) (by rw[<-YL,<-HXI.out];exact hW));have q1:∀W,jK pp h s w s W->Calls prog 217 #[.pointer (some ⟨pp,0,none⟩),.int .i64 (xk:Int),.int .i64 (xi:Int)] W λe W'=>e=.returned (.bool gB)/\jK pp h s w s W'/\jK pp h s W s W':=λW hW'=>(Cr pp h s xk xi W hW'.pool hxk hxi).mono (by rintro e W' ⟨g,rfl,hg,hg2⟩;exact⟨by rw[jy.2 (hg.trans hB.symm)],hW'.trans hg2,hg2⟩)
      have q2:∀W,jK pp h s w s W->Calls prog 217 #[.pointer (some ⟨pp,0,none⟩),.int .i64 (xi:Int),.int .i64 (xk:Int)] W λe W'=>e=.returned (.bool gW)/\jK pp h s w s W'/\jK pp h s W s W':=λW hW'=>(Cr pp h s xi xk W hW'.pool hxi hxk).mono (by rintro e W' ⟨g,rfl,hg,hg2⟩;exact⟨by rw[jy.2 (hg.trans hW.symm)],hW'.trans hg2,hg2⟩)
      have Q1:=aQ q1;have Q2:=aQ q2;clear hcl hcell hB hW q1 q2 YL;have hno:=hown hO
      go_upto_region 10 with(first
       |(go_at_call 217;refine(Q2.out _ vR).mono ?_;rintro e w2 ⟨rfl,ib,aeU⟩)
       |(go_at_call 217;refine(Q1.out _ hgo).mono ?_;rintro e w1 ⟨rfl,vR,aeV⟩))
      have hO2:=bI (bI hO aeV.keep (λb hb=>(hno b hb).1)) aeU.keep (λb hb=>(hno b hb).1);clear hO hgo vR aeV aeU;rcases fI k i with ajW|ajW
      .have h4:((k:Nat):Int)<((i:Nat):Int):=by omega
       cases left with
       |true=>
        cases gB with
        |true=>
         cases gW with
         |true=>
          have hd:=aQ (show Xy s.D _ l i from⟨k,hkt,LH.out.2 (by simp <;> omega)⟩);go_wp2_with (at_builtin;refine dC rfl (.tmp 54) (.tmp 56) 80 rfl w.heap.size 3 i0 (.int .i64 0) 1 8 underlying80 hi0 hz0 hz1 hz2 rfl (by decide) (.slice ao z.length co) z.length (z.map (Value.int .i64)) rfl (hO2.alloc _) _ 1 _ [.int .i64 (i:Int)] rfl rfl (.inr ⟨_,rfl,dJ (dh _ _ _)⟩) one_cell (by unfold maxLen;omega) (by omega) (by rw[eQ];have:=ib.keep.size;omega) ?_;intro v5 w5 iT hg5 hl5)
          go_roundw
          case rel=>exact⟨i+1,z++[(i:Int)],by omega,by go_num,by rw[aK,bG];exact iT,ic.hit HD.out hlt hd.out,jK.app ib hO2 hg5 (hown hO2)⟩
          case measure=>simp[intOf];omega
         |false=>
          have hd:=aQ (show Xy s.D _ l i from⟨k,hkt,LH.out.2 (by simp <;> omega)⟩);go_wp2_with (at_builtin;refine dC rfl (.tmp 54) (.tmp 56) 80 rfl w.heap.size 3 i0 (.int .i64 0) 1 8 underlying80 hi0 hz0 hz1 hz2 rfl (by decide) (.slice ao z.length co) z.length (z.map (Value.int .i64)) rfl (hO2.alloc _) _ 1 _ [.int .i64 (i:Int)] rfl rfl (.inr ⟨_,rfl,dJ (dh _ _ _)⟩) one_cell (by unfold maxLen;omega) (by omega) (by rw[eQ];have:=ib.keep.size;omega) ?_;intro v5 w5 iT hg5 hl5)
          go_roundw
          case rel=>exact⟨i+1,z++[(i:Int)],by omega,by go_num,by rw[aK,bG];exact iT,ic.hit HD.out hlt hd.out,jK.app ib hO2 hg5 (hown hO2)⟩
          case measure=>simp[intOf];omega
        |false=>
         cases gW with
         |true=>
          have hn:=aQ (show ¬mi s.D _ l i k by intro h;have:=LH.out.1 h;simp at this <;> omega);go_wp2
          go_roundw
          case rel=>exact⟨k+1,by omega,by go_num,rfl,hO2,ib,mh HN hn.out⟩
          case measure=>simp[intOf];omega
         |false=>
          have hn:=aQ (show ¬mi s.D _ l i k by intro h;have:=LH.out.1 h;simp at this <;> omega);go_wp2
          go_roundw
          case rel=>exact⟨k+1,by omega,by go_num,rfl,hO2,ib,mh HN hn.out⟩
          case measure=>simp[intOf];omega
       |false=>
        cases gB with
        |true=>
         cases gW with
         |true=>
          have hd:=aQ (show Xy s.D _ l i from⟨k,hkt,LH.out.2 (by simp <;> omega)⟩);go_wp2_with (at_builtin;refine dC rfl (.tmp 54) (.tmp 56) 80 rfl w.heap.size 3 i0 (.int .i64 0) 1 8 underlying80 hi0 hz0 hz1 hz2 rfl (by decide) (.slice ao z.length co) z.length (z.map (Value.int .i64)) rfl (hO2.alloc _) _ 1 _ [.int .i64 (i:Int)] rfl rfl (.inr ⟨_,rfl,dJ (dh _ _ _)⟩) one_cell (by unfold maxLen;omega) (by omega) (by rw[eQ];have:=ib.keep.size;omega) ?_;intro v5 w5 iT hg5 hl5)
          go_roundw
          case rel=>exact⟨i+1,z++[(i:Int)],by omega,by go_num,by rw[aK,bG];exact iT,ic.hit HD.out hlt hd.out,jK.app ib hO2 hg5 (hown hO2)⟩
          case measure=>simp[intOf];omega
         |false=>
          have hn:=aQ (show ¬mi s.D _ l i k by intro h;have:=LH.out.1 h;simp at this <;> omega);go_wp2
          go_roundw
          case rel=>exact⟨k+1,by omega,by go_num,rfl,hO2,ib,mh HN hn.out⟩
          case measure=>simp[intOf];omega
        |false=>
         cases gW with
         |true=>
          have hd:=aQ (show Xy s.D _ l i from⟨k,hkt,LH.out.2 (by simp <;> omega)⟩);go_wp2_with (at_builtin;refine dC rfl (.tmp 54) (.tmp 56) 80 rfl w.heap.size 3 i0 (.int .i64 0) 1 8 underlying80 hi0 hz0 hz1 hz2 rfl (by decide) (.slice ao z.length co) z.length (z.map (Value.int .i64)) rfl (hO2.alloc _) _ 1 _ [.int .i64 (i:Int)] rfl rfl (.inr ⟨_,rfl,dJ (dh _ _ _)⟩) one_cell (by unfold maxLen;omega) (by omega) (by rw[eQ];have:=ib.keep.size;omega) ?_;intro v5 w5 iT hg5 hl5)
          go_roundw
          case rel=>exact⟨i+1,z++[(i:Int)],by omega,by go_num,by rw[aK,bG];exact iT,ic.hit HD.out hlt hd.out,jK.app ib hO2 hg5 (hown hO2)⟩
          case measure=>simp[intOf];omega
         |false=>
          have hn:=aQ (show ¬mi s.D _ l i k by intro h;have:=LH.out.1 h;simp at this <;> omega);go_wp2
          go_roundw
          case rel=>exact⟨k+1,by omega,by go_num,rfl,hO2,ib,mh HN hn.out⟩
          case measure=>simp[intOf];omega
      .have h4:¬(((k:Nat):Int)<((i:Nat):Int)):=by omega
       cases left with
       |true=>
        cases gB with
        |true=>
         cases gW with
         |true=>
          have hn:=aQ (show ¬mi s.D _ l i k by intro h;have:=LH.out.1 h;simp at this <;> omega);go_wp2
          go_roundw
          case rel=>exact⟨k+1,by omega,by go_num,rfl,hO2,ib,mh HN hn.out⟩
          case measure=>simp[intOf];omega
         |false=>
          have hd:=aQ (show Xy s.D _ l i from⟨k,hkt,LH.out.2 (by simp <;> omega)⟩);go_wp2_with (at_builtin;refine dC rfl (.tmp 54) (.tmp 56) 80 rfl w.heap.size 3 i0 (.int .i64 0) 1 8 underlying80 hi0 hz0 hz1 hz2 rfl (by decide) (.slice ao z.length co) z.length (z.map (Value.int .i64)) rfl (hO2.alloc _) _ 1 _ [.int .i64 (i:Int)] rfl rfl (.inr ⟨_,rfl,dJ (dh _ _ _)⟩) one_cell (by unfold maxLen;omega) (by omega) (by rw[eQ];have:=ib.keep.size;omega) ?_;intro v5 w5 iT hg5 hl5)
          go_roundw
          case rel=>exact⟨i+1,z++[(i:Int)],by omega,by go_num,by rw[aK,bG];exact iT,ic.hit HD.out hlt hd.out,jK.app ib hO2 hg5 (hown hO2)⟩
          case measure=>simp[intOf];omega
        |false=>
         cases gW with
         |true=>
          have hn:=aQ (show ¬mi s.D _ l i k by intro h;have:=LH.out.1 h;simp at this <;> omega);go_wp2
          go_roundw
          case rel=>exact⟨k+1,by omega,by go_num,rfl,hO2,ib,mh HN hn.out⟩
          case measure=>simp[intOf];omega
         |false=>
          have hn:=aQ (show ¬mi s.D _ l i k by intro h;have:=LH.out.1 h;simp at this <;> omega);go_wp2
          go_roundw
          case rel=>exact⟨k+1,by omega,by go_num,rfl,hO2,ib,mh HN hn.out⟩
          case measure=>simp[intOf];omega
       |false=>
        cases gB with
        |true=>
         cases gW with
         |true=>
          have hn:=aQ (show ¬mi s.D _ l i k by intro h;have:=LH.out.1 h;simp at this <;> omega);go_wp2
          go_roundw
          case rel=>exact⟨k+1,by omega,by go_num,rfl,hO2,ib,mh HN hn.out⟩
          case measure=>simp[intOf];omega
         |false=>
          have hn:=aQ (show ¬mi s.D _ l i k by intro h;have:=LH.out.1 h;simp at this <;> omega);go_wp2
          go_roundw
          case rel=>exact⟨k+1,by omega,by go_num,rfl,hO2,ib,mh HN hn.out⟩
          case measure=>simp[intOf];omega
        |false=>
         cases gW with
         |true=>
          have hd:=aQ (show Xy s.D _ l i from⟨k,hkt,LH.out.2 (by simp <;> omega)⟩);go_wp2_with (at_builtin;refine dC rfl (.tmp 54) (.tmp 56) 80 rfl w.heap.size 3 i0 (.int .i64 0) 1 8 underlying80 hi0 hz0 hz1 hz2 rfl (by decide) (.slice ao z.length co) z.length (z.map (Value.int .i64)) rfl (hO2.alloc _) _ 1 _ [.int .i64 (i:Int)] rfl rfl (.inr ⟨_,rfl,dJ (dh _ _ _)⟩) one_cell (by unfold maxLen;omega) (by omega) (by rw[eQ];have:=ib.keep.size;omega) ?_;intro v5 w5 iT hg5 hl5)
          go_roundw
          case rel=>exact⟨i+1,z++[(i:Int)],by omega,by go_num,by rw[aK,bG];exact iT,ic.hit HD.out hlt hd.out,jK.app ib hO2 hg5 (hown hO2)⟩
          case measure=>simp[intOf];omega
         |false=>
          have hn:=aQ (show ¬mi s.D _ l i k by intro h;have:=LH.out.1 h;simp at this <;> omega);go_wp2
          go_roundw
          case rel=>exact⟨k+1,by omega,by go_num,rfl,hO2,ib,mh HN hn.out⟩
          case measure=>simp[intOf];omega
    .have h2:¬(((k:Nat):Int)<((l.length:Nat):Int)):=by omega
     have hke:k=l.length:=(by omega);subst hke;have HNE:=aQ (show ¬Xy s.D left l i from λ⟨j,hj,hd⟩=>HN j hj hd);go_wp2
     go_roundw
     case rel=>exact⟨i+1,z,by omega,by go_num,hO,ic.miss HD.out HNE.out,hgo⟩
     case measure=>simp[intOf];omega
  .have h1:¬(((i:Nat):Int)<((l.length:Nat):Int)):=by omega
   have hke:i=l.length:=(by omega);subst hke;go_wp2
   go_ret
   exact⟨_,z,rfl,hO,hI,hgo⟩
end
section
open Go.RowKit
variable {z zs:List Int} {d k:Nat}
theorem Sm(ha:z.Pairwise (· < ·))(h1:∀y,y∈z.take d->y<(k:Int))(h2:∀y,y∈z.drop d->(k:Int)<=y):mI z (k:Int)=true↔∃zs,z.drop d=(k:Int):: zs:=by
 unfold mI;rw[decide_eq_true_iff];constructor
 .intro h
  rw[<-iV d z]at h;rcases bq.1 h with h|h
  .have:=h1 _ h;omega
  .cases hd:z.drop d with
   |nil=>rw[hd]at h;cases h
   |cons y zs=>
    rw[hd]at h;rcases eT.1 h with h|h
    .exact⟨zs,by rw[h]⟩
    .have hp:=ha.sublist (List.drop_sublist d z)
     rw[hd]at hp;have q1:=(ql.1 hp).1 _ h;have q2:=h2 y (by rw[hd];simp);omega
 .rintro⟨zs,e⟩
  exact jq (i:=d) (by rw[e];simp)
theorem Sk(ha:z.Pairwise (· < ·))(h1:∀y,y∈z.take d->y<(k:Int))(e:z.drop d=(k:Int):: zs):z.drop (d+1)=zs/\(∀y,y∈z.take (d+1)->y<((k+1:Nat):Int))/\∀y,y∈z.drop (d+1)->((k+1:Nat):Int)<=y:=by
 have e1:z.drop (d+1)=zs:=by rw[<-List.drop_drop,e];rfl
 refine⟨e1,λy hy=>?_,λy hy=>?_⟩
 .have hlt:d<z.length:=by
   rcases fI d z.length with c|c
   .exact c
   .rw[List.drop_eq_nil_of_le c]at e;cases e
  rw[bg hlt]at hy;rcases bq.1 hy with hy|hy
  .have:=h1 y hy;omega
  .simp at hy
   have:z[d]=(k:Int):=by
    have q:=lg hlt;rw[e]at q;injection q with q;exact q.symm
   omega
 .rw[e1]at hy
  have hp:=ha.sublist (List.drop_sublist d z);rw[e]at hp;have:=(ql.1 hp).1 y hy;omega
theorem Sl(h1:∀y,y∈z.take d->y<(k:Int))(h2:∀y,y∈z.drop d->(k:Int)<=y)(hn:mI z (k:Int)=false):(∀y,y∈z.take d->y<((k+1:Nat):Int))/\∀y,y∈z.drop d->((k+1:Nat):Int)<=y:=by
 refine⟨λy hy=>by have:=h1 y hy;omega,λy hy=>?_⟩;have:=h2 y hy;have hne:y≠(k:Int):=λe=>by
  subst e;have:mI z (k:Int)=true:=by unfold mI;rw[decide_eq_true_iff];exact jq hy
  rw[this]at hn;cases hn
 omega
def ado(l z:List Int)(w:World)(e:Ending)(w':World):Prop:=∃v',e=.returned v'/\w'.ownsRow w.heap.size 3 1 v' (qo l z).length ((qo l z).map (Value.int .i64))/\Ext w w'
theorem QI{w:World}{b off q cap:Nat}{y:Int}(h:Ints w (.slice (some ⟨b,off,none⟩) (q+1) cap) (y :: zs)):Ints w (.slice (some ⟨b,off+1,none⟩) q (cap-1)) zs:=by
 obtain⟨a,c,e,h1,h2,h3⟩:=h;simp only[Value.slice.injEq,fQ,Nat.add_right_cancel_iff]at e;obtain⟨rfl,rfl,rfl⟩:=e;simp only[fQ]at h1 h2 h3;obtain⟨b',off',e,hc⟩:=h3 (by omega);simp only[bN,Addr.mk.injEq,and_true]at e;obtain⟨rfl,rfl⟩:=e;refine⟨_,_,rfl,by omega,by omega,λ_=>⟨_,_,rfl,λi hi=>?_⟩⟩;have:=hc (i+1) (by omega);rw[show off+1+i=off+(i+1) by omega,this];simp[jo]
set_option maxHeartbeats 2000000 in
theorem Bn(v u:Value)(l z:List Int)(w:World)(h:Ints w v l)(g:Ints w u z)(hz:z.Pairwise (· < ·))(hz0':∀y,y∈z->0<=y)(hsz:l.length<=1000000000):
 Calls prog 197 #[v,u] w (ado l z w):=by
 obtain⟨a,cap,rfl,hlc,hcap,hc⟩:=h;obtain⟨i0,hi,hz0,hz1,hz2⟩:=info_parts iw;go_enter Tryz.func197,Tryz.ntmps197
 go_wp2
 go_loopw [1,5,6,7,11] (λpv o _ _ i wr=>∃k d:Nat,k<=l.length/\i=.int .i64 k/\wr.ownsRow w.heap.size 3 1 o (Jb l z k).length ((Jb l z k).map (Value.int .i64))/\Ext w wr/\Ints w pv (z.drop d)/\(∀y,y∈z.take d->y<(k:Int))/\∀y,y∈z.drop d->(k:Int)<=y) (λ_ _ _ _ i _=>l.length-(intOf i).toNat)
 case atStart=>exact⟨0,0,aJ _,rfl,fZ w _ (ay _) _,(Below.refl _ _).alloc (ay _) _,g,by simp,λy hy=>hz0' y (by simpa using hy)⟩
 case round=>
  obtain⟨k,d,hk,rfl,hown,jD,hI,hT,hD⟩:=hrel;by_cases hlt:k<l.length
  .obtain⟨b,off,rfl,hcell⟩:=hc (by omega)
   have hck:=hcell k hlt;have mZ:=(jD.cell (lt_of_cell hck)).trans hck;have hwl:=yO l z k;obtain⟨ao,co,rfl,_,_⟩:=bH hown;clear hcell hc hck;by_cases hin:mI z (k:Int)=true
   .obtain⟨zs,e⟩:=(Sm hz hT hD).1 hin
    have HW:=aQ (Sn l z k hin);have HN:=aQ (Sk hz hT e);rw[e]at hI;have HI:=aQ hI;obtain⟨pa,pc,rfl,hpc,hpl,ug⟩:=hI;obtain⟨q,hq⟩:∃q,q=zs.length:=⟨_,rfl⟩;have hq1:((k:Int):: zs).length=q+1:=(by rw[hq];rfl);rw[hq1]at hpc hpl ug HI ⊢;obtain⟨bp,op,rfl,hcp⟩:=ug (by omega);have hc0:=(jD.cell (lt_of_cell (hcp 0 (by omega)))).trans (hcp 0 (by omega));have e0:jo ((k:Int):: zs) 0=(k:Int):=(by simp[jo]);rw[e0,mG]at hc0;have HZ:=aQ hz;have HQ:=aQ hq;clear hcp ug e e0 hin hT hD hz hq1 hq;by_cases hq0:q=0
    .subst hq0
     go_wp2
     go_roundw
     case rel=>exact⟨k+1,d+1,by omega,by go_num,by rw[HW.out];exact hown,jD,by rw[HN.out.1,fK HQ.out.symm];exact Ints.nil _ _ _,HN.out.2.1,HN.out.2.2⟩
     case measure=>simp[intOf];omega
    .have hq1:¬(q+1=1):=by omega
     go_wp2
     go_roundw
     case rel=>exact⟨k+1,d+1,by omega,by go_num,by rw[HW.out];exact hown,jD,by rw[HN.out.1];exact QI HI.out,HN.out.2.1,HN.out.2.2⟩
     case measure=>simp[intOf];omega
   .have hin':mI z (k:Int)=false:=by simpa using hin
    have HW:=aQ (Og l z k hin');have HN:=aQ (Sl hT hD hin');have HI:=aQ hI;have HZ:=aQ hz;obtain⟨pa,pc,rfl,hpc,hpl,ug⟩:=hI;cases hd:z.drop d with
    |nil=>
     rw[hd]at HI;clear ug hT hD hin hz;go_wp2_with (at_builtin;refine dC rfl (.tmp 28) (.tmp 30) 80 rfl w.heap.size 3 i0 (.int .i64 0) 1 8 underlying80 hi hz0 hz1 hz2 rfl (by decide) (.slice ao (Jb l z k).length co) _ _ rfl (hown.alloc _) _ 1 _ [Value.int .i64 (jo l k)] rfl rfl (.inr ⟨_,rfl,dJ (dh _ _ _)⟩) one_cell (by unfold maxLen;omega) (by omega) (by have:=jD.size;simp;omega) ?_;intro v1 w1 ho1 hg1 _)
     go_roundw
     case rel=>
      refine⟨k+1,d,by omega,by go_num,?_,zS jD hown hg1,by rw[hd];exact HI.out,HN.out.1,HN.out.2⟩;rw[HW.out];simpa using ho1
     case measure=>simp[intOf];omega
    |cons y zs=>
     rw[hd]at HI hpc hpl ug;have hyk:¬(y=(k:Int)):=λe=>by
      have:=(Sm HZ.out hT hD).2 ⟨zs,by rw[hd,e]⟩;rw[hin']at this;cases this
     have apW:(y == (k:Int))=false:=(by simpa using hyk);obtain⟨q,hq⟩:∃q,q=zs.length:=⟨_,rfl⟩;have hq1:(y :: zs).length=q+1:=(by rw[hq];rfl);rw[hq1]at hpc hpl ug HI ⊢;obtain⟨bp,op,rfl,hcp⟩:=ug (by omega);have hc0:=(jD.cell (lt_of_cell (hcp 0 (by omega)))).trans (hcp 0 (by omega));have e0:jo (y :: zs) 0=y:=(by simp[jo]);rw[e0,mG]at hc0;have HQ:=aQ hd;clear ug hcp e0 hT hD hin hz hq1 hq hyk hd;go_wp2_with (at_builtin;refine dC rfl (.tmp 28) (.tmp 30) 80 rfl w.heap.size 3 i0 (.int .i64 0) 1 8 underlying80 hi hz0 hz1 hz2 rfl (by decide) (.slice ao (Jb l z k).length co) _ _ rfl (hown.alloc _) _ 1 _ [Value.int .i64 (jo l k)] rfl rfl (.inr ⟨_,rfl,dJ (dh _ _ _)⟩) one_cell (by unfold maxLen;omega) (by omega) (by have:=jD.size;simp;omega) ?_;intro v1 w1 ho1 hg1 _)
     go_roundw
     case rel=>
      refine⟨k+1,d,by omega,by go_num,?_,zS jD hown hg1,by rw[HQ.out];exact HI.out,HN.out.1,HN.out.2⟩;rw[HW.out];simpa using ho1
     case measure=>simp[intOf];omega
  .go_wp2
   go_ret
   have e:k=l.length:=(by omega);subst e;exact⟨_,rfl,hown,jD⟩
end
section
open Go.RowKit
open bO (dH Nd vl Same Ge)
variable {w wr wa w2:World} {B q line:List Nat} {n pp h mb i:Nat} {ys:List Value} {s:iH} {qv kv:Value}
theorem GL{B e:Nat}{v:Value}{l:List Nat}{m:Nat}(h:w.ownsRow B e 1 v n ys)(hn:n=m)(hy:ys=(dD l).map (Value.int .i64)):w.ownsRow B e 1 v m ((dD l).map (Value.int .i64)):=by subst hn;rw[<-hy];exact h
theorem kT(a b:List Nat):dD (a++b)=dD a++dD b:=by simp[dD]
structure gH(pp h:Nat)(s:iH)(w wr:World)(mb:Nat)(qv kv:Value)(q B line:List Nat):Prop where
 q:wr.ownsRow w.heap.size 3 1 qv q.length ((dD q).map (Value.int .i64))
 k:wr.ownsRow w.heap.size 3 1 kv B.length ((dD B).map (Value.int .i64))
 seen:∃f,gz prog 3 wr mb line.length f/\∀x:Nat,f (.int .i64 (x:Int))=if x∈line then some (.bool true)else none
 mb0:w.heap.size<=mb
 a1:qv.ownBlock≠some mb
 a2:kv.ownBlock≠some mb
 a3:∀b,qv.ownBlock=some b->kv.ownBlock≠some b
 wh:LJ pp h s wr (λb=>b=mb\/qv.ownBlock=some b\/kv.ownBlock=some b)
theorem gH.keep{pp h:Nat}{s s':iH}{w wr w2:World}{mb:Nat}{qv kv:Value}{q B line:List Nat}{G:Nat->Prop}(m:gH pp h s w wr mb qv kv q B line)(hk:dX G wr w2)(hG:∀b,b=mb\/qv.ownBlock=some b\/kv.ownBlock=some b->¬G b)
 (hc:LJ pp h s' w2 (λb=>b=mb\/qv.ownBlock=some b\/kv.ownBlock=some b)):gH pp h s' w w2 mb qv kv q B line:=by
 obtain⟨f,f1,f2⟩:=m.seen;exact⟨bI m.q hk (λb hb=>hG b (.inr (.inl hb))),bI m.k hk (λb hb=>hG b (.inr (.inr hb))),⟨f,f1.keep (hk.block _ f1.lt (hG mb (.inl rfl))),f2⟩,m.mb0,m.a1,m.a2,m.a3,hc⟩
theorem gH.go{pp h:Nat}{s s':iH}{w wr w2:World}{mb:Nat}{qv kv:Value}{q B line:List Nat}(m:gH pp h s w wr mb qv kv q B line)(g:jK pp h s wr s' w2):gH pp h s' w w2 mb qv kv q B line:=
 m.keep g.keep (λb hb=>(m.wh b hb).2.1) (m.wh.go g)
theorem LJ.ext{w':World}{T:Nat->Prop}(c:LJ pp h s w T)(hx:Ext w w'):LJ pp h s w' T:=λb hb=>⟨bz (c b hb).1 hx.size,(c b hb).2⟩
theorem gH.ext{pp h:Nat}{s:iH}{w wr w2:World}{mb:Nat}{qv kv:Value}{q B line:List Nat}(m:gH pp h s w wr mb qv kv q B line)(hx:Ext wr w2):gH pp h s w w2 mb qv kv q B line:=
 m.keep (fq (F:=λ_=>False) hx) (λ_ _=>id) (m.wh.ext hx)
theorem gH.push{qv':Value}{news:List Nat}(m:gH pp h s w wr mb qv kv q B line)(hP:dz wr pp h s)(hx:Ext wr wa)(hg:wa.grownBy w2 qv.ownBlock)
 (ho:w2.ownsRow w.heap.size 3 1 qv' n ys) (hn:n=(q++news).length) (hy:ys=(dD (q++news)).map (Value.int .i64)) (hl:kR wa qv qv'):gH pp h s w w2 mb qv' kv (q++news) B line:=by
 have hz:=hx.size;have hz2:=hg.size;have hL:∀b,qv'.ownBlock=some b->qv.ownBlock=some b\/wr.heap.size<=b:=λb hb=>by
  rcases hl with e|⟨g,e,k⟩
  .exact .inl (e ▸ hb)
  .rw[e]at hb;injection hb with hb;exact .inr (by omega)
 have m1:=m.ext hx;obtain⟨f,f1,f2⟩:=m1.seen;have hkg:=fH hg;have hcm:=m.wh;refine⟨GL ho hn hy,bI m1.k hkg (λb hb hq=>m.a3 b hq hb),⟨f,f1.keep (hkg.block _ f1.lt (λe=>m.a1 e)),f2⟩,m.mb0,λe=>?_,m.a2,λb hb hc=>?_,λb hb=>?_⟩
 .rcases hL mb e with h1|h1
  .exact m.a1 h1
  .have:=(hcm mb (.inl rfl)).1;omega
 .rcases hL b hb with h1|h1
  .exact m.a3 b h1 hc
  .have:=(hcm b (.inr (.inr hc))).1;omega
 .have hlt:=ho.lt
  rcases hb with rfl|hb|hb
  .have:=hcm _ (.inl rfl);exact⟨by omega,this.2⟩
  .refine⟨(hlt b hb).2,?_⟩
   rcases hL b hb with h1|h1
   .exact(hcm b (.inr (.inl h1))).2
   .exact hP.new h1
  .have:=hcm b (.inr (.inr hb));exact⟨by omega,this.2⟩
theorem gH.add{kv':Value}(m:gH pp h s w wr mb qv kv q B line)(hP:dz wr pp h s)(hx:Ext wr wa)(hg:wa.grownBy w2 kv.ownBlock)
 (ho:w2.ownsRow w.heap.size 3 1 kv' n ys) (hn:n=(B++[i]).length) (hy:ys=(dD (B++[i])).map (Value.int .i64)) (hl:kR wa kv kv'):gH pp h s w w2 mb qv kv' q (B++[i]) line:=by
 have hz:=hx.size;have hz2:=hg.size;have hL:∀b,kv'.ownBlock=some b->kv.ownBlock=some b\/wr.heap.size<=b:=λb hb=>by
  rcases hl with e|⟨g,e,k⟩
  .exact .inl (e ▸ hb)
  .rw[e]at hb;injection hb with hb;exact .inr (by omega)
 have m1:=m.ext hx;obtain⟨f,f1,f2⟩:=m1.seen;have hkg:=fH hg;have hcm:=m.wh;refine⟨bI m1.q hkg (λb hb hq=>m.a3 b hb hq),GL ho hn hy,⟨f,f1.keep (hkg.block _ f1.lt (λe=>m.a2 e)),f2⟩,m.mb0,m.a1,λe=>?_,λb hb hc=>?_,λb hb=>?_⟩
 .rcases hL mb e with h1|h1
  .exact m.a2 h1
  .have:=(hcm mb (.inl rfl)).1;omega
 .rcases hL b hc with h1|h1
  .exact m.a3 b hb h1
  .have:=(hcm b (.inr (.inl hb))).1;omega
 .have hlt:=ho.lt
  rcases hb with rfl|hb|hb
  .have:=hcm _ (.inl rfl);exact⟨by omega,this.2⟩
  .have:=hcm b (.inr (.inl hb));exact⟨by omega,this.2⟩
  .refine⟨(hlt b hb).2,?_⟩
   rcases hL b hb with h1|h1
   .exact(hcm b (.inr (.inr h1))).2
   .exact hP.new h1
theorem gH.mark{f:Value->Option Value}(m:gH pp h s w wr mb qv kv q B line)(hf:∀x:Nat,f (.int .i64 (x:Int))=if x∈line then some (.bool true)else none)
 (hM:gz prog 3 w2 mb (line.length+1) (upd (λ_ _=>Classical.propDecidable _) f (.int .i64 (i:Int)) (.bool true))) (hg:wr.grownBy w2 (some mb)):gH pp h s w w2 mb qv kv q B (line++[i]):=by
 have hk:=gJ hg;have hz:=hg.size;refine⟨bI m.q hk (λb hb e=>m.a1 (e ▸ hb)),bI m.k hk (λb hb e=>m.a2 (e ▸ hb)),⟨_,by rw[aK];exact hM,λx=>?_⟩,m.mb0,m.a1,m.a2,m.a3,λb hb=>⟨by have:=(m.wh b hb).1;omega,(m.wh b hb).2⟩⟩;by_cases e:x=i
 .subst e;rw[upd_same];simp
 .rw[upd_ne (by simp;omega),hf x];simp[e]
theorem gH.pop{g c:Nat}(m:gH pp h s w wr mb (.slice (some ⟨g,0,none⟩) (q++[i]).length c) kv (q++[i]) B line):gH pp h s w wr mb (.slice (some ⟨g,0,none⟩) q.length c) kv q B line:=by
 refine⟨?_,m.k,m.seen,m.mb0,m.a1,m.a2,m.a3,m.wh⟩;have:=Dl (k:=q.length) m.q (by simp);rw[kT,List.take_append_of_le_length (by rw[bJ];omega),bU (by rw[bJ];omega)]at this;exact this
theorem gH.look{pp h:Nat}{s:iH}{w wr:World}{mb:Nat}{qv kv:Value}{q B line:List Nat}(m:gH pp h s w wr mb qv kv q B line){x:Nat}(hx:x<1000000000)(W:World)(hW:W.heap[mb]?=wr.heap[mb]?):
 (Instr.lookup 187 (.map (some mb)) (.int .i64 (x:Int)) false).run prog W=.ok (.bool (decide (x∈line))) W:=by
 obtain⟨f,f1,f2⟩:=m.seen;obtain⟨kl,hkl⟩:=qz x hx;have:=(f1.keep hW).look oG underlying187 (aak W) hkl false;rw[this,f2];by_cases e:x∈line <;> simp[e]
def Grow(s:iH)(f:Nat)(s':iH):Prop:=(∀N,f<N->N<=s.D.length->s'.D.length+miss N s'.cn<=s.D.length+miss N s.cn)/\(∀x,x<s.D.length->s.cn x=none->(s'.cn x).isSome->bO.born (vl s.D x)<=bO.born (vl s.D f))/\∀x,s.D.length<=x->x<s'.D.length->(s'.cn x).isSome
def qG(s:iH)(f:Nat)(s':iH):Prop:=(∀N,f<N->N<=s.D.length->s'.D.length+miss N s'.cn<=s.D.length+miss N s.cn)/\(∀x,x<s.D.length->s.cn x=none->(s'.cn x).isSome->bO.born (vl s.D x)<bO.born (vl s.D f))/\∀x,s.D.length<=x->x<s'.D.length->(s'.cn x).isSome
theorem qG.refl(s:iH)(f:Nat):qG s f s:=⟨λ_ _ _=>ay _,λx _ h k=>(by rw[h]at k;cases k),λx a b=>absurd b (by omega)⟩
theorem qG.same{s1 s2:iH}{f:Nat}(g:qG s f s1)(hD:s2.D=s1.D)(hc:s2.cn=s1.cn):qG s f s2:=⟨λN a b=>by rw[hD,hc];exact g.1 N a b,λx a b c=>g.2.1 x a b (by rw[<-hc];exact c),λx a b=>by rw[hc];exact g.2.2 x a (by rw[<-hD];exact b)⟩
def qZ(D:dH)(cn:Nat->Option Nat)(left:Bool)(f:Nat):List Nat:=(opt D left f).map λx=>(cn x).getD 0
def mF(D:dH)(cn:Nat->Option Nat)(f:Nat)(left:Bool)(F:List Nat):Prop:=(∀x,x∈opt D left f->(cn x).isSome)/\∃line B,gQ D f left (qZ D cn left f) line B line.length/\wD D left B F
end
end Go.Proofs.YteknjeohbcgpdaaGreatDoor