/- 18 -/
import Derived.Test.YtplgooajigigkaaGreatDoorK17
set_option maxRecDepth 100000
set_option maxHeartbeats 4000000
namespace Go.Proofs.YtplgooajigigkaaGreatDoor
open Tryz
section
open Go.RowKit
open bE (dh Nd vl Same Ge)
variable {D:dh} {root:Nat} {left:Bool} {l:List Nat}
def acF(D:dh)(root:Nat)(left:Bool)(l:List Nat)(v:Int):Prop:=(v=-1/\∀y,y∈l->¬nU D left root y)\/∃y,y∈l/\v=(y:Int)/\nU D left root y
theorem Hg{k:Nat}(hk:k<l.length)(h:Hid (∀j (h:j<l.length),j<k->¬nU D left root l[j]))(hn:¬nU D left root l[k]):Hid (∀j (h:j<l.length),j<k+1->¬nU D left root l[j]):=by
 intro j hj hjk;by_cases e:j=k
 .subst e;exact hn
 .exact h j hj (by omega)
theorem U5(h:Hid (∀j (h:j<l.length),j<l.length->¬nU D left root l[j])):acF D root left l (-1):=
 .inl ⟨rfl,λy hy=>by obtain⟨j,hj,rfl⟩:=aQ.1 hy;exact h j hj hj⟩
theorem ji.at{T:Nat->Prop}{w:World}{a:Option Addr}{n c:Nat}{l:List Nat}(h:ji T w (.slice a n c) l):n=l.length/\l.length<=1152921504606846976/\(0<l.length->∃b off,a=some ⟨b,off,none⟩/\∀k (hk:k<l.length),w.cell? ⟨b,off+k,none⟩=some (.int .i64 (l[k]:Int))):=by
 obtain⟨a',c',e,-,hln,hcl⟩:=h.out;simp only[il,bG]at e;obtain⟨rfl,rfl,rfl⟩:=e;rw[bG]at hln hcl;refine⟨rfl,hln,λh0=>?_⟩;obtain⟨b,off,e,hc⟩:=hcl h0;exact⟨b,off,e,λk hk=>by rw[hc k hk,iA hk]⟩
theorem C9(pp h:Nat)(s:jF)(root x:Nat)(left:Bool)(v:Value)(l:List Nat)(T:Nat->Prop)(w:World)(hP:dA w pp h s)(hr:root<s.D.length)(hl:∀x,x∈l->x<s.D.length)(hT:Off pp h s w T)(hv:ji T w v l):
 Calls prog 174 #[.pointer (some ⟨pp,0,none⟩),.int .i64 (root:Int),.int .i64 (x:Int),.bool left,v] w λe w'=>∃z:Int,e=.returned (.int .i64 z)/\acF s.D root left l z/\jr pp h s w s w':=by
 have hds:=hP.small;obtain⟨av,cv,rfl,-⟩:=id hv.out;rw[bG]at hv ⊢;go_enter Tryz.func174,Tryz.ntmps174
 go_wp2
 go_loopw [12,15] (λ_ ii wr=>∃k:Nat,k<=l.length/\ii=.int .i64 ((k:Nat):Int)/\jr pp h s w s wr/\Hid (∀j (h:j<l.length),j<k->¬nU s.D left root l[j])) (λ_ ii _=>l.length-(intOf ii).toNat)
 case atStart=>exact⟨0,aU _,rfl,jr.refl hP (gz _ _),λj _ h=>absurd h (by omega)⟩
 case round=>
  obtain⟨k,hk,rfl,hgo,HN⟩:=hrel;obtain⟨-,hln,hcl⟩:=ji.at (oN.go hv hT hgo);by_cases hlt:k<l.length
  .have h1:((k:Nat):Int)<((l.length:Nat):Int):=by omega
   obtain⟨b,off,rfl,hcell⟩:=hcl (by omega);have hck:=hcell k hlt;have hxl:=hl _ (ai hlt);have HV:=aW hv;clear hcl hcell hv;cases left with
   |true=>
    have IH:=aW (A7 pp h s root l[k] wr hgo.pool hr hxl);by_cases hge:nU s.D true root l[k]
    .have Cg:=aW hge
     clear hge
     go_wp2_with (go_at_call 144;refine IH.out.mono ?_;rintro e wX ⟨g,rfl,hg,gZ⟩
                  obtain rfl:g=true:=hg.2 (by simpa [nU]using Cg.out);clear hg)
     go_ret
     exact⟨_,rfl,.inr ⟨l[k],ai hlt,rfl,Cg.out⟩,hgo.trans gZ⟩
    .have Cg:=aW hge
     clear hge
     go_wp2_with (go_at_call 144;refine IH.out.mono ?_;rintro e wX ⟨g,rfl,hg,gZ⟩
                  obtain rfl:g=false:=iT.2 (λe=>Cg.out (by simpa [nU]using hg.1 e));clear hg)
     go_roundw
     case rel=>exact⟨k+1,by omega,by go_num,hgo.trans gZ,Hg hlt HN Cg.out⟩
     case measure=>simp[intOf];omega
   |false=>
    have IH:=aW (A7 pp h s l[k] root wr hgo.pool hxl hr);by_cases hge:nU s.D false root l[k]
    .have Cg:=aW hge
     clear hge
     go_wp2_with (go_at_call 144;refine IH.out.mono ?_;rintro e wX ⟨g,rfl,hg,gZ⟩
                  obtain rfl:g=true:=hg.2 (by simpa [nU]using Cg.out);clear hg)
     go_ret
     exact⟨_,rfl,.inr ⟨l[k],ai hlt,rfl,Cg.out⟩,hgo.trans gZ⟩
    .have Cg:=aW hge
     clear hge
     go_wp2_with (go_at_call 144;refine IH.out.mono ?_;rintro e wX ⟨g,rfl,hg,gZ⟩
                  obtain rfl:g=false:=iT.2 (λe=>Cg.out (by simpa [nU]using hg.1 e));clear hg)
     go_roundw
     case rel=>exact⟨k+1,by omega,by go_num,hgo.trans gZ,Hg hlt HN Cg.out⟩
     case measure=>simp[intOf];omega
  .have h1:¬(((k:Nat):Int)<((l.length:Nat):Int)):=by omega
   have hke:k=l.length:=(by omega);subst hke;go_wp2
   go_ret
   exact⟨_,rfl,U5 HN,hgo⟩
end
section
open Go.RowKit
open bE (dh Nd vl Same Ge)
variable {pp h i k:Nat} {s s':jF} {w w1 w2:World} {T:Nat->Prop} {D:dh} {left:Bool} {l:List Nat} {z:List Int}
theorem jr.side{G:Nat->Prop}(k:jr pp h s w s' w1)(hk:fJ G w1 w2)(hG:∀b,G b->w.heap.size<=b/\¬lg pp h s' b/\¬s'.S b):jr pp h s w s' w2:=
 ⟨k.pool.keep hk (λb hb hg=>(hG b hg).2.1 hb) (λb hb hg=>(hG b hg).2.2 hb),k.keep.trans hk (λx hx hg=>by have:=(hG x hg).1;omega),k.own,k.old,k.lists,k.more,k.known⟩
def Nn(pp h:Nat)(s:jF)(w:World)(T:Nat->Prop):Prop:=∀b,T b->b<w.heap.size/\¬lg pp h s b/\¬s.S b
theorem Nn.go{w':World}(o:Nn pp h s w T)(k:jr pp h s w s' w'):Nn pp h s' w' T:=λb hb=>by
 have h1:=o b hb;have hz:=k.keep.size;refine⟨by omega,λh2=>?_,λh2=>?_⟩
 .rcases k.own b h2 with h3|h3
  .exact h1.2.1 h3
  .omega
 .rcases k.lists b h2 with h3|h3
  .exact h1.2.2 h3
  .omega
theorem Nn.off(o:Nn pp h s w T):Off pp h s w T:=λb hb=>⟨(o b hb).1,(o b hb).2.1⟩
theorem dA.new(k:dA w pp h s){b:Nat}(hb:w.heap.size<=b):¬lg pp h s b/\¬s.S b:=⟨λhc=>by have:=k.uZ hc;omega,λhc=>by have:=k.Ae hc;omega⟩
theorem jh.hit(h:jh D left l z i 0)(hi:i<l.length)(hd:Y7 D left l i):jh D left l (z++[(i:Int)]) (i+1) 0:=by
 have hlt:∀y,y∈z->y<i:=λy hy=>by
  obtain⟨h0,_⟩:=h.bd y hy;obtain⟨j,rfl⟩:∃j:Nat,y=(j:Int):=⟨y.toNat,by omega⟩;rcases(h.mem j).1 hy with⟨a,_⟩|⟨_,k',b,_⟩
  .omega
  .omega
 refine⟨?_,λy hy=>?_,λj=>?_⟩
 .rw[vY]
  exact⟨h.xD,by simp,λx hx y hy=>by simp at hy;subst hy;exact hlt x hx⟩
 .rcases bq.1 hy with hy|hy
  .exact h.bd y hy
  .simp at hy;omega
 .rw[bq,h.mem]
  simp only[eT];constructor
  .rintro((⟨a,b⟩|⟨_,k',b,_⟩)|a)
   .exact .inl ⟨by omega,b⟩
   .omega
   .obtain rfl:j=i:=by omega
    exact .inl ⟨by omega,hd⟩
  .rintro(⟨a,b⟩|⟨_,k',b,_⟩)
   .rcases ib j i with c|c
    .exact .inl (.inl ⟨c,b⟩)
    .exact .inr (by omega)
   .omega
theorem jh.miss(h:jh D left l z i 0)(hd:¬Y7 D left l i):jh D left l z (i+1) 0:=by
 refine⟨h.xD,h.bd,λj=>?_⟩;rw[h.mem];constructor
 .rintro(⟨a,b⟩|⟨_,k',b,_⟩)
  .exact .inl ⟨by omega,b⟩
  .omega
 .rintro(⟨a,b⟩|⟨_,k',b,_⟩)
  .rcases ib j i with c|c
   .exact .inl ⟨c,b⟩
   .obtain rfl:j=i:=by omega
    exact absurd b hd
  .omega
theorem Yt(p:Prop):∃g:Bool,g=true↔p:=by
 by_cases h:p
 .exact⟨true,by simp[h]⟩
 .exact⟨false,by simp[h]⟩
theorem oz(h:Hid (∀j,j<k->¬oI D left l i j))(hn:¬oI D left l i k):Hid (∀j,j<k+1->¬oI D left l i j):=by
 intro j hj;by_cases e:j=k
 .subst e;exact hn
 .exact h j (by omega)
theorem aed{gB gW:Bool}(hi:i<l.length)(hk:k<l.length)(hne:k≠i)(hB:gB=true↔Ge (vl D l[k]) (vl D l[i]))(hW:gW=true↔Ge (vl D l[i]) (vl D l[k])):
 oI D left l i k↔(if left then gB else gW)=true/\((if left then gW else gB)=false\/k<i):=by
 unfold oI nU;simp only[List.getD,af hi,af hk,kI];cases left
 .simp only[Bool.false_eq_true,if_false,<-hB,<-hW,hne,ne_eq,not_false_eq_true,true_and,Bool.not_eq_true]
 .simp only[if_true,<-hB,<-hW,hne,ne_eq,not_false_eq_true,true_and,Bool.not_eq_true]
theorem jr.app{X:Obj}{ov:Value}{e:TypeId}{size n:Nat}{xs:List Value}(k:jr pp h s w s' w1)(ho:w1.ownsRow w.heap.size e size ov n xs)(hg:(w1.alloc X).grownBy w2 ov.ownBlock)
 (hc:∀b,ov.ownBlock=some b->¬lg pp h s' b/\¬s'.S b):jr pp h s w s' w2:=
 (k.ext (bY (gz _ _) X)).side (fP hg) λb hb=>⟨(ho.lt b hb).1,hc b hb⟩
def YH(pp h:Nat)(s:jF)(left:Bool)(l:List Nat)(w:World)(e:Ending)(w':World):Prop:=∃v' z,e=.returned v'/\w'.ownsRow w.heap.size 3 1 v' z.length (z.map (Value.int .i64))/\jh s.D left l z l.length 0/\jr pp h s w s w'
theorem zN(pp h:Nat)(s:jF)(left:Bool)(v:Value)(l:List Nat)(T:Nat->Prop)(w:World)(hP:dA w pp h s)(hl:∀x,x∈l->x<s.D.length)(hll:l.length<=1000000)(hT:Off pp h s w T)(hv:ji T w v l):
 Calls prog 176 #[.pointer (some ⟨pp,0,none⟩),v,.bool left] w (YH pp h s left l w):=by
 have hds:=hP.small;obtain⟨i0,hi0,hz0,hz1,hz2⟩:=info_parts iU;obtain⟨av,cv,rfl,-⟩:=id hv.out;rw[bG]at hv ⊢;have hown:∀{ov:Value} {W:World} {n:Nat} {xs:List Value},W.ownsRow w.heap.size 3 1 ov n xs->∀b,ov.ownBlock=some b->¬lg pp h s b/\¬s.S b:=λho b hb=>hP.new (ho.lt b hb).1
 go_enter Tryz.func176,Tryz.ntmps176
 have hr0:=iB w w.heap.size (aJ _) 3;have hx0:Ext w (w.alloc (.cells #[] 3)):=by go_grown
 go_wp2
 generalize w.alloc (.cells #[] 3)=W0 at *;go_loopw [7,8,9,17] (λov _ _ ii wr=>∃(i:Nat) (z:List Int),i<=l.length/\ii=.int .i64 ((i:Nat):Int)/\wr.ownsRow w.heap.size 3 1 ov z.length (z.map (Value.int .i64))/\jh s.D left l z i 0/\jr pp h s w s wr) (λ_ _ _ ii _=>l.length-(intOf ii).toNat)
 case atStart=>exact⟨0,[],aU _,rfl,hr0,jh.nil _ _ _,jr.refl hP hx0⟩
 case round=>
  clear hr0 hx0;obtain⟨i,z,hi,rfl,hO,hI,hgo⟩:=hrel;by_cases hlt:i<l.length
  .have h1:((i:Nat):Int)<((l.length:Nat):Int):=by omega
   obtain⟨-,hln,hcl⟩:=ji.at (oN.go hv hT hgo);obtain⟨b,off,rfl,hcell⟩:=hcl (by omega);have hci:=hcell i hlt;have hxi:=hl _ (ai hlt);have hzl:=hI.len;obtain⟨ao,co,rfl,hco,_⟩:=bT hO;obtain⟨xi,adi⟩:=fu (l[i]);rw[<-adi]at hci hxi;have HXI:=aW adi;have HD:=aW hI;have HV:=aW hv;clear hcl hcell adi hI hv;obtain⟨wo,rfl⟩:∃wo:World,wo=wr:=⟨_,rfl⟩;go_wp2
   go_loopw [7,10,11,12,13,24] (λov _ _ _ _ kk wr=>∃k:Nat,k<=l.length/\kk=.int .i64 ((k:Nat):Int)/\ov=.slice ao z.length co/\wr.ownsRow w.heap.size 3 1 (.slice ao z.length co) z.length (z.map (Value.int .i64))/\jr pp h s w s wr/\Hid (∀j,j<k->¬oI s.D left l i j)) (λ_ _ _ _ _ kk _=>l.length-(intOf kk).toNat)
   case atStart=>exact⟨0,aU _,rfl,rfl,hO,hgo,λj h=>absurd h (by omega)⟩
   case round=>
    clear hO hgo hci;obtain⟨k,hk,rfl,rfl,hO,hgo,HN⟩:=hrel;by_cases hkt:k<l.length
    .have h2:((k:Nat):Int)<((l.length:Nat):Int):=by omega
     obtain⟨-,-,hcl⟩:=ji.at (oN.go HV.out hT hgo);obtain⟨b',off',e,hcell⟩:=hcl (by omega);simp only[bU,Addr.mk.injEq,and_true]at e;obtain⟨rfl,rfl⟩:=e;have hck:=hcell k hkt;have hxk:=hl _ (ai hkt);by_cases hki:k=i
     .subst hki
      clear hcl hcell;go_wp2
      go_roundw
      case rel=>exact⟨k+1,by omega,by go_num,rfl,hO,hgo,oz HN (λh=>h.1 rfl)⟩
      case measure=>simp[intOf];omega
     .have h3:((k:Int)== (i:Int))=false:=by simp;omega
      obtain⟨xk,aai⟩:=fu (l[k]);rw[<-aai]at hck hxk;obtain⟨gB,hB⟩:∃g:Bool,g=true↔Ge (vl s.D xk) (vl s.D xi):=Yt _;obtain⟨gW,hW⟩:∃g:Bool,g=true↔Ge (vl s.D xi) (vl s.D xk):=Yt _;have Nl:=aW (aed (left:=left) hlt hkt hki (by rw[<-aai,<-HXI.out];exact hB) (by rw[<-aai,<-HXI.out];exact hW));have q1:∀W,jr pp h s w s W->Calls prog 144 #[.pointer (some ⟨pp,0,none⟩),.int .i64 (xk:Int),.int .i64 (xi:Int)] W λe W'=>e=.returned (.bool gB)/\jr pp h s w s W'/\jr pp h s W s W':=λW hW'=>(A7 pp h s xk xi W hW'.pool hxk hxi).mono (by rintro e W' ⟨g,rfl,hg,hg2⟩;exact⟨by rw[uk.2 (hg.trans hB.symm)],hW'.trans hg2,hg2⟩)
      have q2:∀W,jr pp h s w s W->Calls prog 144 #[.pointer (some ⟨pp,0,none⟩),.int .i64 (xi:Int),.int .i64 (xk:Int)] W λe W'=>e=.returned (.bool gW)/\jr pp h s w s W'/\jr pp h s W s W':=λW hW'=>(A7 pp h s xi xk W hW'.pool hxi hxk).mono (by rintro e W' ⟨g,rfl,hg,hg2⟩;exact⟨by rw[uk.2 (hg.trans hW.symm)],hW'.trans hg2,hg2⟩)
      have Q1:=aW q1;have Q2:=aW q2;clear hcl hcell hB hW q1 q2 aai;have hno:=hown hO
      go_upto_region 10 with(first
       |(go_at_call 144;refine(Q2.out _ ym).mono ?_;rintro e w2 ⟨rfl,gZ,agn⟩)
       |(go_at_call 144;refine(Q1.out _ hgo).mono ?_;rintro e w1 ⟨rfl,ym,agp⟩))
      have hO2:=bS (bS hO agp.keep (λb hb=>(hno b hb).1)) agn.keep (λb hb=>(hno b hb).1);clear hO hgo ym agp agn;rcases ib k i with alN|alN
      .have h4:((k:Nat):Int)<((i:Nat):Int):=by omega
       cases left with
       |true=>
        cases gB with
        |true=>
         cases gW with
         |true=>
          have hd:=aW (show Y7 s.D _ l i from⟨k,hkt,Nl.out.2 (by simp <;> omega)⟩);go_wp2_with (at_builtin;refine eO rfl (.tmp 54) (.tmp 56) 41 rfl w.heap.size 3 i0 (.int .i64 0) 1 8 underlying41 hi0 hz0 hz1 hz2 rfl (by decide) (.slice ao z.length co) z.length (z.map (Value.int .i64)) rfl (hO2.alloc _) _ 1 _ [.int .i64 (i:Int)] rfl rfl (.inr ⟨_,rfl,fD (dW _ _ _)⟩) one_cell (by unfold maxLen;omega) (by omega) (by rw[fU];have:=gZ.keep.size;omega) ?_;intro v5 w5 lq hg5 hl5)
          go_roundw
          case rel=>exact⟨i+1,z++[(i:Int)],by omega,by go_num,by rw[bu,dw];exact lq,jh.hit HD.out hlt hd.out,jr.app gZ hO2 hg5 (hown hO2)⟩
          case measure=>simp[intOf];omega
         |false=>
          have hd:=aW (show Y7 s.D _ l i from⟨k,hkt,Nl.out.2 (by simp <;> omega)⟩);go_wp2_with (at_builtin;refine eO rfl (.tmp 54) (.tmp 56) 41 rfl w.heap.size 3 i0 (.int .i64 0) 1 8 underlying41 hi0 hz0 hz1 hz2 rfl (by decide) (.slice ao z.length co) z.length (z.map (Value.int .i64)) rfl (hO2.alloc _) _ 1 _ [.int .i64 (i:Int)] rfl rfl (.inr ⟨_,rfl,fD (dW _ _ _)⟩) one_cell (by unfold maxLen;omega) (by omega) (by rw[fU];have:=gZ.keep.size;omega) ?_;intro v5 w5 lq hg5 hl5)
          go_roundw
          case rel=>exact⟨i+1,z++[(i:Int)],by omega,by go_num,by rw[bu,dw];exact lq,jh.hit HD.out hlt hd.out,jr.app gZ hO2 hg5 (hown hO2)⟩
          case measure=>simp[intOf];omega
        |false=>
         cases gW with
         |true=>
          have hn:=aW (show ¬oI s.D _ l i k by intro h;have:=Nl.out.1 h;simp at this <;> omega);go_wp2
          go_roundw
          case rel=>exact⟨k+1,by omega,by go_num,rfl,hO2,gZ,oz HN hn.out⟩
          case measure=>simp[intOf];omega
         |false=>
          have hn:=aW (show ¬oI s.D _ l i k by intro h;have:=Nl.out.1 h;simp at this <;> omega);go_wp2
          go_roundw
          case rel=>exact⟨k+1,by omega,by go_num,rfl,hO2,gZ,oz HN hn.out⟩
          case measure=>simp[intOf];omega
       |false=>
        cases gB with
        |true=>
         cases gW with
         |true=>
          have hd:=aW (show Y7 s.D _ l i from⟨k,hkt,Nl.out.2 (by simp <;> omega)⟩);go_wp2_with (at_builtin;refine eO rfl (.tmp 54) (.tmp 56) 41 rfl w.heap.size 3 i0 (.int .i64 0) 1 8 underlying41 hi0 hz0 hz1 hz2 rfl (by decide) (.slice ao z.length co) z.length (z.map (Value.int .i64)) rfl (hO2.alloc _) _ 1 _ [.int .i64 (i:Int)] rfl rfl (.inr ⟨_,rfl,fD (dW _ _ _)⟩) one_cell (by unfold maxLen;omega) (by omega) (by rw[fU];have:=gZ.keep.size;omega) ?_;intro v5 w5 lq hg5 hl5)
          go_roundw
          case rel=>exact⟨i+1,z++[(i:Int)],by omega,by go_num,by rw[bu,dw];exact lq,jh.hit HD.out hlt hd.out,jr.app gZ hO2 hg5 (hown hO2)⟩
          case measure=>simp[intOf];omega
         |false=>
          have hn:=aW (show ¬oI s.D _ l i k by intro h;have:=Nl.out.1 h;simp at this <;> omega);go_wp2
          go_roundw
          case rel=>exact⟨k+1,by omega,by go_num,rfl,hO2,gZ,oz HN hn.out⟩
          case measure=>simp[intOf];omega
        |false=>
         cases gW with
         |true=>
          have hd:=aW (show Y7 s.D _ l i from⟨k,hkt,Nl.out.2 (by simp <;> omega)⟩);go_wp2_with (at_builtin;refine eO rfl (.tmp 54) (.tmp 56) 41 rfl w.heap.size 3 i0 (.int .i64 0) 1 8 underlying41 hi0 hz0 hz1 hz2 rfl (by decide) (.slice ao z.length co) z.length (z.map (Value.int .i64)) rfl (hO2.alloc _) _ 1 _ [.int .i64 (i:Int)] rfl rfl (.inr ⟨_,rfl,fD (dW _ _ _)⟩) one_cell (by unfold maxLen;omega) (by omega) (by rw[fU];have:=gZ.keep.size;omega) ?_;intro v5 w5 lq hg5 hl5)
          go_roundw
          case rel=>exact⟨i+1,z++[(i:Int)],by omega,by go_num,by rw[bu,dw];exact lq,jh.hit HD.out hlt hd.out,jr.app gZ hO2 hg5 (hown hO2)⟩
          case measure=>simp[intOf];omega
         |false=>
          have hn:=aW (show ¬oI s.D _ l i k by intro h;have:=Nl.out.1 h;simp at this <;> omega);go_wp2
          go_roundw
          case rel=>exact⟨k+1,by omega,by go_num,rfl,hO2,gZ,oz HN hn.out⟩
          case measure=>simp[intOf];omega
      .have h4:¬(((k:Nat):Int)<((i:Nat):Int)):=by omega
       cases left with
       |true=>
        cases gB with
        |true=>
         cases gW with
         |true=>
          have hn:=aW (show ¬oI s.D _ l i k by intro h;have:=Nl.out.1 h;simp at this <;> omega);go_wp2
          go_roundw
          case rel=>exact⟨k+1,by omega,by go_num,rfl,hO2,gZ,oz HN hn.out⟩
          case measure=>simp[intOf];omega
         |false=>
          have hd:=aW (show Y7 s.D _ l i from⟨k,hkt,Nl.out.2 (by simp <;> omega)⟩);go_wp2_with (at_builtin;refine eO rfl (.tmp 54) (.tmp 56) 41 rfl w.heap.size 3 i0 (.int .i64 0) 1 8 underlying41 hi0 hz0 hz1 hz2 rfl (by decide) (.slice ao z.length co) z.length (z.map (Value.int .i64)) rfl (hO2.alloc _) _ 1 _ [.int .i64 (i:Int)] rfl rfl (.inr ⟨_,rfl,fD (dW _ _ _)⟩) one_cell (by unfold maxLen;omega) (by omega) (by rw[fU];have:=gZ.keep.size;omega) ?_;intro v5 w5 lq hg5 hl5)
          go_roundw
          case rel=>exact⟨i+1,z++[(i:Int)],by omega,by go_num,by rw[bu,dw];exact lq,jh.hit HD.out hlt hd.out,jr.app gZ hO2 hg5 (hown hO2)⟩
          case measure=>simp[intOf];omega
        |false=>
         cases gW with
         |true=>
          have hn:=aW (show ¬oI s.D _ l i k by intro h;have:=Nl.out.1 h;simp at this <;> omega);go_wp2
          go_roundw
          case rel=>exact⟨k+1,by omega,by go_num,rfl,hO2,gZ,oz HN hn.out⟩
          case measure=>simp[intOf];omega
         |false=>
          have hn:=aW (show ¬oI s.D _ l i k by intro h;have:=Nl.out.1 h;simp at this <;> omega);go_wp2
          go_roundw
          case rel=>exact⟨k+1,by omega,by go_num,rfl,hO2,gZ,oz HN hn.out⟩
          case measure=>simp[intOf];omega
       |false=>
        cases gB with
        |true=>
         cases gW with
         |true=>
          have hn:=aW (show ¬oI s.D _ l i k by intro h;have:=Nl.out.1 h;simp at this <;> omega);go_wp2
          go_roundw
          case rel=>exact⟨k+1,by omega,by go_num,rfl,hO2,gZ,oz HN hn.out⟩
          case measure=>simp[intOf];omega
         |false=>
          have hn:=aW (show ¬oI s.D _ l i k by intro h;have:=Nl.out.1 h;simp at this <;> omega);go_wp2
          go_roundw
          case rel=>exact⟨k+1,by omega,by go_num,rfl,hO2,gZ,oz HN hn.out⟩
          case measure=>simp[intOf];omega
        |false=>
         cases gW with
         |true=>
          have hd:=aW (show Y7 s.D _ l i from⟨k,hkt,Nl.out.2 (by simp <;> omega)⟩);go_wp2_with (at_builtin;refine eO rfl (.tmp 54) (.tmp 56) 41 rfl w.heap.size 3 i0 (.int .i64 0) 1 8 underlying41 hi0 hz0 hz1 hz2 rfl (by decide) (.slice ao z.length co) z.length (z.map (Value.int .i64)) rfl (hO2.alloc _) _ 1 _ [.int .i64 (i:Int)] rfl rfl (.inr ⟨_,rfl,fD (dW _ _ _)⟩) one_cell (by unfold maxLen;omega) (by omega) (by rw[fU];have:=gZ.keep.size;omega) ?_;intro v5 w5 lq hg5 hl5)
          go_roundw
          case rel=>exact⟨i+1,z++[(i:Int)],by omega,by go_num,by rw[bu,dw];exact lq,jh.hit HD.out hlt hd.out,jr.app gZ hO2 hg5 (hown hO2)⟩
          case measure=>simp[intOf];omega
         |false=>
          have hn:=aW (show ¬oI s.D _ l i k by intro h;have:=Nl.out.1 h;simp at this <;> omega);go_wp2
          go_roundw
          case rel=>exact⟨k+1,by omega,by go_num,rfl,hO2,gZ,oz HN hn.out⟩
          case measure=>simp[intOf];omega
    .have h2:¬(((k:Nat):Int)<((l.length:Nat):Int)):=by omega
     have hke:k=l.length:=(by omega);subst hke;have HNE:=aW (show ¬Y7 s.D left l i from λ⟨j,hj,hd⟩=>HN j hj hd);go_wp2
     go_roundw
     case rel=>exact⟨i+1,z,by omega,by go_num,hO,jh.miss HD.out HNE.out,hgo⟩
     case measure=>simp[intOf];omega
  .have h1:¬(((i:Nat):Int)<((l.length:Nat):Int)):=by omega
   have hke:i=l.length:=(by omega);subst hke;go_wp2
   go_ret
   exact⟨_,z,rfl,hO,hI,hgo⟩
end
