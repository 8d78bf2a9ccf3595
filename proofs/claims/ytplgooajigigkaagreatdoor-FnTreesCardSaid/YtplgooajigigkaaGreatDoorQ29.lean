/- 29 -/
import Derived.Test.YtplgooajigigkaaGreatDoorQ24
import Derived.Test.YtplgooajigigkaaGreatDoorQ28
set_option maxRecDepth 100000
set_option maxHeartbeats 4000000
namespace Go.Proofs.YtplgooajigigkaaGreatDoor
open Tryz
section
open Go.RowKit
open aZ (cZ Nd vl Same Ge)
variable {D:cZ} {root:Nat} {left:Bool} {l:List Nat}
def Zf(D:cZ)(root:Nat)(left:Bool)(l:List Nat)(v:Int):Prop:=(v=-1/\∀y,y∈l->¬lq D left root y)\/∃y,y∈l/\v=(y:Int)/\lq D left root y
theorem Dr{k:Nat}(hk:k<l.length)(h:Hid (∀j (h:j<l.length),j<k->¬lq D left root l[j]))(hn:¬lq D left root l[k]):Hid (∀j (h:j<l.length),j<k+1->¬lq D left root l[j]):=by
 intro j hj hjk;by_cases e:j=k
 .subst e;exact hn
 .exact h j hj (by omega)
theorem QN(h:Hid (∀j (h:j<l.length),j<l.length->¬lq D left root l[j])):Zf D root left l (-1):=
 .inl ⟨rfl,λy hy=>by obtain⟨j,hj,rfl⟩:=aH.1 hy;exact h j hj hj⟩
theorem jB.at{T:Nat->Prop}{w:World}{a:Option Addr}{n c:Nat}{l:List Nat}(h:jB T w (.slice a n c) l):n=l.length/\l.length<=1152921504606846976/\(0<l.length->∃b off,a=some ⟨b,off,none⟩/\∀k (hk:k<l.length),w.cell? ⟨b,off+k,none⟩=some (.int .i64 (l[k]:Int))):=by
 obtain⟨a',c',e,-,hln,hcl⟩:=h.out;simp only[gz,aP]at e;obtain⟨rfl,rfl,rfl⟩:=e;rw[aP]at hln hcl;refine⟨rfl,hln,λh0=>?_⟩;obtain⟨b,off,e,hc⟩:=hcl h0;exact⟨b,off,e,λk hk=>by rw[hc k hk,fD hk]⟩
theorem zF(pp h:Nat)(s:iK)(root x:Nat)(left:Bool)(v:Value)(l:List Nat)(T:Nat->Prop)(w:World)(hP:bX w pp h s)(hr:root<s.D.length)(hl:∀x,x∈l->x<s.D.length)(hT:Off pp h s w T)(hv:jB T w v l):
 Calls prog 174 #[.pointer (some ⟨pp,0,none⟩),.int .i64 (root:Int),.int .i64 (x:Int),.bool left,v] w λe w'=>∃z:Int,e=.returned (.int .i64 z)/\Zf s.D root left l z/\jd pp h s w s w':=by
 have hds:=hP.small;obtain⟨av,cv,rfl,-⟩:=id hv.out;rw[aP]at hv ⊢;go_enter Tryz.func174,Tryz.ntmps174
 go_wp2
 go_loopw [12,15] (λ_ ii wr=>∃k:Nat,k<=l.length/\ii=.int .i64 ((k:Nat):Int)/\jd pp h s w s wr/\Hid (∀j (h:j<l.length),j<k->¬lq s.D left root l[j])) (λ_ ii _=>l.length-(intOf ii).toNat)
 case atStart=>exact⟨0,az _,rfl,jd.refl hP (fJ _ _),λj _ h=>absurd h (by omega)⟩
 case round=>
  obtain⟨k,hk,rfl,hgo,HN⟩:=hrel;obtain⟨-,hln,hcl⟩:=jB.at (nN.go hv hT hgo);by_cases hlt:k<l.length
  .have h1:((k:Nat):Int)<((l.length:Nat):Int):=by omega
   obtain⟨b,off,rfl,hcell⟩:=hcl (by omega);have hck:=hcell k hlt;have hxl:=hl _ (aj hlt);have HV:=aI hv;clear hcl hcell hv;cases left with
   |true=>
    have IH:=aI (xN pp h s root l[k] wr hgo.pool hr hxl);by_cases hge:lq s.D true root l[k]
    .have yM:=aI hge
     clear hge
     go_wp2_with (go_at_call 144;refine IH.out.mono ?_;rintro e wX ⟨g,rfl,hg,fZ⟩
                  obtain rfl:g=true:=hg.2 (by simpa [lq]using yM.out);clear hg)
     go_ret
     exact⟨_,rfl,.inr ⟨l[k],aj hlt,rfl,yM.out⟩,hgo.trans fZ⟩
    .have yM:=aI hge
     clear hge
     go_wp2_with (go_at_call 144;refine IH.out.mono ?_;rintro e wX ⟨g,rfl,hg,fZ⟩
                  obtain rfl:g=false:=nJ.2 (λe=>yM.out (by simpa [lq]using hg.1 e));clear hg)
     go_roundw
     case rel=>exact⟨k+1,by omega,by go_num,hgo.trans fZ,Dr hlt HN yM.out⟩
     case measure=>simp[intOf];omega
   |false=>
    have IH:=aI (xN pp h s l[k] root wr hgo.pool hxl hr);by_cases hge:lq s.D false root l[k]
    .have yM:=aI hge
     clear hge
     go_wp2_with (go_at_call 144;refine IH.out.mono ?_;rintro e wX ⟨g,rfl,hg,fZ⟩
                  obtain rfl:g=true:=hg.2 (by simpa [lq]using yM.out);clear hg)
     go_ret
     exact⟨_,rfl,.inr ⟨l[k],aj hlt,rfl,yM.out⟩,hgo.trans fZ⟩
    .have yM:=aI hge
     clear hge
     go_wp2_with (go_at_call 144;refine IH.out.mono ?_;rintro e wX ⟨g,rfl,hg,fZ⟩
                  obtain rfl:g=false:=nJ.2 (λe=>yM.out (by simpa [lq]using hg.1 e));clear hg)
     go_roundw
     case rel=>exact⟨k+1,by omega,by go_num,hgo.trans fZ,Dr hlt HN yM.out⟩
     case measure=>simp[intOf];omega
  .have h1:¬(((k:Nat):Int)<((l.length:Nat):Int)):=by omega
   have hke:k=l.length:=(by omega);subst hke;go_wp2
   go_ret
   exact⟨_,rfl,QN HN,hgo⟩
end
section
open Go.RowKit
open aZ (cZ Nd vl Same Ge)
variable {pp h i k:Nat} {s s':iK} {w w1 w2:World} {T:Nat->Prop} {D:cZ} {left:Bool} {l:List Nat} {z:List Int}
theorem jd.side{G:Nat->Prop}(k:jd pp h s w s' w1)(hk:dW G w1 w2)(hG:∀b,G b->w.heap.size<=b/\¬jI pp h s' b/\¬s'.S b):jd pp h s w s' w2:=
 ⟨k.pool.keep hk (λb hb hg=>(hG b hg).2.1 hb) (λb hb hg=>(hG b hg).2.2 hb),k.keep.trans hk (λx hx hg=>by have:=(hG x hg).1;omega),k.own,k.old,k.lists,k.more,k.known⟩
def NU(pp h:Nat)(s:iK)(w:World)(T:Nat->Prop):Prop:=∀b,T b->b<w.heap.size/\¬jI pp h s b/\¬s.S b
theorem NU.go{w':World}(o:NU pp h s w T)(k:jd pp h s w s' w'):NU pp h s' w' T:=λb hb=>by
 have h1:=o b hb;have hz:=k.keep.size;refine⟨by omega,λh2=>?_,λh2=>?_⟩
 .rcases k.own b h2 with h3|h3
  .exact h1.2.1 h3
  .omega
 .rcases k.lists b h2 with h3|h3
  .exact h1.2.2 h3
  .omega
theorem NU.off(o:NU pp h s w T):Off pp h s w T:=λb hb=>⟨(o b hb).1,(o b hb).2.1⟩
theorem bX.new(k:bX w pp h s){b:Nat}(hb:w.heap.size<=b):¬jI pp h s b/\¬s.S b:=⟨λhc=>by have:=k.Bq hc;omega,λhc=>by have:=k.uI hc;omega⟩
theorem gD.hit(h:gD D left l z i 0)(hi:i<l.length)(hd:Vf D left l i):gD D left l (z++[(i:Int)]) (i+1) 0:=by
 have hlt:∀y,y∈z->y<i:=λy hy=>by
  obtain⟨h0,_⟩:=h.bd y hy;obtain⟨j,rfl⟩:∃j:Nat,y=(j:Int):=⟨y.toNat,by omega⟩;rcases(h.mem j).1 hy with⟨a,_⟩|⟨_,k',b,_⟩
  .omega
  .omega
 refine⟨?_,λy hy=>?_,λj=>?_⟩
 .rw[rM]
  exact⟨h.yL,by simp,λx hx y hy=>by simp at hy;subst hy;exact hlt x hx⟩
 .rcases aM.1 hy with hy|hy
  .exact h.bd y hy
  .simp at hy;omega
 .rw[aM,h.mem]
  simp only[dB];constructor
  .rintro((⟨a,b⟩|⟨_,k',b,_⟩)|a)
   .exact .inl ⟨by omega,b⟩
   .omega
   .obtain rfl:j=i:=by omega
    exact .inl ⟨by omega,hd⟩
  .rintro(⟨a,b⟩|⟨_,k',b,_⟩)
   .rcases fe j i with c|c
    .exact .inl (.inl ⟨c,b⟩)
    .exact .inr (by omega)
   .omega
theorem gD.miss(h:gD D left l z i 0)(hd:¬Vf D left l i):gD D left l z (i+1) 0:=by
 refine⟨h.yL,h.bd,λj=>?_⟩;rw[h.mem];constructor
 .rintro(⟨a,b⟩|⟨_,k',b,_⟩)
  .exact .inl ⟨by omega,b⟩
  .omega
 .rintro(⟨a,b⟩|⟨_,k',b,_⟩)
  .rcases fe j i with c|c
   .exact .inl ⟨c,b⟩
   .obtain rfl:j=i:=by omega
    exact absurd b hd
  .omega
theorem Um(p:Prop):∃g:Bool,g=true↔p:=by
 by_cases h:p
 .exact⟨true,by simp[h]⟩
 .exact⟨false,by simp[h]⟩
theorem lN(h:Hid (∀j,j<k->¬lS D left l i j))(hn:¬lS D left l i k):Hid (∀j,j<k+1->¬lS D left l i j):=by
 intro j hj;by_cases e:j=k
 .subst e;exact hn
 .exact h j (by omega)
theorem aaS{gB gW:Bool}(hi:i<l.length)(hk:k<l.length)(hne:k≠i)(hB:gB=true↔Ge (vl D l[k]) (vl D l[i]))(hW:gW=true↔Ge (vl D l[i]) (vl D l[k])):
 lS D left l i k↔(if left then gB else gW)=true/\((if left then gW else gB)=false\/k<i):=by
 unfold lS lq;simp only[List.getD,ae hi,ae hk,gM];cases left
 .simp only[Bool.false_eq_true,if_false,<-hB,<-hW,hne,ne_eq,not_false_eq_true,true_and,Bool.not_eq_true]
 .simp only[if_true,<-hB,<-hW,hne,ne_eq,not_false_eq_true,true_and,Bool.not_eq_true]
theorem jd.app{X:Obj}{ov:Value}{e:TypeId}{size n:Nat}{xs:List Value}(k:jd pp h s w s' w1)(ho:w1.ownsRow w.heap.size e size ov n xs)(hg:(w1.alloc X).grownBy w2 ov.ownBlock)
 (hc:∀b,ov.ownBlock=some b->¬jI pp h s' b/\¬s'.S b):jd pp h s w s' w2:=
 (k.ext (bJ (fJ _ _) X)).side (gN hg) λb hb=>⟨(ho.lt b hb).1,hc b hb⟩
def UK(pp h:Nat)(s:iK)(left:Bool)(l:List Nat)(w:World)(e:Ending)(w':World):Prop:=∃v' z,e=.returned v'/\w'.ownsRow w.heap.size 3 1 v' z.length (z.map (Value.int .i64))/\gD s.D left l z l.length 0/\jd pp h s w s w'
theorem wI(pp h:Nat)(s:iK)(left:Bool)(v:Value)(l:List Nat)(T:Nat->Prop)(w:World)(hP:bX w pp h s)(hl:∀x,x∈l->x<s.D.length)(hll:l.length<=1000000)(hT:Off pp h s w T)(hv:jB T w v l):
 Calls prog 176 #[.pointer (some ⟨pp,0,none⟩),v,.bool left] w (UK pp h s left l w):=by
 have hds:=hP.small;obtain⟨i0,hi0,hz0,hz1,hz2⟩:=info_parts fB;obtain⟨av,cv,rfl,-⟩:=id hv.out;rw[aP]at hv ⊢;have hown:∀{ov:Value} {W:World} {n:Nat} {xs:List Value},W.ownsRow w.heap.size 3 1 ov n xs->∀b,ov.ownBlock=some b->¬jI pp h s b/\¬s.S b:=λho b hb=>hP.new (ho.lt b hb).1
 go_enter Tryz.func176,Tryz.ntmps176
 have hr0:=gG w w.heap.size (ax _) 3;have hx0:Ext w (w.alloc (.cells #[] 3)):=by go_grown
 go_wp2
 generalize w.alloc (.cells #[] 3)=W0 at *;go_loopw [7,8,9,17] (λov _ _ ii wr=>∃(i:Nat) (z:List Int),i<=l.length/\ii=.int .i64 ((i:Nat):Int)/\wr.ownsRow w.heap.size 3 1 ov z.length (z.map (Value.int .i64))/\gD s.D left l z i 0/\jd pp h s w s wr) (λ_ _ _ ii _=>l.length-(intOf ii).toNat)
 case atStart=>exact⟨0,[],az _,rfl,hr0,gD.nil _ _ _,jd.refl hP hx0⟩
 case round=>
  clear hr0 hx0;obtain⟨i,z,hi,rfl,hO,hI,hgo⟩:=hrel;by_cases hlt:i<l.length
  .have h1:((i:Nat):Int)<((l.length:Nat):Int):=by omega
   obtain⟨-,hln,hcl⟩:=jB.at (nN.go hv hT hgo);obtain⟨b,off,rfl,hcell⟩:=hcl (by omega);have hci:=hcell i hlt;have hxi:=hl _ (aj hlt);have hzl:=hI.len;obtain⟨ao,co,rfl,hco,_⟩:=bu hO;obtain⟨xi,ZM⟩:=eu (l[i]);rw[<-ZM]at hci hxi;have HXI:=aI ZM;have HD:=aI hI;have HV:=aI hv;clear hcl hcell ZM hI hv;obtain⟨wo,rfl⟩:∃wo:World,wo=wr:=⟨_,rfl⟩;go_wp2
   go_loopw [7,10,11,12,13,24] (λov _ _ _ _ kk wr=>∃k:Nat,k<=l.length/\kk=.int .i64 ((k:Nat):Int)/\ov=.slice ao z.length co/\wr.ownsRow w.heap.size 3 1 (.slice ao z.length co) z.length (z.map (Value.int .i64))/\jd pp h s w s wr/\Hid (∀j,j<k->¬lS s.D left l i j)) (λ_ _ _ _ _ kk _=>l.length-(intOf kk).toNat)
   case atStart=>exact⟨0,az _,rfl,rfl,hO,hgo,λj h=>absurd h (by omega)⟩
   case round=>
    clear hO hgo hci;obtain⟨k,hk,rfl,rfl,hO,hgo,HN⟩:=hrel;by_cases hkt:k<l.length
    .have h2:((k:Nat):Int)<((l.length:Nat):Int):=by omega
     obtain⟨-,-,hcl⟩:=jB.at (nN.go HV.out hT hgo);obtain⟨b',off',e,hcell⟩:=hcl (by omega);simp only[bN,Addr.mk.injEq,and_true]at e;obtain⟨rfl,rfl⟩:=e;have hck:=hcell k hkt;have hxk:=hl _ (aj hkt);by_cases hki:k=i
     .subst hki
      clear hcl hcell;go_wp2
      go_roundw
      case rel=>exact⟨k+1,by omega,by go_num,rfl,hO,hgo,lN HN (λh=>h.1 rfl)⟩
      case measure=>simp[intOf];omega
     .have h3:((k:Int)== (i:Int))=false:=by simp;omega
      obtain⟨xk,WR⟩:=eu (l[k]);rw[<-WR]at hck hxk;obtain⟨gB,hB⟩:∃g:Bool,g=true↔Ge (vl s.D xk) (vl s.D xi):=Um _;obtain⟨gW,hW⟩:∃g:Bool,g=true↔Ge (vl s.D xi) (vl s.D xk):=Um _;have JO:=aI (aaS (left:=left) hlt hkt hki (by rw[<-WR,<-HXI.out];exact hB) (by rw[<-WR,<-HXI.out];exact hW));have q1:∀W,jd pp h s w s W->Calls prog 144 #[.pointer (some ⟨pp,0,none⟩),.int .i64 (xk:Int),.int .i64 (xi:Int)] W λe W'=>e=.returned (.bool gB)/\jd pp h s w s W'/\jd pp h s W s W':=λW hW'=>(xN pp h s xk xi W hW'.pool hxk hxi).mono (by rintro e W' ⟨g,rfl,hg,hg2⟩;exact⟨by rw[fV.2 (hg.trans hB.symm)],hW'.trans hg2,hg2⟩)
      have q2:∀W,jd pp h s w s W->Calls prog 144 #[.pointer (some ⟨pp,0,none⟩),.int .i64 (xi:Int),.int .i64 (xk:Int)] W λe W'=>e=.returned (.bool gW)/\jd pp h s w s W'/\jd pp h s W s W':=λW hW'=>(xN pp h s xi xk W hW'.pool hxi hxk).mono (by rintro e W' ⟨g,rfl,hg,hg2⟩;exact⟨by rw[fV.2 (hg.trans hW.symm)],hW'.trans hg2,hg2⟩)
      have Q1:=aI q1;have Q2:=aI q2;clear hcl hcell hB hW q1 q2 WR;have hno:=hown hO
      go_upto_region 10 with(first
       |(go_at_call 144;refine(Q2.out _ I7).mono ?_;rintro e w2 ⟨rfl,fZ,acw⟩)
       |(go_at_call 144;refine(Q1.out _ hgo).mono ?_;rintro e w1 ⟨rfl,I7,acx⟩))
      have hO2:=aV (aV hO acx.keep (λb hb=>(hno b hb).1)) acw.keep (λb hb=>(hno b hb).1);clear hO hgo I7 acx acw;rcases fe k i with agG|agG
      .have h4:((k:Nat):Int)<((i:Nat):Int):=by omega
       cases left with
       |true=>
        cases gB with
        |true=>
         cases gW with
         |true=>
          have hd:=aI (show Vf s.D _ l i from⟨k,hkt,JO.out.2 (by simp <;> omega)⟩);go_wp2_with (at_builtin;refine dm rfl (.tmp 54) (.tmp 56) 41 rfl w.heap.size 3 i0 (.int .i64 0) 1 8 underlying41 hi0 hz0 hz1 hz2 rfl (by decide) (.slice ao z.length co) z.length (z.map (Value.int .i64)) rfl (hO2.alloc _) _ 1 _ [.int .i64 (i:Int)] rfl rfl (.inr ⟨_,rfl,dA (bY _ _ _)⟩) one_cell (by unfold maxLen;omega) (by omega) (by rw[eX];have:=fZ.keep.size;omega) ?_;intro v5 w5 ji hg5 hl5)
          go_roundw
          case rel=>exact⟨i+1,z++[(i:Int)],by omega,by go_num,by rw[aK,bz];exact ji,gD.hit HD.out hlt hd.out,jd.app fZ hO2 hg5 (hown hO2)⟩
          case measure=>simp[intOf];omega
         |false=>
          have hd:=aI (show Vf s.D _ l i from⟨k,hkt,JO.out.2 (by simp <;> omega)⟩);go_wp2_with (at_builtin;refine dm rfl (.tmp 54) (.tmp 56) 41 rfl w.heap.size 3 i0 (.int .i64 0) 1 8 underlying41 hi0 hz0 hz1 hz2 rfl (by decide) (.slice ao z.length co) z.length (z.map (Value.int .i64)) rfl (hO2.alloc _) _ 1 _ [.int .i64 (i:Int)] rfl rfl (.inr ⟨_,rfl,dA (bY _ _ _)⟩) one_cell (by unfold maxLen;omega) (by omega) (by rw[eX];have:=fZ.keep.size;omega) ?_;intro v5 w5 ji hg5 hl5)
          go_roundw
          case rel=>exact⟨i+1,z++[(i:Int)],by omega,by go_num,by rw[aK,bz];exact ji,gD.hit HD.out hlt hd.out,jd.app fZ hO2 hg5 (hown hO2)⟩
          case measure=>simp[intOf];omega
        |false=>
         cases gW with
         |true=>
          have hn:=aI (show ¬lS s.D _ l i k by intro h;have:=JO.out.1 h;simp at this <;> omega);go_wp2
          go_roundw
          case rel=>exact⟨k+1,by omega,by go_num,rfl,hO2,fZ,lN HN hn.out⟩
          case measure=>simp[intOf];omega
         |false=>
          have hn:=aI (show ¬lS s.D _ l i k by intro h;have:=JO.out.1 h;simp at this <;> omega);go_wp2
          go_roundw
          case rel=>exact⟨k+1,by omega,by go_num,rfl,hO2,fZ,lN HN hn.out⟩
          case measure=>simp[intOf];omega
       |false=>
        cases gB with
        |true=>
         cases gW with
         |true=>
          have hd:=aI (show Vf s.D _ l i from⟨k,hkt,JO.out.2 (by simp <;> omega)⟩);go_wp2_with (at_builtin;refine dm rfl (.tmp 54) (.tmp 56) 41 rfl w.heap.size 3 i0 (.int .i64 0) 1 8 underlying41 hi0 hz0 hz1 hz2 rfl (by decide) (.slice ao z.length co) z.length (z.map (Value.int .i64)) rfl (hO2.alloc _) _ 1 _ [.int .i64 (i:Int)] rfl rfl (.inr ⟨_,rfl,dA (bY _ _ _)⟩) one_cell (by unfold maxLen;omega) (by omega) (by rw[eX];have:=fZ.keep.size;omega) ?_;intro v5 w5 ji hg5 hl5)
          go_roundw
          case rel=>exact⟨i+1,z++[(i:Int)],by omega,by go_num,by rw[aK,bz];exact ji,gD.hit HD.out hlt hd.out,jd.app fZ hO2 hg5 (hown hO2)⟩
          case measure=>simp[intOf];omega
         |false=>
          have hn:=aI (show ¬lS s.D _ l i k by intro h;have:=JO.out.1 h;simp at this <;> omega);go_wp2
          go_roundw
          case rel=>exact⟨k+1,by omega,by go_num,rfl,hO2,fZ,lN HN hn.out⟩
          case measure=>simp[intOf];omega
        |false=>
         cases gW with
         |true=>
          have hd:=aI (show Vf s.D _ l i from⟨k,hkt,JO.out.2 (by simp <;> omega)⟩);go_wp2_with (at_builtin;refine dm rfl (.tmp 54) (.tmp 56) 41 rfl w.heap.size 3 i0 (.int .i64 0) 1 8 underlying41 hi0 hz0 hz1 hz2 rfl (by decide) (.slice ao z.length co) z.length (z.map (Value.int .i64)) rfl (hO2.alloc _) _ 1 _ [.int .i64 (i:Int)] rfl rfl (.inr ⟨_,rfl,dA (bY _ _ _)⟩) one_cell (by unfold maxLen;omega) (by omega) (by rw[eX];have:=fZ.keep.size;omega) ?_;intro v5 w5 ji hg5 hl5)
          go_roundw
          case rel=>exact⟨i+1,z++[(i:Int)],by omega,by go_num,by rw[aK,bz];exact ji,gD.hit HD.out hlt hd.out,jd.app fZ hO2 hg5 (hown hO2)⟩
          case measure=>simp[intOf];omega
         |false=>
          have hn:=aI (show ¬lS s.D _ l i k by intro h;have:=JO.out.1 h;simp at this <;> omega);go_wp2
          go_roundw
          case rel=>exact⟨k+1,by omega,by go_num,rfl,hO2,fZ,lN HN hn.out⟩
          case measure=>simp[intOf];omega
      .have h4:¬(((k:Nat):Int)<((i:Nat):Int)):=by omega
       cases left with
       |true=>
        cases gB with
        |true=>
         cases gW with
         |true=>
          have hn:=aI (show ¬lS s.D _ l i k by intro h;have:=JO.out.1 h;simp at this <;> omega);go_wp2
          go_roundw
          case rel=>exact⟨k+1,by omega,by go_num,rfl,hO2,fZ,lN HN hn.out⟩
          case measure=>simp[intOf];omega
         |false=>
          have hd:=aI (show Vf s.D _ l i from⟨k,hkt,JO.out.2 (by simp <;> omega)⟩);go_wp2_with (at_builtin;refine dm rfl (.tmp 54) (.tmp 56) 41 rfl w.heap.size 3 i0 (.int .i64 0) 1 8 underlying41 hi0 hz0 hz1 hz2 rfl (by decide) (.slice ao z.length co) z.length (z.map (Value.int .i64)) rfl (hO2.alloc _) _ 1 _ [.int .i64 (i:Int)] rfl rfl (.inr ⟨_,rfl,dA (bY _ _ _)⟩) one_cell (by unfold maxLen;omega) (by omega) (by rw[eX];have:=fZ.keep.size;omega) ?_;intro v5 w5 ji hg5 hl5)
          go_roundw
          case rel=>exact⟨i+1,z++[(i:Int)],by omega,by go_num,by rw[aK,bz];exact ji,gD.hit HD.out hlt hd.out,jd.app fZ hO2 hg5 (hown hO2)⟩
          case measure=>simp[intOf];omega
        |false=>
         cases gW with
         |true=>
          have hn:=aI (show ¬lS s.D _ l i k by intro h;have:=JO.out.1 h;simp at this <;> omega);go_wp2
          go_roundw
          case rel=>exact⟨k+1,by omega,by go_num,rfl,hO2,fZ,lN HN hn.out⟩
          case measure=>simp[intOf];omega
         |false=>
          have hn:=aI (show ¬lS s.D _ l i k by intro h;have:=JO.out.1 h;simp at this <;> omega);go_wp2
          go_roundw
          case rel=>exact⟨k+1,by omega,by go_num,rfl,hO2,fZ,lN HN hn.out⟩
          case measure=>simp[intOf];omega
       |false=>
        cases gB with
        |true=>
         cases gW with
         |true=>
          have hn:=aI (show ¬lS s.D _ l i k by intro h;have:=JO.out.1 h;simp at this <;> omega);go_wp2
          go_roundw
          case rel=>exact⟨k+1,by omega,by go_num,rfl,hO2,fZ,lN HN hn.out⟩
          case measure=>simp[intOf];omega
         |false=>
          have hn:=aI (show ¬lS s.D _ l i k by intro h;have:=JO.out.1 h;simp at this <;> omega);go_wp2
          go_roundw
          case rel=>exact⟨k+1,by omega,by go_num,rfl,hO2,fZ,lN HN hn.out⟩
          case measure=>simp[intOf];omega
        |false=>
         cases gW with
         |true=>
          have hd:=aI (show Vf s.D _ l i from⟨k,hkt,JO.out.2 (by simp <;> omega)⟩);go_wp2_with (at_builtin;refine dm rfl (.tmp 54) (.tmp 56) 41 rfl w.heap.size 3 i0 (.int .i64 0) 1 8 underlying41 hi0 hz0 hz1 hz2 rfl (by decide) (.slice ao z.length co) z.length (z.map (Value.int .i64)) rfl (hO2.alloc _) _ 1 _ [.int .i64 (i:Int)] rfl rfl (.inr ⟨_,rfl,dA (bY _ _ _)⟩) one_cell (by unfold maxLen;omega) (by omega) (by rw[eX];have:=fZ.keep.size;omega) ?_;intro v5 w5 ji hg5 hl5)
          go_roundw
          case rel=>exact⟨i+1,z++[(i:Int)],by omega,by go_num,by rw[aK,bz];exact ji,gD.hit HD.out hlt hd.out,jd.app fZ hO2 hg5 (hown hO2)⟩
          case measure=>simp[intOf];omega
         |false=>
          have hn:=aI (show ¬lS s.D _ l i k by intro h;have:=JO.out.1 h;simp at this <;> omega);go_wp2
          go_roundw
          case rel=>exact⟨k+1,by omega,by go_num,rfl,hO2,fZ,lN HN hn.out⟩
          case measure=>simp[intOf];omega
    .have h2:¬(((k:Nat):Int)<((l.length:Nat):Int)):=by omega
     have hke:k=l.length:=(by omega);subst hke;have JN:=aI (show ¬Vf s.D left l i from λ⟨j,hj,hd⟩=>HN j hj hd);go_wp2
     go_roundw
     case rel=>exact⟨i+1,z,by omega,by go_num,hO,gD.miss HD.out JN.out,hgo⟩
     case measure=>simp[intOf];omega
  .have h1:¬(((i:Nat):Int)<((l.length:Nat):Int)):=by omega
   have hke:i=l.length:=(by omega);subst hke;go_wp2
   go_ret
   exact⟨_,z,rfl,hO,hI,hgo⟩
end
section
open Go.RowKit
variable {z zs:List Int} {d k:Nat}
theorem Qy(ha:z.Pairwise (· < ·))(h1:∀y,y∈z.take d->y<(k:Int))(h2:∀y,y∈z.drop d->(k:Int)<=y):l7 z (k:Int)=true↔∃zs,z.drop d=(k:Int):: zs:=by
 unfold l7;rw[decide_eq_true_iff];constructor
 .intro h
  rw[<-jw d z]at h;rcases aM.1 h with h|h
  .have:=h1 _ h;omega
  .cases hd:z.drop d with
   |nil=>rw[hd]at h;cases h
   |cons y zs=>
    rw[hd]at h;rcases dZ.1 h with h|h
    .exact⟨zs,by rw[h]⟩
    .have hp:=ha.sublist (List.drop_sublist d z)
     rw[hd]at hp;have q1:=(mE.1 hp).1 _ h;have q2:=h2 y (by rw[hd];simp);omega
 .rintro⟨zs,e⟩
  exact rO (i:=d) (by rw[e];simp)
theorem Qw(ha:z.Pairwise (· < ·))(h1:∀y,y∈z.take d->y<(k:Int))(e:z.drop d=(k:Int):: zs):z.drop (d+1)=zs/\(∀y,y∈z.take (d+1)->y<((k+1:Nat):Int))/\∀y,y∈z.drop (d+1)->((k+1:Nat):Int)<=y:=by
 have e1:z.drop (d+1)=zs:=by rw[<-List.drop_drop,e];rfl
 refine⟨e1,λy hy=>?_,λy hy=>?_⟩
 .have hlt:d<z.length:=by
   rcases fe d z.length with c|c
   .exact c
   .rw[l6 c]at e;cases e
  rw[aW hlt]at hy;rcases aM.1 hy with hy|hy
  .have:=h1 y hy;omega
  .simp at hy
   have:z[d]=(k:Int):=by
    have q:=fQ hlt;rw[e]at q;injection q with q;exact q.symm
   omega
 .rw[e1]at hy
  have hp:=ha.sublist (List.drop_sublist d z);rw[e]at hp;have:=(mE.1 hp).1 y hy;omega
theorem Qx(h1:∀y,y∈z.take d->y<(k:Int))(h2:∀y,y∈z.drop d->(k:Int)<=y)(hn:l7 z (k:Int)=false):(∀y,y∈z.take d->y<((k+1:Nat):Int))/\∀y,y∈z.drop d->((k+1:Nat):Int)<=y:=by
 refine⟨λy hy=>by have:=h1 y hy;omega,λy hy=>?_⟩;have:=h2 y hy;have hne:y≠(k:Int):=λe=>by
  subst e;have:l7 z (k:Int)=true:=by unfold l7;rw[decide_eq_true_iff];exact rO hy
  rw[this]at hn;cases hn
 omega
def aa2(l z:List Int)(w:World)(e:Ending)(w':World):Prop:=∃v',e=.returned v'/\w'.ownsRow w.heap.size 3 1 v' (pO l z).length ((pO l z).map (Value.int .i64))/\Ext w w'
theorem O5{w:World}{b off q cap:Nat}{y:Int}(h:Ints w (.slice (some ⟨b,off,none⟩) (q+1) cap) (y :: zs)):Ints w (.slice (some ⟨b,off+1,none⟩) q (cap-1)) zs:=by
 obtain⟨a,c,e,h1,h2,h3⟩:=h;simp only[gz,l9,Nat.add_right_cancel_iff]at e;obtain⟨rfl,rfl,rfl⟩:=e;simp only[l9]at h1 h2 h3;obtain⟨b',off',e,hc⟩:=h3 (by omega);simp only[bN,Addr.mk.injEq,and_true]at e;obtain⟨rfl,rfl⟩:=e;refine⟨_,_,rfl,by omega,by omega,λ_=>⟨_,_,rfl,λi hi=>?_⟩⟩;have:=hc (i+1) (by omega);rw[show off+1+i=off+(i+1) by omega,this];simp[dD]
theorem zD(v u:Value)(l z:List Int)(w:World)(h:Ints w v l)(g:Ints w u z)(hz:z.Pairwise (· < ·))(hz0':∀y,y∈z->0<=y)(hsz:l.length<=1000000000):
 Calls prog 175 #[v,u] w (aa2 l z w):=by
 obtain⟨a,cap,rfl,hlc,hcap,hc⟩:=h;obtain⟨i0,hi,hz0,hz1,hz2⟩:=info_parts fB;go_enter Tryz.func175,Tryz.ntmps175
 go_wp2
 go_loopw [1,5,6,7,11] (λpv o _ _ i wr=>∃k d:Nat,k<=l.length/\i=.int .i64 k/\wr.ownsRow w.heap.size 3 1 o (Gs l z k).length ((Gs l z k).map (Value.int .i64))/\Ext w wr/\Ints w pv (z.drop d)/\(∀y,y∈z.take d->y<(k:Int))/\∀y,y∈z.drop d->(k:Int)<=y) (λ_ _ _ _ i _=>l.length-(intOf i).toNat)
 case atStart=>exact⟨0,0,az _,rfl,gG w _ (ax _) _,(fJ _ _).alloc (ax _) _,g,by simp,λy hy=>hz0' y (by simpa using hy)⟩
 case round=>
  obtain⟨k,d,hk,rfl,hown,jh,hI,hT,hD⟩:=hrel;by_cases hlt:k<l.length
  .obtain⟨b,off,rfl,hcell⟩:=hc (by omega)
   have hck:=hcell k hlt;have lK:=dP jh hck;have hwl:=xz l z k;obtain⟨ao,co,rfl,_,_⟩:=bu hown;clear hcell hc hck;by_cases hin:l7 z (k:Int)=true
   .obtain⟨zs,e⟩:=(Qy hz hT hD).1 hin
    have HW:=aI (Qz l z k hin);have HN:=aI (Qw hz hT e);rw[e]at hI;have HI:=aI hI;obtain⟨pa,pc,rfl,hpc,hpl,sO⟩:=hI;obtain⟨q,hq⟩:=eu zs.length;have hq1:((k:Int):: zs).length=q+1:=(by rw[hq];rfl);rw[hq1]at hpc hpl sO HI ⊢;obtain⟨bp,op,rfl,hcp⟩:=sO (by omega);have hc0:=dP jh (hcp 0 (by omega));have e0:dD ((k:Int):: zs) 0=(k:Int):=(by simp[dD]);rw[e0,Nat.add_zero]at hc0;have HZ:=aI hz;have HQ:=aI hq;clear hcp sO e e0 hin hT hD hz hq1 hq;by_cases hq0:q=0
    .subst hq0
     go_wp2
     go_roundw
     case rel=>exact⟨k+1,d+1,by omega,by go_num,by rw[HW.out];exact hown,jh,by rw[HN.out.1,cz HQ.out.symm];exact Ints.nil _ _ _,HN.out.2.1,HN.out.2.2⟩
     case measure=>simp[intOf];omega
    .have hq1:¬(q+1=1):=by omega
     go_wp2
     go_roundw
     case rel=>exact⟨k+1,d+1,by omega,by go_num,by rw[HW.out];exact hown,jh,by rw[HN.out.1];exact O5 HI.out,HN.out.2.1,HN.out.2.2⟩
     case measure=>simp[intOf];omega
   .have hin':l7 z (k:Int)=false:=by simpa using hin
    have HW:=aI (MB l z k hin');have HN:=aI (Qx hT hD hin');have HI:=aI hI;have HZ:=aI hz;obtain⟨pa,pc,rfl,hpc,hpl,sO⟩:=hI;cases hd:z.drop d with
    |nil=>
     rw[hd]at HI;clear sO hT hD hin hz;go_wp2_with (at_builtin;refine dm rfl (.tmp 28) (.tmp 30) 41 rfl w.heap.size 3 i0 (.int .i64 0) 1 8 underlying41 hi hz0 hz1 hz2 rfl (by decide) (.slice ao (Gs l z k).length co) _ _ rfl (hown.alloc _) _ 1 _ [Value.int .i64 (dD l k)] rfl rfl (.inr ⟨_,rfl,dA (bY _ _ _)⟩) one_cell (by unfold maxLen;omega) (by omega) (by have:=jh.size;simp;omega) ?_;intro v1 w1 ho1 hg1 _)
     go_roundw
     case rel=>
      refine⟨k+1,d,by omega,by go_num,?_,AL jh hown hg1,by rw[hd];exact HI.out,HN.out.1,HN.out.2⟩;rw[HW.out];simpa using ho1
     case measure=>simp[intOf];omega
    |cons y zs=>
     rw[hd]at HI hpc hpl sO;have hyk:¬(y=(k:Int)):=λe=>by
      have:=(Qy HZ.out hT hD).2 ⟨zs,by rw[hd,e]⟩;rw[hin']at this;cases this
     have alX:(y == (k:Int))=false:=(by simpa using hyk);obtain⟨q,hq⟩:=eu zs.length;have hq1:(y :: zs).length=q+1:=(by rw[hq];rfl);rw[hq1]at hpc hpl sO HI ⊢;obtain⟨bp,op,rfl,hcp⟩:=sO (by omega);have hc0:=dP jh (hcp 0 (by omega));have e0:dD (y :: zs) 0=y:=(by simp[dD]);rw[e0,Nat.add_zero]at hc0;have HQ:=aI hd;clear sO hcp e0 hT hD hin hz hq1 hq hyk hd;go_wp2_with (at_builtin;refine dm rfl (.tmp 28) (.tmp 30) 41 rfl w.heap.size 3 i0 (.int .i64 0) 1 8 underlying41 hi hz0 hz1 hz2 rfl (by decide) (.slice ao (Gs l z k).length co) _ _ rfl (hown.alloc _) _ 1 _ [Value.int .i64 (dD l k)] rfl rfl (.inr ⟨_,rfl,dA (bY _ _ _)⟩) one_cell (by unfold maxLen;omega) (by omega) (by have:=jh.size;simp;omega) ?_;intro v1 w1 ho1 hg1 _)
     go_roundw
     case rel=>
      refine⟨k+1,d,by omega,by go_num,?_,AL jh hown hg1,by rw[HQ.out];exact HI.out,HN.out.1,HN.out.2⟩;rw[HW.out];simpa using ho1
     case measure=>simp[intOf];omega
  .go_wp2
   go_ret
   have e:k=l.length:=(by omega);subst e;exact⟨_,rfl,hown,jh⟩
end
section
open Go.RowKit
open aZ (cZ Nd vl Same Ge)
variable {w wr wa w2:World} {B q line:List Nat} {n pp h mb i:Nat} {ys:List Value} {s:iK} {qv kv:Value}
theorem Kt{B e:Nat}{v:Value}{l:List Nat}{m:Nat}(h:w.ownsRow B e 1 v n ys)(hn:n=m)(hy:ys=(bV l).map (Value.int .i64)):w.ownsRow B e 1 v m ((bV l).map (Value.int .i64)):=by subst hn;rw[<-hy];exact h
theorem mq(a b:List Nat):bV (a++b)=bV a++bV b:=by simp[bV]
structure fA(pp h:Nat)(s:iK)(w wr:World)(mb:Nat)(qv kv:Value)(q B line:List Nat):Prop where
 q:wr.ownsRow w.heap.size 3 1 qv q.length ((bV q).map (Value.int .i64))
 k:wr.ownsRow w.heap.size 3 1 kv B.length ((bV B).map (Value.int .i64))
 seen:∃f,fM prog 3 wr mb line.length f/\∀x:Nat,f (.int .i64 (x:Int))=if x∈line then some (.bool true)else none
 mb0:w.heap.size<=mb
 a1:qv.ownBlock≠some mb
 a2:kv.ownBlock≠some mb
 a3:∀b,qv.ownBlock=some b->kv.ownBlock≠some b
 Ep:NU pp h s wr (λb=>b=mb\/qv.ownBlock=some b\/kv.ownBlock=some b)
theorem fA.keep{pp h:Nat}{s s':iK}{w wr w2:World}{mb:Nat}{qv kv:Value}{q B line:List Nat}{G:Nat->Prop}(m:fA pp h s w wr mb qv kv q B line)(hk:dW G wr w2)(hG:∀b,b=mb\/qv.ownBlock=some b\/kv.ownBlock=some b->¬G b)
 (hc:NU pp h s' w2 (λb=>b=mb\/qv.ownBlock=some b\/kv.ownBlock=some b)):fA pp h s' w w2 mb qv kv q B line:=by
 obtain⟨f,f1,f2⟩:=m.seen;exact⟨aV m.q hk (λb hb=>hG b (.inr (.inl hb))),aV m.k hk (λb hb=>hG b (.inr (.inr hb))),⟨f,f1.keep (hk.block _ f1.lt (hG mb (.inl rfl))),f2⟩,m.mb0,m.a1,m.a2,m.a3,hc⟩
theorem fA.go{pp h:Nat}{s s':iK}{w wr w2:World}{mb:Nat}{qv kv:Value}{q B line:List Nat}(m:fA pp h s w wr mb qv kv q B line)(g:jd pp h s wr s' w2):fA pp h s' w w2 mb qv kv q B line:=
 m.keep g.keep (λb hb=>(m.Ep b hb).2.1) (m.Ep.go g)
theorem NU.ext{w':World}{T:Nat->Prop}(c:NU pp h s w T)(hx:Ext w w'):NU pp h s w' T:=λb hb=>⟨aJ (c b hb).1 hx.size,(c b hb).2⟩
theorem fA.ext{pp h:Nat}{s:iK}{w wr w2:World}{mb:Nat}{qv kv:Value}{q B line:List Nat}(m:fA pp h s w wr mb qv kv q B line)(hx:Ext wr w2):fA pp h s w w2 mb qv kv q B line:=
 m.keep (iM (F:=λ_=>False) hx) (λ_ _=>id) (m.Ep.ext hx)
theorem fA.push{qv':Value}{news:List Nat}(m:fA pp h s w wr mb qv kv q B line)(hP:bX wr pp h s)(hx:Ext wr wa)(hg:wa.grownBy w2 qv.ownBlock)
 (ho:w2.ownsRow w.heap.size 3 1 qv' n ys) (hn:n=(q++news).length) (hy:ys=(bV (q++news)).map (Value.int .i64)) (hl:lY wa qv qv'):fA pp h s w w2 mb qv' kv (q++news) B line:=by
 have hz:=hx.size;have hz2:=hg.size;have hL:∀b,qv'.ownBlock=some b->qv.ownBlock=some b\/wr.heap.size<=b:=λb hb=>by
  rcases hl with e|⟨g,e,k⟩
  .exact .inl (e ▸ hb)
  .rw[e]at hb;injection hb with hb;exact .inr (by omega)
 have m1:=m.ext hx;obtain⟨f,f1,f2⟩:=m1.seen;have hkg:=gN hg;have hcm:=m.Ep;refine⟨Kt ho hn hy,aV m1.k hkg (λb hb hq=>m.a3 b hq hb),⟨f,f1.keep (hkg.block _ f1.lt (λe=>m.a1 e)),f2⟩,m.mb0,λe=>?_,m.a2,λb hb hc=>?_,λb hb=>?_⟩
 .rcases hL mb e with h1|h1
  .exact m.a1 h1
  .have:=(hcm mb (.inl rfl)).1;omega
 .rcases hL b hb with h1|h1
  .exact m.a3 b h1 hc
  .have:=(hcm b (.inr (.inr hc))).1;omega
 .have hlt:=ho.lt
  rcases hb with rfl|hb|hb
  .have:=hcm _ (.inl rfl);exact⟨by omega,this.2⟩
  .refine⟨(hlt b hb).2,?_⟩
   rcases hL b hb with h1|h1
   .exact(hcm b (.inr (.inl h1))).2
   .exact hP.new h1
  .have:=hcm b (.inr (.inr hb));exact⟨by omega,this.2⟩
theorem fA.add{kv':Value}(m:fA pp h s w wr mb qv kv q B line)(hP:bX wr pp h s)(hx:Ext wr wa)(hg:wa.grownBy w2 kv.ownBlock)
 (ho:w2.ownsRow w.heap.size 3 1 kv' n ys) (hn:n=(B++[i]).length) (hy:ys=(bV (B++[i])).map (Value.int .i64)) (hl:lY wa kv kv'):fA pp h s w w2 mb qv kv' q (B++[i]) line:=by
 have hz:=hx.size;have hz2:=hg.size;have hL:∀b,kv'.ownBlock=some b->kv.ownBlock=some b\/wr.heap.size<=b:=λb hb=>by
  rcases hl with e|⟨g,e,k⟩
  .exact .inl (e ▸ hb)
  .rw[e]at hb;injection hb with hb;exact .inr (by omega)
 have m1:=m.ext hx;obtain⟨f,f1,f2⟩:=m1.seen;have hkg:=gN hg;have hcm:=m.Ep;refine⟨aV m1.q hkg (λb hb hq=>m.a3 b hb hq),Kt ho hn hy,⟨f,f1.keep (hkg.block _ f1.lt (λe=>m.a2 e)),f2⟩,m.mb0,m.a1,λe=>?_,λb hb hc=>?_,λb hb=>?_⟩
 .rcases hL mb e with h1|h1
  .exact m.a2 h1
  .have:=(hcm mb (.inl rfl)).1;omega
 .rcases hL b hc with h1|h1
  .exact m.a3 b hb h1
  .have:=(hcm b (.inr (.inl hb))).1;omega
 .have hlt:=ho.lt
  rcases hb with rfl|hb|hb
  .have:=hcm _ (.inl rfl);exact⟨by omega,this.2⟩
  .have:=hcm b (.inr (.inl hb));exact⟨by omega,this.2⟩
  .refine⟨(hlt b hb).2,?_⟩
   rcases hL b hb with h1|h1
   .exact(hcm b (.inr (.inr h1))).2
   .exact hP.new h1
theorem fA.mark{f:Value->Option Value}(m:fA pp h s w wr mb qv kv q B line)(hf:∀x:Nat,f (.int .i64 (x:Int))=if x∈line then some (.bool true)else none)
 (hM:fM prog 3 w2 mb (line.length+1) (upd (λ_ _=>Classical.propDecidable _) f (.int .i64 (i:Int)) (.bool true))) (hg:wr.grownBy w2 (some mb)):fA pp h s w w2 mb qv kv q B (line++[i]):=by
 have hk:=gH hg;have hz:=hg.size;refine⟨aV m.q hk (λb hb e=>m.a1 (e ▸ hb)),aV m.k hk (λb hb e=>m.a2 (e ▸ hb)),⟨_,by rw[aK];exact hM,λx=>?_⟩,m.mb0,m.a1,m.a2,m.a3,λb hb=>⟨by have:=(m.Ep b hb).1;omega,(m.Ep b hb).2⟩⟩;by_cases e:x=i
 .subst e;rw[upd_same];simp
 .rw[upd_ne (by simp;omega),hf x];simp[e]
theorem fA.pop{g c:Nat}(m:fA pp h s w wr mb (.slice (some ⟨g,0,none⟩) (q++[i]).length c) kv (q++[i]) B line):fA pp h s w wr mb (.slice (some ⟨g,0,none⟩) q.length c) kv q B line:=by
 refine⟨?_,m.k,m.seen,m.mb0,m.a1,m.a2,m.a3,m.Ep⟩;have:=Bl (k:=q.length) m.q (by simp);rw[mq,List.take_append_of_le_length (by rw[aP];omega),dH (by rw[aP];omega)]at this;exact this
theorem fA.look{pp h:Nat}{s:iK}{w wr:World}{mb:Nat}{qv kv:Value}{q B line:List Nat}(m:fA pp h s w wr mb qv kv q B line){x:Nat}(hx:x<1000000000)(W:World)(hW:W.heap[mb]?=wr.heap[mb]?):
 (Instr.lookup 196 (.map (some mb)) (.int .i64 (x:Int)) false).run prog W=.ok (.bool (decide (x∈line))) W:=by
 obtain⟨f,f1,f2⟩:=m.seen;obtain⟨kl,hkl⟩:=qN x hx;have:=(f1.keep hW).look oz underlying196 (Yn W) hkl false;rw[this,f2];by_cases e:x∈line <;> simp[e]
def Grow(s:iK)(f:Nat)(s':iK):Prop:=(∀N,f<N->N<=s.D.length->s'.D.length+miss N s'.cn<=s.D.length+miss N s.cn)/\(∀x,x<s.D.length->s.cn x=none->(s'.cn x).isSome->aZ.born (vl s.D x)<=aZ.born (vl s.D f))/\∀x,s.D.length<=x->x<s'.D.length->(s'.cn x).isSome
def tX(s:iK)(f:Nat)(s':iK):Prop:=(∀N,f<N->N<=s.D.length->s'.D.length+miss N s'.cn<=s.D.length+miss N s.cn)/\(∀x,x<s.D.length->s.cn x=none->(s'.cn x).isSome->aZ.born (vl s.D x)<aZ.born (vl s.D f))/\∀x,s.D.length<=x->x<s'.D.length->(s'.cn x).isSome
theorem tX.refl(s:iK)(f:Nat):tX s f s:=⟨λ_ _ _=>ax _,λx _ h k=>(by rw[h]at k;cases k),λx a b=>absurd b (by omega)⟩
def qE(D:cZ)(cn:Nat->Option Nat)(left:Bool)(f:Nat):List Nat:=(opt D left f).map λx=>(cn x).getD 0
def lX(D:cZ)(cn:Nat->Option Nat)(f:Nat)(left:Bool)(F:List Nat):Prop:=(∀x,x∈opt D left f->(cn x).isSome)/\∃line B,fK D f left (qE D cn left f) line B line.length/\uX D left B F
end
