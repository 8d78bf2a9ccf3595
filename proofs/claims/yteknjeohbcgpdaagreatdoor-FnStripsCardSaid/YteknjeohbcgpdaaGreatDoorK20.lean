/-
  Contracts of the reference's l1Split at the empty cells, l23Over and l23Raw. (2 texts.)
-/
import Derived.Test.YteknjeohbcgpdaaGreatDoorK19
set_option maxRecDepth 100000
namespace Go.Proofs.YteknjeohbcgpdaaGreatDoor
open Tryz
section
open Go.RowKit
open bz (Stp pk o5 J8 tJ fQ jH jN st2)
def Km(left:Bool)(s:Stp)(i m:Nat):List Stp:=if m=0 then []else if m=1 then fQ left s i ((i:Int)-1)else tJ left s i
theorem JP(left:Bool)(s:Stp)(i:Nat){m:Nat}{st:Int}(hm:m<2)(hst:st=2*(m:Int)-1):Km left s i (m+1)=Km left s i m++fQ left s i ((i:Int)+st):=by
 match m with
 | 0=>
  have:((i:Int)+st)=(i:Int)-1:=by omega
  rw[this];rfl
 | 1=>
  have:((i:Int)+st)=(i:Int)+1:=by omega
  rw[this];rfl
theorem BK(left:Bool)(s:Stp)(i m:Nat):(Km left s i m).length<=2:=by
 unfold Km;split
 .simp
 .split
  .have:=Aa left s i ((i:Int)-1);omega
  .have:=Nb 1 left s i;exact this
theorem Rs.drew{w wr:World}{ov:Value}{ss:List ByteArray}(m:Rs w wr ov ss):Rs w wr.drew ov ss:=m.drewN 1
def uC:List Row:=[⟨0,[],86,[11]⟩,⟨1,[0],87,[85]⟩,⟨2,[1],88,[86]⟩,⟨3,[2],89,[1,87]⟩,⟨4,[2],90,[10,87]⟩,⟨5,[3,4,2],91,[88,89,87]⟩,⟨6,[2],92,[8,87]⟩,⟨7,[6,2],93,[91,87]⟩,⟨8,[5,7,2],94,[90,92,87]⟩,⟨9,[2,8],95,[87,93]⟩]
set_option maxHeartbeats 1000000 in
theorem Bj(s:ByteArray)(hs:s.size<=12)(w:World):Calls prog 156 #[.int .i64 1,.string s,.bool true] w (jJ w (jN 1 true (bH s))):=by
 obtain⟨i0,hi0,hz0,hz1,hz2⟩:=info_parts fO;have hsm:s.size<=maxLen:=by unfold maxLen;omega
 have hm:=Rs.new w;go_enter Tryz.func156,Tryz.ntmps156
 go_wp2
 go_loopw [7,10] (λov ii wr=>∃(i:Nat) (ss:List ByteArray),ii=.int .i64 ((i:Nat):Int)/\i<=s.size/\Rs w wr ov ss/\Hid (ss.map bH=qf 1 true (bH s) i)) (λ_ ii _=>s.size-(intOf ii).toNat)
 case atStart=>exact⟨0,[],rfl,az _,hm,aH rfl⟩
 case round=>
  clear hm;obtain⟨i,ss,rfl,hi,hm,fK⟩:=hrel;by_cases hlt:i<s.size
  .have h1:((i:Nat):Int)<((s.size:Nat):Int):=by omega
   have dK:=aH hlt;have hb:((((s[i]'dK.out).toNat:Nat):Int)== 76)=decide ((bH s)[i]?=some 76):=lg dK.out 76 (by decide);have hse:=jZ 1 true (bH s) i;have hln:=lV 1 true (bH s) i;by_cases hc:(bH s)[i]?=some 76
   .rw[decide_eq_true hc]at hb
    have hb2:((((s[i]'dK.out).toNat:Nat):Int)== ((((⟨#[76]⟩:ByteArray)[0]'(by decide)).toNat:Nat):Int))=true:=hb;have HC:=aH hc;have lT:=aH hse;have pU:=aH hln;clear hc hse hln hlt;go_wp2
    obtain⟨wo,hwo⟩:∃wo,wo=wr:=⟨_,rfl⟩;rw[<-hwo]at hm;go_loopw [7,11] (λov kk wr=>∃(m:Nat) (st:Int) (ss:List ByteArray),kk=.int .i64 st/\Hid (st=2*(m:Int)-1)/\m<=2/\Rs w wr ov ss/\Hid (ss.map bH=qf 1 true (bH s) i++Km true (bH s) i m)) (λ_ kk _=>(3-intOf kk).toNat)
    case atStart=>exact⟨0,-1,ss,rfl,aH rfl,by omega,by rw[<-hwo];exact hm,aH (by rw[fK.out];simp[Km])⟩
    case round=>
     clear hm hwo fK;obtain⟨m,st,ss,rfl,HST,hm2,hm,fK⟩:=hrel;by_cases hlm:m<2
     .have hs1:st<=1/\-1<=st:=by have:=HST.out;omega
      obtain⟨hle,hge⟩:=hs1;obtain⟨LF,hwb⟩:wrap64 (((i:Nat):Int)+st)=((i:Nat):Int)+st/\wrap64 (st+2)=st+2:=⟨dS (by omega),dS (by omega)⟩;have hcs:=JP true (bH s) i hlm HST.out;have hcl:=BK true (bH s) i m;have hsl:ss.length<=26:=(by have e:=congrArg List.length fK.out;have:=pU.out;rw[aJ,aj]at e;omega);obtain⟨ao,co,rfl,-,-⟩:=bD hm.own;have I1:∀w,Calls prog 194 #[.string s,.int .i64 (((i:Nat):Int)+st),.int .u8 82] w λe w'=>e=.returned (.bool (xY s (((i:Nat):Int)+st) 82))/\RD w w':=λw=>j6 s hsm _ _ w
      cases h2:xY s (((i:Nat):Int)+st) 82 with
      |false=>
       have hp:=of_decide_eq_false h2;rw[h2]at I1;have IA:=aH I1;have hno:fQ true (bH s) i (((i:Nat):Int)+st)=[]:=if_neg λk=>hp k.2
       rw[hno,bq]at hcs;have xX:=aH hcs;have xW:=aH hlm;clear h2 hp I1 hno hcs hcl hlm hge;go_upto_region 21 with fail
       refine bW (λ_=>True) [] uC (by kernel_rfl) ⟨by kernel_rfl,by kernel_rfl,by kernel_rfl⟩ trivial (λax ae=>?_);(refine bT 0 ax ae ?_;refine bT 1 ax ae ?_;refine bT 2 ax ae ?_;refine bT 3 ax ae ?_;refine bT 4 ax ae ?_;refine bT 5 ax ae ?_;refine bT 6 ax ae ?_;refine bT 7 ax ae ?_;refine bT 8 ax ae ?_;refine bT 9 ax ae ?_);refine ow ax [] [] ?_ (hm:=rfl);clear ax ae;have hm:=hm.drew;go_wp2_with (go_at_call 194;refine(IA.out _).mono ?_;rintro e w2 ⟨rfl,hr⟩;have hm:=hm.to (bS hr);clear hr)
       go_roundw
       case rel=>exact⟨m+1,st+2,ss,(by rw[hwb]),aH (by have:=HST.out;omega),xW.out,hm,aH (by rw[fK.out,xX.out])⟩
       case measure=>have:=HST.out;have:=xW.out;simp only[intOf];omega
      |true=>
       have hp:=of_decide_eq_true h2;obtain⟨j,hj,hj2⟩:=bz.jA.1 hp;have hjl:=bz.fU hj2;rw[bN]at hjl;have nW:fQ true (bH s) i (((i:Nat):Int)+st)=[((bH s).set i 46).set j 76]:=by
        unfold fQ;rw[if_pos ⟨HC.out,hp⟩,st2,hj];simp[o5]
       rw[nW]at hcs;rw[h2,hj]at I1;replace LF:=LF.trans hj;have IA:=aH I1;have xX:=aH hcs;have xW:=aH hlm;have hs1:=jy s ⟨#[46]⟩ (by omega) i dK.out 46 GD;have ou:=aH hs1;have Od:=aH (Eq.refl 0);clear h2 hp I1 nW hcs hcl hlm hge hj hj2 hs1;go_upto_region 21 with fail
       refine bW (λ_=>True) [] uC (by kernel_rfl) ⟨by kernel_rfl,by kernel_rfl,by kernel_rfl⟩ trivial (λax ae=>?_);(refine bT 0 ax ae ?_;refine bT 1 ax ae ?_;refine bT 2 ax ae ?_;refine bT 3 ax ae ?_;refine bT 4 ax ae ?_;refine bT 5 ax ae ?_;refine bT 6 ax ae ?_;refine bT 7 ax ae ?_;refine bT 8 ax ae ?_;refine bT 9 ax ae ?_);refine ow ax [] [] ?_ (hm:=rfl);clear ax ae;have hm:=hm.drew
       go_wp2_with (first
        |(go_at_call 194;refine(IA.out _).mono ?_;rintro e w2 ⟨rfl,hr⟩;have hm:=hm.to (bS hr);clear hr)
        |(clear Od;go_at_call 195;refine(ou.out _).mono ?_;rintro e w3 ⟨u,rfl,hu,hr⟩;have hm:=hm.to (bS hr);have hz:=rq hu;have HU:=aH hu;clear hr hu)
        |(go_at_call 195;refine(jy u ⟨#[76]⟩ (by omega) j (by omega) 76 (by decide) _).mono ?_;rintro e w4 ⟨x,rfl,hx,hr⟩;have hm:=hm.to (bS hr);have HX:=aH hx;clear hr hx)
        |(at_builtin;refine bQ rfl (.tmp 104) (.tmp 113) 22 rfl w.heap.size 9 i0 (.string ⟨#[]⟩) 1 16 underlying22 hi0 hz0 hz1 hz2 rfl (by decide) (.slice ao ss.length co) ss.length (ss.map Value.string) rfl (hm.own.alloc _) _ 1 _ [.string x] rfl rfl (.inr ⟨_,rfl,cK (bP _ _ _)⟩) dH (by unfold maxLen;omega) (by omega) (by have:=hm.ext.size;rw[fw];omega) ?_;intro v5 w5 fI hg5 hl5;have hm:=hm.put fI hg5))
       go_roundw
       case rel=>exact⟨m+1,st+2,ss++[x],(by rw[hwb]),aH (by have:=HST.out;omega),xW.out,hm,aH (by rw[aU,fK.out,xX.out];simp[HX.out,HU.out])⟩
       case measure=>have:=HST.out;have:=xW.out;simp only[intOf];omega
     .have AV:m=2:=by omega
      have hgt:¬st<=1:=(by have:=HST.out;omega);subst AV;clear hlm hm2;go_upto_region 21 with fail
      refine bW (λ_=>True) [] uC (by kernel_rfl) ⟨by kernel_rfl,by kernel_rfl,by kernel_rfl⟩ trivial (λax ae=>?_);(refine bT 0 ax ae ?_;refine bT 1 ax ae ?_;refine bT 2 ax ae ?_);((refine fM ax (i:=3) (oi:=_) (v:=undef) (by simp only[gE];rfl) (by kernel_rfl) (by exact λ_ _ _ h=>h) ae (Or.inr ⟨by rfl,rfl⟩) ?r24);(try simp only[nP]);(refine fM ax (i:=4) (oi:=_) (v:=undef) (by simp only[gE];rfl) (by kernel_rfl) (by exact λ_ _ _ h=>h) ae (Or.inr ⟨by rfl,rfl⟩) ?r25);(try simp only[nP]);(refine fM ax (i:=5) (oi:=_) (v:=undef) (by simp only[gE];rfl) (by kernel_rfl) (by exact λ_ _ _ h=>h) ae (Or.inr ⟨by rfl,rfl⟩) ?r26);(try simp only[nP]);(refine fM ax (i:=6) (oi:=_) (v:=undef) (by simp only[gE];rfl) (by kernel_rfl) (by exact λ_ _ _ h=>h) ae (Or.inr ⟨by rfl,rfl⟩) ?r27);(try simp only[nP]);(refine fM ax (i:=7) (oi:=_) (v:=undef) (by simp only[gE];rfl) (by kernel_rfl) (by exact λ_ _ _ h=>h) ae (Or.inr ⟨by rfl,rfl⟩) ?r28);(try simp only[nP]);(refine fM ax (i:=8) (oi:=_) (v:=undef) (by simp only[gE];rfl) (by kernel_rfl) (by exact λ_ _ _ h=>h) ae (Or.inr ⟨by rfl,rfl⟩) ?r29);(try simp only[nP]));(refine bT 9 ax ae ?_);refine ow ax [] [] ?_ (hm:=rfl);clear ax ae;have hm:=hm.drew;go_wp2
      go_roundw
      case rel=>exact⟨i+1,ss,by go_num,dK.out,hm,aH (by rw[fK.out,lT.out];rfl)⟩
      case measure=>have:=dK.out;simp[intOf];omega
   .rw[decide_eq_false hc]at hb
    have hb2:((((s[i]'dK.out).toNat:Nat):Int)== ((((⟨#[76]⟩:ByteArray)[0]'(by decide)).toNat:Nat):Int))=false:=hb;have hno:jH 1 true (bH s) i=[]:=by
     show fQ _ _ _ _++fQ _ _ _ _=[];unfold fQ;rw[if_neg (λk=>hc k.1),if_neg (λk=>hc k.1)];rfl
    rw[hno,bq]at hse;have lT:=aH hse;clear hc hse hln hno hlt;go_wp2
    go_loopw [7,11] (λov kk wr=>kk=.int .i64 (-1)/\Rs w wr ov ss) (λ_ _ _=>0)
    case atStart=>exact⟨rfl,hm⟩
    case round=>
     clear hm;obtain⟨rfl,hm⟩:=hrel;go_upto_region 21 with fail
     refine bW (λ_=>True) [] uC (by kernel_rfl) ⟨by kernel_rfl,by kernel_rfl,by kernel_rfl⟩ trivial (λax ae=>?_);(refine bT 0 ax ae ?_;refine bT 1 ax ae ?_;refine bT 2 ax ae ?_;refine bT 3 ax ae ?_;refine bT 4 ax ae ?_;refine bT 5 ax ae ?_;refine bT 6 ax ae ?_;refine bT 7 ax ae ?_;refine bT 8 ax ae ?_;refine bT 9 ax ae ?_);refine ow ax [] [] ?_ (hm:=rfl);clear ax ae;have hm:=hm.drew;go_wp2
     go_roundw
     case rel=>exact⟨i+1,ss,by go_num,dK.out,hm,aH (by rw[fK.out,lT.out])⟩
     case measure=>have:=dK.out;simp[intOf];omega
  .have hie:i=s.size:=by omega
   subst hie;go_wp2
   go_ret
   exact⟨_,ss,rfl,hm,by rw[fK.out,lW]⟩
set_option maxHeartbeats 1000000 in
theorem zT(s:ByteArray)(hs:s.size<=12)(w:World):Calls prog 156 #[.int .i64 1,.string s,.bool false] w (jJ w (jN 1 false (bH s))):=by
 obtain⟨i0,hi0,hz0,hz1,hz2⟩:=info_parts fO;have hsm:s.size<=maxLen:=by unfold maxLen;omega
 have hm:=Rs.new w;go_enter Tryz.func156,Tryz.ntmps156
 go_wp2
 go_loopw [7,10] (λov ii wr=>∃(i:Nat) (ss:List ByteArray),ii=.int .i64 ((i:Nat):Int)/\i<=s.size/\Rs w wr ov ss/\Hid (ss.map bH=qf 1 false (bH s) i)) (λ_ ii _=>s.size-(intOf ii).toNat)
 case atStart=>exact⟨0,[],rfl,az _,hm,aH rfl⟩
 case round=>
  clear hm;obtain⟨i,ss,rfl,hi,hm,fK⟩:=hrel;by_cases hlt:i<s.size
  .have h1:((i:Nat):Int)<((s.size:Nat):Int):=by omega
   have dK:=aH hlt;have hb:((((s[i]'dK.out).toNat:Nat):Int)== 82)=decide ((bH s)[i]?=some 82):=lg dK.out 82 (by decide);have hse:=jZ 1 false (bH s) i;have hln:=lV 1 false (bH s) i;by_cases hc:(bH s)[i]?=some 82
   .rw[decide_eq_true hc]at hb
    have hb2:((((s[i]'dK.out).toNat:Nat):Int)== ((((⟨#[82]⟩:ByteArray)[0]'(by decide)).toNat:Nat):Int))=true:=hb;have HC:=aH hc;have lT:=aH hse;have pU:=aH hln;clear hc hse hln hlt;go_wp2
    obtain⟨wo,hwo⟩:∃wo,wo=wr:=⟨_,rfl⟩;rw[<-hwo]at hm;go_loopw [7,11] (λov kk wr=>∃(m:Nat) (st:Int) (ss:List ByteArray),kk=.int .i64 st/\Hid (st=2*(m:Int)-1)/\m<=2/\Rs w wr ov ss/\Hid (ss.map bH=qf 1 false (bH s) i++Km false (bH s) i m)) (λ_ kk _=>(3-intOf kk).toNat)
    case atStart=>exact⟨0,-1,ss,rfl,aH rfl,by omega,by rw[<-hwo];exact hm,aH (by rw[fK.out];simp[Km])⟩
    case round=>
     clear hm hwo fK;obtain⟨m,st,ss,rfl,HST,hm2,hm,fK⟩:=hrel;by_cases hlm:m<2
     .have hs1:st<=1/\-1<=st:=by have:=HST.out;omega
      obtain⟨hle,hge⟩:=hs1;obtain⟨LF,hwb⟩:wrap64 (((i:Nat):Int)+st)=((i:Nat):Int)+st/\wrap64 (st+2)=st+2:=⟨dS (by omega),dS (by omega)⟩;have hcs:=JP false (bH s) i hlm HST.out;have hcl:=BK false (bH s) i m;have hsl:ss.length<=26:=(by have e:=congrArg List.length fK.out;have:=pU.out;rw[aJ,aj]at e;omega);obtain⟨ao,co,rfl,-,-⟩:=bD hm.own;have I1:∀w,Calls prog 194 #[.string s,.int .i64 (((i:Nat):Int)+st),.int .u8 76] w λe w'=>e=.returned (.bool (xY s (((i:Nat):Int)+st) 76))/\RD w w':=λw=>j6 s hsm _ _ w
      cases h2:xY s (((i:Nat):Int)+st) 76 with
      |false=>
       have hp:=of_decide_eq_false h2;rw[h2]at I1;have IA:=aH I1;have hno:fQ false (bH s) i (((i:Nat):Int)+st)=[]:=if_neg λk=>hp k.2
       rw[hno,bq]at hcs;have xX:=aH hcs;have xW:=aH hlm;clear h2 hp I1 hno hcs hcl hlm hge;go_upto_region 21 with fail
       refine bW (λ_=>True) [] uC (by kernel_rfl) ⟨by kernel_rfl,by kernel_rfl,by kernel_rfl⟩ trivial (λax ae=>?_);(refine bT 0 ax ae ?_;refine bT 1 ax ae ?_;refine bT 2 ax ae ?_;refine bT 3 ax ae ?_;refine bT 4 ax ae ?_;refine bT 5 ax ae ?_;refine bT 6 ax ae ?_;refine bT 7 ax ae ?_;refine bT 8 ax ae ?_;refine bT 9 ax ae ?_);refine ow ax [] [] ?_ (hm:=rfl);clear ax ae;have hm:=hm.drew;go_wp2_with (go_at_call 194;refine(IA.out _).mono ?_;rintro e w2 ⟨rfl,hr⟩;have hm:=hm.to (bS hr);clear hr)
       go_roundw
       case rel=>exact⟨m+1,st+2,ss,(by rw[hwb]),aH (by have:=HST.out;omega),xW.out,hm,aH (by rw[fK.out,xX.out])⟩
       case measure=>have:=HST.out;have:=xW.out;simp only[intOf];omega
      |true=>
       have hp:=of_decide_eq_true h2;obtain⟨j,hj,hj2⟩:=bz.jA.1 hp;have hjl:=bz.fU hj2;rw[bN]at hjl;have nW:fQ false (bH s) i (((i:Nat):Int)+st)=[((bH s).set i 46).set j 82]:=by
        unfold fQ;rw[if_pos ⟨HC.out,hp⟩,st2,hj];simp[o5]
       rw[nW]at hcs;rw[h2,hj]at I1;replace LF:=LF.trans hj;have IA:=aH I1;have xX:=aH hcs;have xW:=aH hlm;have hs1:=jy s ⟨#[46]⟩ (by omega) i dK.out 46 GD;have ou:=aH hs1;have Od:=aH (Eq.refl 0);clear h2 hp I1 nW hcs hcl hlm hge hj hj2 hs1;go_upto_region 21 with fail
       refine bW (λ_=>True) [] uC (by kernel_rfl) ⟨by kernel_rfl,by kernel_rfl,by kernel_rfl⟩ trivial (λax ae=>?_);(refine bT 0 ax ae ?_;refine bT 1 ax ae ?_;refine bT 2 ax ae ?_;refine bT 3 ax ae ?_;refine bT 4 ax ae ?_;refine bT 5 ax ae ?_;refine bT 6 ax ae ?_;refine bT 7 ax ae ?_;refine bT 8 ax ae ?_;refine bT 9 ax ae ?_);refine ow ax [] [] ?_ (hm:=rfl);clear ax ae;have hm:=hm.drew
       go_wp2_with (first
        |(go_at_call 194;refine(IA.out _).mono ?_;rintro e w2 ⟨rfl,hr⟩;have hm:=hm.to (bS hr);clear hr)
        |(clear Od;go_at_call 195;refine(ou.out _).mono ?_;rintro e w3 ⟨u,rfl,hu,hr⟩;have hm:=hm.to (bS hr);have hz:=rq hu;have HU:=aH hu;clear hr hu)
        |(go_at_call 195;refine(jy u ⟨#[82]⟩ (by omega) j (by omega) 82 (by decide) _).mono ?_;rintro e w4 ⟨x,rfl,hx,hr⟩;have hm:=hm.to (bS hr);have HX:=aH hx;clear hr hx)
        |(at_builtin;refine bQ rfl (.tmp 104) (.tmp 113) 22 rfl w.heap.size 9 i0 (.string ⟨#[]⟩) 1 16 underlying22 hi0 hz0 hz1 hz2 rfl (by decide) (.slice ao ss.length co) ss.length (ss.map Value.string) rfl (hm.own.alloc _) _ 1 _ [.string x] rfl rfl (.inr ⟨_,rfl,cK (bP _ _ _)⟩) dH (by unfold maxLen;omega) (by omega) (by have:=hm.ext.size;rw[fw];omega) ?_;intro v5 w5 fI hg5 hl5;have hm:=hm.put fI hg5))
       go_roundw
       case rel=>exact⟨m+1,st+2,ss++[x],(by rw[hwb]),aH (by have:=HST.out;omega),xW.out,hm,aH (by rw[aU,fK.out,xX.out];simp[HX.out,HU.out])⟩
       case measure=>have:=HST.out;have:=xW.out;simp only[intOf];omega
     .have AV:m=2:=by omega
      have hgt:¬st<=1:=(by have:=HST.out;omega);subst AV;clear hlm hm2;go_upto_region 21 with fail
      refine bW (λ_=>True) [] uC (by kernel_rfl) ⟨by kernel_rfl,by kernel_rfl,by kernel_rfl⟩ trivial (λax ae=>?_);(refine bT 0 ax ae ?_;refine bT 1 ax ae ?_;refine bT 2 ax ae ?_);((refine fM ax (i:=3) (oi:=_) (v:=undef) (by simp only[gE];rfl) (by kernel_rfl) (by exact λ_ _ _ h=>h) ae (Or.inr ⟨by rfl,rfl⟩) ?r64);(try simp only[nP]);(refine fM ax (i:=4) (oi:=_) (v:=undef) (by simp only[gE];rfl) (by kernel_rfl) (by exact λ_ _ _ h=>h) ae (Or.inr ⟨by rfl,rfl⟩) ?r65);(try simp only[nP]);(refine fM ax (i:=5) (oi:=_) (v:=undef) (by simp only[gE];rfl) (by kernel_rfl) (by exact λ_ _ _ h=>h) ae (Or.inr ⟨by rfl,rfl⟩) ?r66);(try simp only[nP]);(refine fM ax (i:=6) (oi:=_) (v:=undef) (by simp only[gE];rfl) (by kernel_rfl) (by exact λ_ _ _ h=>h) ae (Or.inr ⟨by rfl,rfl⟩) ?r67);(try simp only[nP]);(refine fM ax (i:=7) (oi:=_) (v:=undef) (by simp only[gE];rfl) (by kernel_rfl) (by exact λ_ _ _ h=>h) ae (Or.inr ⟨by rfl,rfl⟩) ?r68);(try simp only[nP]);(refine fM ax (i:=8) (oi:=_) (v:=undef) (by simp only[gE];rfl) (by kernel_rfl) (by exact λ_ _ _ h=>h) ae (Or.inr ⟨by rfl,rfl⟩) ?r69);(try simp only[nP]));(refine bT 9 ax ae ?_);refine ow ax [] [] ?_ (hm:=rfl);clear ax ae;have hm:=hm.drew;go_wp2
      go_roundw
      case rel=>exact⟨i+1,ss,by go_num,dK.out,hm,aH (by rw[fK.out,lT.out];rfl)⟩
      case measure=>have:=dK.out;simp[intOf];omega
   .rw[decide_eq_false hc]at hb
    have hb2:((((s[i]'dK.out).toNat:Nat):Int)== ((((⟨#[82]⟩:ByteArray)[0]'(by decide)).toNat:Nat):Int))=false:=hb;have hno:jH 1 false (bH s) i=[]:=by
     show fQ _ _ _ _++fQ _ _ _ _=[];unfold fQ;rw[if_neg (λk=>hc k.1),if_neg (λk=>hc k.1)];rfl
    rw[hno,bq]at hse;have lT:=aH hse;clear hc hse hln hno hlt;go_wp2
    go_loopw [7,11] (λov kk wr=>kk=.int .i64 (-1)/\Rs w wr ov ss) (λ_ _ _=>0)
    case atStart=>exact⟨rfl,hm⟩
    case round=>
     clear hm;obtain⟨rfl,hm⟩:=hrel;go_upto_region 21 with fail
     refine bW (λ_=>True) [] uC (by kernel_rfl) ⟨by kernel_rfl,by kernel_rfl,by kernel_rfl⟩ trivial (λax ae=>?_);(refine bT 0 ax ae ?_;refine bT 1 ax ae ?_;refine bT 2 ax ae ?_;refine bT 3 ax ae ?_;refine bT 4 ax ae ?_;refine bT 5 ax ae ?_;refine bT 6 ax ae ?_;refine bT 7 ax ae ?_;refine bT 8 ax ae ?_;refine bT 9 ax ae ?_);refine ow ax [] [] ?_ (hm:=rfl);clear ax ae;have hm:=hm.drew;go_wp2
     go_roundw
     case rel=>exact⟨i+1,ss,by go_num,dK.out,hm,aH (by rw[fK.out,lT.out])⟩
     case measure=>have:=dK.out;simp[intOf];omega
  .have hie:i=s.size:=by omega
   subst hie;go_wp2
   go_ret
   exact⟨_,ss,rfl,hm,by rw[fK.out,lW]⟩
theorem mJ{k:Nat}(hk:k<=3)(left:Bool)(s:ByteArray)(hs:s.size<=12)(w:World):Calls prog 156 #[.int .i64 ((k:Nat):Int),.string s,.bool left] w (jJ w (jN k left (bH s))):=by
 match k,hk with
 | 0,_=>cases left;exact CR s hs w;exact D8 s hs w
 | 1,_=>cases left;exact zT s hs w;exact Bj s hs w
 | 2,_=>cases left;exact Bi s hs w;exact CQ s hs w
 | 3,_=>cases left;exact CS s hs w;exact D9 s hs w
end
section
open Go.RowKit
open bz (Stp jN kC dots Qh runs yu jW piece)
theorem lh(s:ByteArray)(a b:Nat):bH (s.extract a b)=((bH s).take b).drop a:=by
 unfold bH;simp[ByteArray.data_extract,List.drop_take]
set_option maxHeartbeats 1000000 in
theorem Jj(s:ByteArray)(hs:s.size<=12)(w:World):Calls prog 157 #[.string s,.int .u8 46] w (jJ w (dots (bH s))):=by
 obtain⟨i0,hi0,hz0,hz1,hz2⟩:=info_parts fO;have hm:=Rs.new w;go_enter Tryz.func157,Tryz.ntmps157
 go_wp2
 go_loopw [5,6,7] (λov ff ii wr=>∃(a i:Nat) (ss:List ByteArray),ff=.int .i64 ((a:Nat):Int)/\ii=.int .i64 ((i:Nat):Int)/\a<=i/\i<=s.size/\ss.length<=i/\Rs w wr ov ss/\Hid (dots (bH s)=ss.map bH++Qh (bH s) a i)) (λ_ _ ii _=>s.size-(intOf ii).toNat)
 case atStart=>exact⟨0,0,[],rfl,rfl,ai _,az _,az _,hm,aH (by rw[bz.QX];rfl)⟩
 case round=>
  clear hm;obtain⟨a,i,ss,rfl,rfl,hai,hi,hsl,hm,fK⟩:=hrel;obtain⟨ao,co,rfl,-,-⟩:=bD hm.own;by_cases hlt:i<s.size
  .have h1:((i:Nat):Int)<((s.size:Nat):Int):=by omega
   have dK:=aH hlt;have hb:((((s[i]'dK.out).toNat:Nat):Int)== 46)=decide ((bH s)[i]?=some 46):=lg dK.out 46 (by decide);have hwb:wrap64 (((i:Nat):Int)+1)=((i:Nat):Int)+1:=dS (by omega);by_cases hc:(bH s)[i]?=some 46
   .rw[decide_eq_true hc]at hb
    have HSD:=aH (bz.Vu (a:=a) hc);have g1:((a:Nat):Int)<=((i:Nat):Int):=(by omega);have g2:((i:Nat):Int)<=((s.size:Nat):Int):=(by omega);clear hc hlt;go_wp2_with (at_builtin;refine bQ rfl (.tmp 20) (.tmp 25) 22 rfl w.heap.size 9 i0 (.string ⟨#[]⟩) 1 16 underlying22 hi0 hz0 hz1 hz2 rfl (by decide) (.slice ao ss.length co) ss.length (ss.map Value.string) rfl (hm.own.alloc _) _ 1 _ [.string (s.extract a i)] rfl rfl (.inr ⟨_,rfl,cK (bP _ _ _)⟩) dH (by unfold maxLen;omega) (by omega) (by have:=hm.ext.size;rw[fw];omega) ?_;intro v5 w5 fI hg5 hl5;have hm:=hm.put fI hg5)
    go_roundw
    case rel=>exact⟨i+1,i+1,ss++[s.extract a i],by go_num,by go_num,ai _,dK.out,by rw[aj];simp;omega,hm,aH (by rw[fK.out,HSD.out];simp[lh])⟩
    case measure=>have:=dK.out;simp[intOf];omega
   .rw[decide_eq_false hc]at hb
    have HSD:=aH (bz.QY (a:=a) hai (jT hlt) (λk=>hc (by rw[jT hlt,k])));clear hc hlt;go_wp2
    go_roundw
    case rel=>exact⟨a,i+1,ss,rfl,by go_num,by omega,dK.out,by omega,hm,aH (by rw[fK.out,HSD.out])⟩
    case measure=>have:=dK.out;simp[intOf];omega
  .have hie:i=s.size:=by omega
   subst hie;have g1:((a:Nat):Int)<=((s.size:Nat):Int):=(by omega);go_wp2_with (at_builtin;refine bQ rfl (.tmp 29) (.tmp 33) 22 rfl w.heap.size 9 i0 (.string ⟨#[]⟩) 1 16 underlying22 hi0 hz0 hz1 hz2 rfl (by decide) (.slice ao ss.length co) ss.length (ss.map Value.string) rfl (hm.own.alloc _) _ 1 _ [.string (s.extract a s.size)] rfl rfl (.inr ⟨_,rfl,cK (bP _ _ _)⟩) dH (by unfold maxLen;omega) (by omega) (by have:=hm.ext.size;rw[fw];omega) ?_;intro v5 w5 fI hg5 hl5;have hm:=hm.put fI hg5)
   go_ret
   refine⟨_,_,rfl,hm,?_⟩;have e:=bz.Vt (bH s) a;rw[bN]at e;rw[fK.out,e];simp[lh,<-bN s]
theorem qQ{ss:List ByteArray}{l:List Stp}(h:ss.length=l.length):(((ss.length:Nat):Int)== 0)=l.isEmpty:=by
 rw[h];cases l with
 |nil=>rfl
 |cons a l=>rw[iW];simp;omega
set_option maxHeartbeats 1000000 in
theorem Ji{k:Nat}(hk:k<=3)(s:ByteArray)(hs:s.size<=12)(w:World):Calls prog 103 #[.int .i64 ((k:Nat):Int),.string s] w λe w'=>e=.returned (.bool (kC k (bH s)))/\Ext w w':=by
 unfold kC;cases h1:(jN k true (bH s)).isEmpty with
 |false=>
  go_enter Tryz.func103,Tryz.ntmps103
  go_wp2_with (go_at_call 156;refine(mJ hk true s hs _).mono ?_;rintro e w2 hr;obtain⟨a,ss,cap,rfl,hm,hl,hn⟩:=hr.open;have hb:=qQ hn;rw[h1]at hb;clear hn hl)
  go_ret
  exact⟨rfl,hm.ext⟩
 |true=>
  have Od:=aH (Eq.refl 0);cases h2:(jN k false (bH s)).isEmpty with
  |false=>
   go_enter Tryz.func103,Tryz.ntmps103
   go_wp2_with (first
    |(clear Od;go_at_call 156;refine(mJ hk true s hs _).mono ?_;rintro e w2 hr;obtain⟨a,ss,cap,rfl,hm,hl,hn⟩:=hr.open;have hb:=qQ hn;rw[h1]at hb;clear hn hl)
    |(go_at_call 156;refine(mJ hk false s hs _).mono ?_;rintro e w3 hr;obtain⟨a2,zw,cap2,rfl,hm2,hl,hn⟩:=hr.open;have hb2:=qQ hn;rw[h2]at hb2;clear hn hl))
   go_ret
   exact⟨rfl,ay hm.ext hm2.ext⟩
  |true=>
   go_enter Tryz.func103,Tryz.ntmps103
   go_wp2_with (first
    |(clear Od;go_at_call 156;refine(mJ hk true s hs _).mono ?_;rintro e w2 hr;obtain⟨a,ss,cap,rfl,hm,hl,hn⟩:=hr.open;have hb:=qQ hn;rw[h1]at hb;clear hn hl)
    |(go_at_call 156;refine(mJ hk false s hs _).mono ?_;rintro e w3 hr;obtain⟨a2,zw,cap2,rfl,hm2,hl,hn⟩:=hr.open;have hb2:=qQ hn;rw[h2]at hb2;clear hn hl))
   go_ret
   exact⟨rfl,ay hm.ext hm2.ext⟩
end
end Go.Proofs.YteknjeohbcgpdaaGreatDoor