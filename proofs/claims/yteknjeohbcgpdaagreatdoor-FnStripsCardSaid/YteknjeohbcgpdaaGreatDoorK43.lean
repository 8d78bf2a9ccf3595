/-
  Contracts of the reference's GoodStrip and StripParts.
-/
import Derived.Test.YteknjeohbcgpdaaGreatDoorK23
set_option maxRecDepth 100000
namespace Go.Proofs.YteknjeohbcgpdaaGreatDoor
open Tryz
open Go.RowKit
open bz (Stp eQ mU qh)
def iP(kind:Int)(s:Stp):Bool:=decide (0<=kind/\kind<=3) && (decide (s.length<=12) && s.all λc=>(qh kind.toNat).contains c)
theorem ic{kind:Int}{s:Stp}:iP kind s=true↔∃k:Nat,kind=k/\k<=3/\s.length<=12/\mU k s:=by
 simp only[iP,eP,decide_eq_true_eq,List.all_eq_true,List.contains_iff_mem];constructor
 .rintro⟨h1,h2,h3⟩
  exact⟨kind.toNat,by omega,by omega,h2,h3⟩
 .rintro⟨k,rfl,h1,h2,h3⟩
  exact⟨by omega,h2,h3⟩
theorem nu{s:ByteArray}{i:Nat}(h:i<s.size)(n:Nat)(m:Int)(hm:m=n)(hn:n<256):((((s[i]'h).toNat:Nat):Int)== m)=decide ((s[i]'h)=UInt8.ofNat n):=by
 subst hm;rw[Gz _ _ hn,iW];simp
set_option maxHeartbeats 1000000 in
theorem goodStrip_0(s:ByteArray)(hs:s.size<=12)(w:World):Calls prog 23 #[.int .i64 0,.string s] w λe w'=>e=.returned (.bool (iP 0 (bH s)))/\RD w w':=by
 have hle:¬((12:Int)<((s.size:Nat):Int)):=by omega
 go_enter Tryz.func23,Tryz.ntmps23
 go_wp2_with (go_at_call 60;refine(jr _ _ _ _).mono ?_;rintro e w2 ⟨he,n,rfl⟩;rw[show DJ 0 0 3=true by decide]at he;subst he)
 go_loopw [5] (λii wr=>∃i:Nat,ii=.int .i64 ((i:Nat):Int)/\i<=s.size/\RD w wr/\Hid (∀q (hq:q<i) (h:q<s.size),s[q]'h∈qh 0)) (λii _=>s.size-(intOf ii).toNat)
 case atStart=>exact⟨0,rfl,az _,(by first|exact su _|exact xc _ _|exact wY _ _ _|exact wW _ _ _ _),aH λq hq _=>by omega⟩
 case round=>
  obtain⟨i,rfl,hi,hrd,HB⟩:=hrel;by_cases hlt:i<s.size
  .have h1:((i:Nat):Int)<((s.size:Nat):Int):=by omega
   have dK:=aH hlt;have b1:=nu dK.out 46 46 rfl (by decide);have b2:=nu dK.out 84 84 rfl (by decide);have b3:=nu dK.out 70 70 rfl (by decide);obtain⟨c,hc⟩:∃c,c=s[i]'dK.out:=⟨_,rfl⟩;have HC:=aH hc;by_cases q1:(s[i]'dK.out)=UInt8.ofNat 46
   .rw[decide_eq_true q1]at b1
    have HM:Hid (c∈qh 0):=aH (by rw[HC.out,q1];decide);clear q1 hc hlt b2 b3;go_wp2
    go_roundw
    case rel=>exact⟨i+1,by go_num,dK.out,hrd,aH λq hq hq2=>by
     by_cases e:q=i
     .subst e;rw[<-HC.out];exact HM.out
     .exact HB.out q (by omega) hq2⟩
    case measure=>have:=dK.out;simp[intOf];omega
   .by_cases q2:(s[i]'dK.out)=UInt8.ofNat 84
    .rw[decide_eq_false q1]at b1
     rw[decide_eq_true q2]at b2;have HM:Hid (c∈qh 0):=aH (by rw[HC.out,q2];decide);clear q1 q2 hc hlt b3;go_wp2
     go_roundw
     case rel=>exact⟨i+1,by go_num,dK.out,hrd,aH λq hq hq2=>by
      by_cases e:q=i
      .subst e;rw[<-HC.out];exact HM.out
      .exact HB.out q (by omega) hq2⟩
     case measure=>have:=dK.out;simp[intOf];omega
    .by_cases q3:(s[i]'dK.out)=UInt8.ofNat 70
     .rw[decide_eq_false q1]at b1
      rw[decide_eq_false q2]at b2;rw[decide_eq_true q3]at b3;have HM:Hid (c∈qh 0):=aH (by rw[HC.out,q3];decide);clear q1 q2 q3 hc hlt;go_wp2
      go_roundw
      case rel=>exact⟨i+1,by go_num,dK.out,hrd,aH λq hq hq2=>by
       by_cases e:q=i
       .subst e;rw[<-HC.out];exact HM.out
       .exact HB.out q (by omega) hq2⟩
      case measure=>have:=dK.out;simp[intOf];omega
     .rw[decide_eq_false q1]at b1
      rw[decide_eq_false q2]at b2;rw[decide_eq_false q3]at b3;have hno:iP 0 (bH s)=false:=by
       refine jm.2 λk=>?_
       obtain⟨m,e,_,_,hL⟩:=ic.1 k;have hm:=hL c (dU (i:=i) (by rw[jT dK.out,HC.out]));obtain rfl:m=0:=(by omega);have:c=46\/c=84\/c=70:=(by simpa [qh]using hm);rcases this with r|r|r
       .exact q1 (by rw[<-HC.out,r];rfl)
       .exact q2 (by rw[<-HC.out,r];rfl)
       .exact q3 (by rw[<-HC.out,r];rfl)
      have ML:=aH hno;clear q1 q2 q3 hc hlt hno;go_wp2
      go_ret
      exact⟨by rw[ML.out];rfl,hrd⟩
  .have hie:i=s.size:=by omega
   subst hie;have nW:iP 0 (bH s)=true:=ic.2 ⟨0,rfl,by decide,by rw[bN];omega,λc hc=>by
    obtain⟨q,hq⟩:=List.mem_iff_getElem?.1 hc;have hl:=bz.fU hq;rw[bN]at hl;rw[jT hl]at hq;injection hq with hq;subst hq;exact HB.out q hl hl⟩
   have MK:=aH nW;clear nW;go_wp2
   go_ret
   exact⟨by rw[MK.out];rfl,hrd⟩
set_option maxHeartbeats 1000000 in
theorem goodStrip_1(s:ByteArray)(hs:s.size<=12)(w:World):Calls prog 23 #[.int .i64 1,.string s] w λe w'=>e=.returned (.bool (iP 1 (bH s)))/\RD w w':=by
 have hle:¬((12:Int)<((s.size:Nat):Int)):=by omega
 go_enter Tryz.func23,Tryz.ntmps23
 go_wp2_with (go_at_call 60;refine(jr _ _ _ _).mono ?_;rintro e w2 ⟨he,n,rfl⟩;rw[show DJ 1 0 3=true by decide]at he;subst he)
 go_loopw [5] (λii wr=>∃i:Nat,ii=.int .i64 ((i:Nat):Int)/\i<=s.size/\RD w wr/\Hid (∀q (hq:q<i) (h:q<s.size),s[q]'h∈qh 1)) (λii _=>s.size-(intOf ii).toNat)
 case atStart=>exact⟨0,rfl,az _,(by first|exact su _|exact xc _ _|exact wY _ _ _|exact wW _ _ _ _),aH λq hq _=>by omega⟩
 case round=>
  obtain⟨i,rfl,hi,hrd,HB⟩:=hrel;by_cases hlt:i<s.size
  .have h1:((i:Nat):Int)<((s.size:Nat):Int):=by omega
   have dK:=aH hlt;have b1:=nu dK.out 46 46 rfl (by decide);have b2:=nu dK.out 76 76 rfl (by decide);have b3:=nu dK.out 82 82 rfl (by decide);obtain⟨c,hc⟩:∃c,c=s[i]'dK.out:=⟨_,rfl⟩;have HC:=aH hc;by_cases q1:(s[i]'dK.out)=UInt8.ofNat 46
   .rw[decide_eq_true q1]at b1
    have HM:Hid (c∈qh 1):=aH (by rw[HC.out,q1];decide);clear q1 hc hlt b2 b3;go_wp2
    go_roundw
    case rel=>exact⟨i+1,by go_num,dK.out,hrd,aH λq hq hq2=>by
     by_cases e:q=i
     .subst e;rw[<-HC.out];exact HM.out
     .exact HB.out q (by omega) hq2⟩
    case measure=>have:=dK.out;simp[intOf];omega
   .by_cases q2:(s[i]'dK.out)=UInt8.ofNat 76
    .rw[decide_eq_false q1]at b1
     rw[decide_eq_true q2]at b2;have HM:Hid (c∈qh 1):=aH (by rw[HC.out,q2];decide);clear q1 q2 hc hlt b3;go_wp2
     go_roundw
     case rel=>exact⟨i+1,by go_num,dK.out,hrd,aH λq hq hq2=>by
      by_cases e:q=i
      .subst e;rw[<-HC.out];exact HM.out
      .exact HB.out q (by omega) hq2⟩
     case measure=>have:=dK.out;simp[intOf];omega
    .by_cases q3:(s[i]'dK.out)=UInt8.ofNat 82
     .rw[decide_eq_false q1]at b1
      rw[decide_eq_false q2]at b2;rw[decide_eq_true q3]at b3;have HM:Hid (c∈qh 1):=aH (by rw[HC.out,q3];decide);clear q1 q2 q3 hc hlt;go_wp2
      go_roundw
      case rel=>exact⟨i+1,by go_num,dK.out,hrd,aH λq hq hq2=>by
       by_cases e:q=i
       .subst e;rw[<-HC.out];exact HM.out
       .exact HB.out q (by omega) hq2⟩
      case measure=>have:=dK.out;simp[intOf];omega
     .rw[decide_eq_false q1]at b1
      rw[decide_eq_false q2]at b2;rw[decide_eq_false q3]at b3;have hno:iP 1 (bH s)=false:=by
       refine jm.2 λk=>?_
       obtain⟨m,e,_,_,hL⟩:=ic.1 k;have hm:=hL c (dU (i:=i) (by rw[jT dK.out,HC.out]));obtain rfl:m=1:=(by omega);have:c=46\/c=76\/c=82:=(by simpa [qh]using hm);rcases this with r|r|r
       .exact q1 (by rw[<-HC.out,r];rfl)
       .exact q2 (by rw[<-HC.out,r];rfl)
       .exact q3 (by rw[<-HC.out,r];rfl)
      have ML:=aH hno;clear q1 q2 q3 hc hlt hno;go_wp2
      go_ret
      exact⟨by rw[ML.out];rfl,hrd⟩
  .have hie:i=s.size:=by omega
   subst hie;have nW:iP 1 (bH s)=true:=ic.2 ⟨1,rfl,by decide,by rw[bN];omega,λc hc=>by
    obtain⟨q,hq⟩:=List.mem_iff_getElem?.1 hc;have hl:=bz.fU hq;rw[bN]at hl;rw[jT hl]at hq;injection hq with hq;subst hq;exact HB.out q hl hl⟩
   have MK:=aH nW;clear nW;go_wp2
   go_ret
   exact⟨by rw[MK.out];rfl,hrd⟩
set_option maxHeartbeats 1000000 in
theorem goodStrip_2(s:ByteArray)(hs:s.size<=12)(w:World):Calls prog 23 #[.int .i64 2,.string s] w λe w'=>e=.returned (.bool (iP 2 (bH s)))/\RD w w':=by
 have hle:¬((12:Int)<((s.size:Nat):Int)):=by omega
 go_enter Tryz.func23,Tryz.ntmps23
 go_wp2_with (go_at_call 60;refine(jr _ _ _ _).mono ?_;rintro e w2 ⟨he,n,rfl⟩;rw[show DJ 2 0 3=true by decide]at he;subst he)
 go_loopw [5] (λii wr=>∃i:Nat,ii=.int .i64 ((i:Nat):Int)/\i<=s.size/\RD w wr/\Hid (∀q (hq:q<i) (h:q<s.size),s[q]'h∈qh 2)) (λii _=>s.size-(intOf ii).toNat)
 case atStart=>exact⟨0,rfl,az _,(by first|exact su _|exact xc _ _|exact wY _ _ _|exact wW _ _ _ _),aH λq hq _=>by omega⟩
 case round=>
  obtain⟨i,rfl,hi,hrd,HB⟩:=hrel;by_cases hlt:i<s.size
  .have h1:((i:Nat):Int)<((s.size:Nat):Int):=by omega
   have dK:=aH hlt;have b1:=nu dK.out 46 46 rfl (by decide);have b2:=nu dK.out 76 76 rfl (by decide);have b3:=nu dK.out 82 82 rfl (by decide);obtain⟨c,hc⟩:∃c,c=s[i]'dK.out:=⟨_,rfl⟩;have HC:=aH hc;by_cases q1:(s[i]'dK.out)=UInt8.ofNat 46
   .rw[decide_eq_true q1]at b1
    have HM:Hid (c∈qh 2):=aH (by rw[HC.out,q1];decide);clear q1 hc hlt b2 b3;go_wp2
    go_roundw
    case rel=>exact⟨i+1,by go_num,dK.out,hrd,aH λq hq hq2=>by
     by_cases e:q=i
     .subst e;rw[<-HC.out];exact HM.out
     .exact HB.out q (by omega) hq2⟩
    case measure=>have:=dK.out;simp[intOf];omega
   .by_cases q2:(s[i]'dK.out)=UInt8.ofNat 76
    .rw[decide_eq_false q1]at b1
     rw[decide_eq_true q2]at b2;have HM:Hid (c∈qh 2):=aH (by rw[HC.out,q2];decide);clear q1 q2 hc hlt b3;go_wp2
     go_roundw
     case rel=>exact⟨i+1,by go_num,dK.out,hrd,aH λq hq hq2=>by
      by_cases e:q=i
      .subst e;rw[<-HC.out];exact HM.out
      .exact HB.out q (by omega) hq2⟩
     case measure=>have:=dK.out;simp[intOf];omega
    .by_cases q3:(s[i]'dK.out)=UInt8.ofNat 82
     .rw[decide_eq_false q1]at b1
      rw[decide_eq_false q2]at b2;rw[decide_eq_true q3]at b3;have HM:Hid (c∈qh 2):=aH (by rw[HC.out,q3];decide);clear q1 q2 q3 hc hlt;go_wp2
      go_roundw
      case rel=>exact⟨i+1,by go_num,dK.out,hrd,aH λq hq hq2=>by
       by_cases e:q=i
       .subst e;rw[<-HC.out];exact HM.out
       .exact HB.out q (by omega) hq2⟩
      case measure=>have:=dK.out;simp[intOf];omega
     .rw[decide_eq_false q1]at b1
      rw[decide_eq_false q2]at b2;rw[decide_eq_false q3]at b3;have hno:iP 2 (bH s)=false:=by
       refine jm.2 λk=>?_
       obtain⟨m,e,_,_,hL⟩:=ic.1 k;have hm:=hL c (dU (i:=i) (by rw[jT dK.out,HC.out]));obtain rfl:m=2:=(by omega);have:c=46\/c=76\/c=82:=(by simpa [qh]using hm);rcases this with r|r|r
       .exact q1 (by rw[<-HC.out,r];rfl)
       .exact q2 (by rw[<-HC.out,r];rfl)
       .exact q3 (by rw[<-HC.out,r];rfl)
      have ML:=aH hno;clear q1 q2 q3 hc hlt hno;go_wp2
      go_ret
      exact⟨by rw[ML.out];rfl,hrd⟩
  .have hie:i=s.size:=by omega
   subst hie;have nW:iP 2 (bH s)=true:=ic.2 ⟨2,rfl,by decide,by rw[bN];omega,λc hc=>by
    obtain⟨q,hq⟩:=List.mem_iff_getElem?.1 hc;have hl:=bz.fU hq;rw[bN]at hl;rw[jT hl]at hq;injection hq with hq;subst hq;exact HB.out q hl hl⟩
   have MK:=aH nW;clear nW;go_wp2
   go_ret
   exact⟨by rw[MK.out];rfl,hrd⟩
set_option maxHeartbeats 1000000 in
theorem goodStrip_3(s:ByteArray)(hs:s.size<=12)(w:World):Calls prog 23 #[.int .i64 3,.string s] w λe w'=>e=.returned (.bool (iP 3 (bH s)))/\RD w w':=by
 have hle:¬((12:Int)<((s.size:Nat):Int)):=by omega
 go_enter Tryz.func23,Tryz.ntmps23
 go_wp2_with (go_at_call 60;refine(jr _ _ _ _).mono ?_;rintro e w2 ⟨he,n,rfl⟩;rw[show DJ 3 0 3=true by decide]at he;subst he)
 go_loopw [5] (λii wr=>∃i:Nat,ii=.int .i64 ((i:Nat):Int)/\i<=s.size/\RD w wr/\Hid (∀q (hq:q<i) (h:q<s.size),s[q]'h∈qh 3)) (λii _=>s.size-(intOf ii).toNat)
 case atStart=>exact⟨0,rfl,az _,(by first|exact su _|exact xc _ _|exact wY _ _ _|exact wW _ _ _ _),aH λq hq _=>by omega⟩
 case round=>
  obtain⟨i,rfl,hi,hrd,HB⟩:=hrel;by_cases hlt:i<s.size
  .have h1:((i:Nat):Int)<((s.size:Nat):Int):=by omega
   have dK:=aH hlt;have b1:=nu dK.out 46 46 rfl (by decide);have b2:=nu dK.out 76 76 rfl (by decide);have b3:=nu dK.out 82 82 rfl (by decide);obtain⟨c,hc⟩:∃c,c=s[i]'dK.out:=⟨_,rfl⟩;have HC:=aH hc;by_cases q1:(s[i]'dK.out)=UInt8.ofNat 46
   .rw[decide_eq_true q1]at b1
    have HM:Hid (c∈qh 3):=aH (by rw[HC.out,q1];decide);clear q1 hc hlt b2 b3;go_wp2
    go_roundw
    case rel=>exact⟨i+1,by go_num,dK.out,hrd,aH λq hq hq2=>by
     by_cases e:q=i
     .subst e;rw[<-HC.out];exact HM.out
     .exact HB.out q (by omega) hq2⟩
    case measure=>have:=dK.out;simp[intOf];omega
   .by_cases q2:(s[i]'dK.out)=UInt8.ofNat 76
    .rw[decide_eq_false q1]at b1
     rw[decide_eq_true q2]at b2;have HM:Hid (c∈qh 3):=aH (by rw[HC.out,q2];decide);clear q1 q2 hc hlt b3;go_wp2
     go_roundw
     case rel=>exact⟨i+1,by go_num,dK.out,hrd,aH λq hq hq2=>by
      by_cases e:q=i
      .subst e;rw[<-HC.out];exact HM.out
      .exact HB.out q (by omega) hq2⟩
     case measure=>have:=dK.out;simp[intOf];omega
    .by_cases q3:(s[i]'dK.out)=UInt8.ofNat 82
     .rw[decide_eq_false q1]at b1
      rw[decide_eq_false q2]at b2;rw[decide_eq_true q3]at b3;have HM:Hid (c∈qh 3):=aH (by rw[HC.out,q3];decide);clear q1 q2 q3 hc hlt;go_wp2
      go_roundw
      case rel=>exact⟨i+1,by go_num,dK.out,hrd,aH λq hq hq2=>by
       by_cases e:q=i
       .subst e;rw[<-HC.out];exact HM.out
       .exact HB.out q (by omega) hq2⟩
      case measure=>have:=dK.out;simp[intOf];omega
     .rw[decide_eq_false q1]at b1
      rw[decide_eq_false q2]at b2;rw[decide_eq_false q3]at b3;have hno:iP 3 (bH s)=false:=by
       refine jm.2 λk=>?_
       obtain⟨m,e,_,_,hL⟩:=ic.1 k;have hm:=hL c (dU (i:=i) (by rw[jT dK.out,HC.out]));obtain rfl:m=3:=(by omega);have:c=46\/c=76\/c=82:=(by simpa [qh]using hm);rcases this with r|r|r
       .exact q1 (by rw[<-HC.out,r];rfl)
       .exact q2 (by rw[<-HC.out,r];rfl)
       .exact q3 (by rw[<-HC.out,r];rfl)
      have ML:=aH hno;clear q1 q2 q3 hc hlt hno;go_wp2
      go_ret
      exact⟨by rw[ML.out];rfl,hrd⟩
  .have hie:i=s.size:=by omega
   subst hie;have nW:iP 3 (bH s)=true:=ic.2 ⟨3,rfl,by decide,by rw[bN];omega,λc hc=>by
    obtain⟨q,hq⟩:=List.mem_iff_getElem?.1 hc;have hl:=bz.fU hq;rw[bN]at hl;rw[jT hl]at hq;injection hq with hq;subst hq;exact HB.out q hl hl⟩
   have MK:=aH nW;clear nW;go_wp2
   go_ret
   exact⟨by rw[MK.out];rfl,hrd⟩
set_option maxHeartbeats 1000000 in
theorem lZ(kind:Int)(s:ByteArray)(w:World):Calls prog 23 #[.int .i64 kind,.string s] w λe w'=>e=.returned (.bool (iP kind (bH s)))/\RD w w':=by
 by_cases hk:0<=kind/\kind<=3
 .by_cases hs:s.size<=12
  .obtain⟨k,rfl⟩:∃k:Nat,kind=k:=⟨kind.toNat,by omega⟩
   match k,hk with
   | 0,_=>exact goodStrip_0 s hs w
   | 1,_=>exact goodStrip_1 s hs w
   | 2,_=>exact goodStrip_2 s hs w
   | 3,_=>exact goodStrip_3 s hs w
   |k+4,h=>omega
  .have hno:iP kind (bH s)=false:=jm.2 λk=>by
    obtain⟨m,_,_,h,_⟩:=ic.1 k;rw[bN]at h;omega
   rw[hno];have he1:DJ kind 0 3=true:=(by unfold DJ;simp;omega);have hle:(12:Int)<((s.size:Nat):Int):=(by omega);clear hno hk hs;go_enter Tryz.func23,Tryz.ntmps23
   go_wp2_with (go_at_call 60;refine(jr _ _ _ _).mono ?_;rintro e w2 ⟨he,n,rfl⟩;rw[he1]at he;subst he)
   go_ret
   exact⟨rfl,(by first|exact su _|exact xc _ _|exact wY _ _ _|exact wW _ _ _ _)⟩
 .have hno:iP kind (bH s)=false:=jm.2 λk=>by
   obtain⟨m,h1,h2,_,_⟩:=ic.1 k;omega
  rw[hno];have he1:DJ kind 0 3=false:=by unfold DJ;rw[jm];simp;omega
  clear hno hk;go_enter Tryz.func23,Tryz.ntmps23
  go_wp2_with (go_at_call 60;refine(jr _ _ _ _).mono ?_;rintro e w2 ⟨he,n,rfl⟩;rw[he1]at he;subst he)
  go_ret
  exact⟨rfl,(by first|exact su _|exact xc _ _|exact wY _ _ _|exact wW _ _ _ _)⟩
def Dw(kind:Int)(s:ByteArray)(w:World)(e:Ending)(w':World):Prop:=
 ∃v ss,e=.returned (.tuple #[v,.bool (iP kind (bH s))])/\Rs w w' v ss/\ss.map bH=if iP kind (bH s)then eQ kind.toNat (bH s)else []
set_option maxHeartbeats 1000000 in
theorem Bh(kind:Int)(s:ByteArray)(w:World):Calls prog 21 #[.int .i64 kind,.string s] w (Dw kind s w):=by
 cases hg:iP kind (bH s)with
 |false=>
  have HM:Hid (Rs w w (.slice none 0 0) []):=aH ⟨⟨rfl,.inl ⟨rfl,rfl⟩⟩,Below.refl _ _⟩;go_enter Tryz.func21,Tryz.ntmps21
  go_wp2_with (go_at_call 23;refine(lZ _ _ _).mono ?_;rintro e w2 ⟨he,n,rfl⟩;rw[hg]at he;subst he)
  go_ret2
  exact⟨_,[],by rw[hg];rfl,HM.out.drewN _,by rw[hg];rfl⟩
 |true=>
  obtain⟨k,rfl,hk,hs,hL⟩:=ic.1 hg;rw[bN]at hs;have HK:=aH hk;clear hL;go_enter Tryz.func21,Tryz.ntmps21
  go_wp2_with (first
   |(go_at_call 23;refine(lZ _ _ _).mono ?_;rintro e w2 ⟨he,n,rfl⟩;rw[hg]at he;subst he)
   |(go_at_call 58;refine(yN HK.out s hs _).mono ?_;rintro e w3 hr;obtain⟨a,ss,cap,rfl,hm,hl,hn⟩:=hr.open;have HL:=aH hl;clear hr hl hn))
  go_ret2
  exact⟨_,ss,by rw[hg];rfl,⟨hm.own,ay (fZ (Below.refl _ _) _) hm.ext⟩,by rw[HL.out,hg];simp⟩
end Go.Proofs.YteknjeohbcgpdaaGreatDoor