/-
  Contract of the reference's l23Moves, kind by kind: marks.
-/
import Derived.Test.YteknjeohbcgpdaaGreatDoorK18
set_option maxRecDepth 100000
namespace Go.Proofs.YteknjeohbcgpdaaGreatDoor
open Tryz
open Go.RowKit
open bz (Stp pk o5 J8 lN jH jN rU)
theorem iV{k:Nat}(hk:2<=k)(left:Bool)(s:Stp)(i:Nat):jH k left s i=lN (o5 left) (rU k left) s i:=by
 unfold jH;rw[if_neg (by omega),if_neg (by omega)]
set_option maxHeartbeats 1000000 in
theorem CQ(s:ByteArray)(hs:s.size<=12)(w:World):Calls prog 156 #[.int .i64 2,.string s,.bool true] w (jJ w (jN 2 true (bH s))):=by
 obtain⟨i0,hi0,hz0,hz1,hz2⟩:=info_parts fO;have hsm:s.size<=maxLen:=by unfold maxLen;omega
 have hm:=Rs.new w;go_enter Tryz.func156,Tryz.ntmps156
 go_wp2
 go_loopw [7,10] (λov ii wr=>∃(i:Nat) (ss:List ByteArray),ii=.int .i64 ((i:Nat):Int)/\i<=s.size/\Rs w wr ov ss/\Hid (ss.map bH=qf 2 true (bH s) i)) (λ_ ii _=>s.size-(intOf ii).toNat)
 case atStart=>exact⟨0,[],rfl,az _,hm,aH rfl⟩
 case round=>
  clear hm;obtain⟨i,ss,rfl,hi,hm,fK⟩:=hrel;by_cases hlt:i<s.size
  .have h1:((i:Nat):Int)<((s.size:Nat):Int):=by omega
   have dK:=aH hlt;have hb:((((s[i]'dK.out).toNat:Nat):Int)== 46)=decide ((bH s)[i]?=some 46):=lg dK.out 46 (by decide);have hse:=jZ 2 true (bH s) i;have hln:=lV 2 true (bH s) i;have hsl:ss.length<=24:=(by have e:=congrArg List.length fK.out;rw[aJ]at e;omega);obtain⟨ao,co,rfl,-,-⟩:=bD hm.own;obtain⟨LF,hwb⟩:wrap64 (((i:Nat):Int)-1)=((i:Nat):Int)-1/\wrap64 (((i:Nat):Int)+1)=((i:Nat):Int)+1:=⟨dS (by omega),dS (by omega)⟩;have I1:∀w,Calls prog 194 #[.string s,.int .i64 (((i:Nat):Int)-1),.int .u8 76] w λe w'=>e=.returned (.bool (xY s (((i:Nat):Int)-1) 76))/\RD w w':=λw=>j6 s hsm _ _ w
   have I2:∀w,Calls prog 194 #[.string s,.int .i64 (((i:Nat):Int)+1),.int .u8 76] w λe w'=>e=.returned (.bool (xY s (((i:Nat):Int)+1) 76))/\RD w w':=λw=>j6 s hsm _ _ w
   by_cases hc:(bH s)[i]?=some 46
   .rw[decide_eq_true hc]at hb
    cases h2:xY s (((i:Nat):Int)-1) 76 with
    |true=>
     have hp:=of_decide_eq_true h2;rw[h2]at I1;have IA:=aH I1;have hno:jH 2 true (bH s) i=[]:=(by rw[iV (by decide)];exact if_neg (λk=>k.2.1 hp));rw[hno,bq]at hse;have lT:=aH hse;clear hse hln hno hlt;clear h2 hp I1 I2 hc;go_wp2_with (go_at_call 194;refine(IA.out _).mono ?_;rintro e w2 ⟨rfl,hr⟩;have hm:=hm.to (bS hr);clear hr)
     go_roundw
     case rel=>exact⟨i+1,ss,by go_num,dK.out,hm,aH (by rw[fK.out,lT.out])⟩
     case measure=>have:=dK.out;simp[intOf];omega
    |false=>
     have hp:=of_decide_eq_false h2;rw[h2]at I1;have IA:=aH I1;cases h3:xY s (((i:Nat):Int)+1) 76 with
     |true=>
      have hq:=of_decide_eq_true h3;rw[h3]at I2;have IB:=aH I2;have hno:jH 2 true (bH s) i=[]:=(by rw[iV (by decide)];exact if_neg (λk=>k.2.2 hq));rw[hno,bq]at hse;have lT:=aH hse;clear hse hln hno hlt;have M1:=aH (Eq.refl 0);clear h2 h3 hp hq I1 I2 hc
      go_wp2_with (first
       |(clear M1;go_at_call 194;refine(IA.out _).mono ?_;rintro e w2 ⟨rfl,hr⟩;have hm:=hm.to (bS hr);clear hr)
       |(go_at_call 194;refine(IB.out _).mono ?_;rintro e w2 ⟨rfl,hr⟩;have hm:=hm.to (bS hr);clear hr))
      go_roundw
      case rel=>exact⟨i+1,ss,by go_num,dK.out,hm,aH (by rw[fK.out,lT.out])⟩
      case measure=>have:=dK.out;simp[intOf];omega
     |false=>
      have hq:=of_decide_eq_false h3;rw[h3]at I2;have IB:=aH I2;have hmv:jH 2 true (bH s) i=[(bH s).set i 76]:=(by rw[iV (by decide)];exact if_pos ⟨hc,hp,hq⟩);rw[hmv]at hse;have lT:=aH hse;have hs1:=jy s ⟨#[76]⟩ (by omega) i dK.out 76 (by decide);have ou:=aH hs1;have M1:=aH (Eq.refl 0);clear h2 h3 hp hq I1 I2 hc hs1 hmv hse hln hlt
      go_wp2_with (first
       |(clear M1;go_at_call 194;refine(IA.out _).mono ?_;rintro e w2 ⟨rfl,hr⟩;have hm:=hm.to (bS hr);clear hr)
       |(go_at_call 194;refine(IB.out _).mono ?_;rintro e w2 ⟨rfl,hr⟩;have hm:=hm.to (bS hr);clear hr)
       |(go_at_call 195;refine(ou.out _).mono ?_;rintro e w3 ⟨u,rfl,hu,hr⟩;have hm:=hm.to (bS hr);have HU:=aH hu;clear hr hu)
       |(at_builtin;refine bQ rfl (.tmp 49) (.tmp 54) 22 rfl w.heap.size 9 i0 (.string ⟨#[]⟩) 1 16 underlying22 hi0 hz0 hz1 hz2 rfl (by decide) (.slice ao ss.length co) ss.length (ss.map Value.string) rfl (hm.own.alloc _) _ 1 _ [.string u] rfl rfl (.inr ⟨_,rfl,cK (bP _ _ _)⟩) dH (by unfold maxLen;omega) (by omega) (by have:=hm.ext.size;rw[fw];omega) ?_;intro v5 w5 fI hg5 hl5;have hm:=hm.put fI hg5))
      go_roundw
      case rel=>exact⟨i+1,ss++[u],by go_num,dK.out,hm,aH (by rw[aU,fK.out,lT.out];simp[HU.out])⟩
      case measure=>have:=dK.out;simp[intOf];omega
   .rw[decide_eq_false hc]at hb
    have hno:jH 2 true (bH s) i=[]:=(by rw[iV (by decide)];exact if_neg (λk=>hc k.1));rw[hno,bq]at hse;have lT:=aH hse;clear hse hln hno hlt;clear hc I1 I2;go_wp2
    go_roundw
    case rel=>exact⟨i+1,ss,by go_num,dK.out,hm,aH (by rw[fK.out,lT.out])⟩
    case measure=>have:=dK.out;simp[intOf];omega
  .have hie:i=s.size:=by omega
   subst hie;go_wp2
   go_ret
   exact⟨_,ss,rfl,hm,by rw[fK.out,lW]⟩
set_option maxHeartbeats 1000000 in
theorem Bi(s:ByteArray)(hs:s.size<=12)(w:World):Calls prog 156 #[.int .i64 2,.string s,.bool false] w (jJ w (jN 2 false (bH s))):=by
 obtain⟨i0,hi0,hz0,hz1,hz2⟩:=info_parts fO;have hsm:s.size<=maxLen:=by unfold maxLen;omega
 have hm:=Rs.new w;go_enter Tryz.func156,Tryz.ntmps156
 go_wp2
 go_loopw [7,10] (λov ii wr=>∃(i:Nat) (ss:List ByteArray),ii=.int .i64 ((i:Nat):Int)/\i<=s.size/\Rs w wr ov ss/\Hid (ss.map bH=qf 2 false (bH s) i)) (λ_ ii _=>s.size-(intOf ii).toNat)
 case atStart=>exact⟨0,[],rfl,az _,hm,aH rfl⟩
 case round=>
  clear hm;obtain⟨i,ss,rfl,hi,hm,fK⟩:=hrel;by_cases hlt:i<s.size
  .have h1:((i:Nat):Int)<((s.size:Nat):Int):=by omega
   have dK:=aH hlt;have hb:((((s[i]'dK.out).toNat:Nat):Int)== 46)=decide ((bH s)[i]?=some 46):=lg dK.out 46 (by decide);have hse:=jZ 2 false (bH s) i;have hln:=lV 2 false (bH s) i;have hsl:ss.length<=24:=(by have e:=congrArg List.length fK.out;rw[aJ]at e;omega);obtain⟨ao,co,rfl,-,-⟩:=bD hm.own;obtain⟨LF,hwb⟩:wrap64 (((i:Nat):Int)-1)=((i:Nat):Int)-1/\wrap64 (((i:Nat):Int)+1)=((i:Nat):Int)+1:=⟨dS (by omega),dS (by omega)⟩;have I1:∀w,Calls prog 194 #[.string s,.int .i64 (((i:Nat):Int)-1),.int .u8 82] w λe w'=>e=.returned (.bool (xY s (((i:Nat):Int)-1) 82))/\RD w w':=λw=>j6 s hsm _ _ w
   have I2:∀w,Calls prog 194 #[.string s,.int .i64 (((i:Nat):Int)+1),.int .u8 82] w λe w'=>e=.returned (.bool (xY s (((i:Nat):Int)+1) 82))/\RD w w':=λw=>j6 s hsm _ _ w
   by_cases hc:(bH s)[i]?=some 46
   .rw[decide_eq_true hc]at hb
    cases h2:xY s (((i:Nat):Int)-1) 82 with
    |true=>
     have hp:=of_decide_eq_true h2;rw[h2]at I1;have IA:=aH I1;have hno:jH 2 false (bH s) i=[]:=(by rw[iV (by decide)];exact if_neg (λk=>k.2.1 hp));rw[hno,bq]at hse;have lT:=aH hse;clear hse hln hno hlt;clear h2 hp I1 I2 hc;go_wp2_with (go_at_call 194;refine(IA.out _).mono ?_;rintro e w2 ⟨rfl,hr⟩;have hm:=hm.to (bS hr);clear hr)
     go_roundw
     case rel=>exact⟨i+1,ss,by go_num,dK.out,hm,aH (by rw[fK.out,lT.out])⟩
     case measure=>have:=dK.out;simp[intOf];omega
    |false=>
     have hp:=of_decide_eq_false h2;rw[h2]at I1;have IA:=aH I1;cases h3:xY s (((i:Nat):Int)+1) 82 with
     |true=>
      have hq:=of_decide_eq_true h3;rw[h3]at I2;have IB:=aH I2;have hno:jH 2 false (bH s) i=[]:=(by rw[iV (by decide)];exact if_neg (λk=>k.2.2 hq));rw[hno,bq]at hse;have lT:=aH hse;clear hse hln hno hlt;have M1:=aH (Eq.refl 0);clear h2 h3 hp hq I1 I2 hc
      go_wp2_with (first
       |(clear M1;go_at_call 194;refine(IA.out _).mono ?_;rintro e w2 ⟨rfl,hr⟩;have hm:=hm.to (bS hr);clear hr)
       |(go_at_call 194;refine(IB.out _).mono ?_;rintro e w2 ⟨rfl,hr⟩;have hm:=hm.to (bS hr);clear hr))
      go_roundw
      case rel=>exact⟨i+1,ss,by go_num,dK.out,hm,aH (by rw[fK.out,lT.out])⟩
      case measure=>have:=dK.out;simp[intOf];omega
     |false=>
      have hq:=of_decide_eq_false h3;rw[h3]at I2;have IB:=aH I2;have hmv:jH 2 false (bH s) i=[(bH s).set i 82]:=(by rw[iV (by decide)];exact if_pos ⟨hc,hp,hq⟩);rw[hmv]at hse;have lT:=aH hse;have hs1:=jy s ⟨#[82]⟩ (by omega) i dK.out 82 (by decide);have ou:=aH hs1;have M1:=aH (Eq.refl 0);clear h2 h3 hp hq I1 I2 hc hs1 hmv hse hln hlt
      go_wp2_with (first
       |(clear M1;go_at_call 194;refine(IA.out _).mono ?_;rintro e w2 ⟨rfl,hr⟩;have hm:=hm.to (bS hr);clear hr)
       |(go_at_call 194;refine(IB.out _).mono ?_;rintro e w2 ⟨rfl,hr⟩;have hm:=hm.to (bS hr);clear hr)
       |(go_at_call 195;refine(ou.out _).mono ?_;rintro e w3 ⟨u,rfl,hu,hr⟩;have hm:=hm.to (bS hr);have HU:=aH hu;clear hr hu)
       |(at_builtin;refine bQ rfl (.tmp 49) (.tmp 54) 22 rfl w.heap.size 9 i0 (.string ⟨#[]⟩) 1 16 underlying22 hi0 hz0 hz1 hz2 rfl (by decide) (.slice ao ss.length co) ss.length (ss.map Value.string) rfl (hm.own.alloc _) _ 1 _ [.string u] rfl rfl (.inr ⟨_,rfl,cK (bP _ _ _)⟩) dH (by unfold maxLen;omega) (by omega) (by have:=hm.ext.size;rw[fw];omega) ?_;intro v5 w5 fI hg5 hl5;have hm:=hm.put fI hg5))
      go_roundw
      case rel=>exact⟨i+1,ss++[u],by go_num,dK.out,hm,aH (by rw[aU,fK.out,lT.out];simp[HU.out])⟩
      case measure=>have:=dK.out;simp[intOf];omega
   .rw[decide_eq_false hc]at hb
    have hno:jH 2 false (bH s) i=[]:=(by rw[iV (by decide)];exact if_neg (λk=>hc k.1));rw[hno,bq]at hse;have lT:=aH hse;clear hse hln hno hlt;clear hc I1 I2;go_wp2
    go_roundw
    case rel=>exact⟨i+1,ss,by go_num,dK.out,hm,aH (by rw[fK.out,lT.out])⟩
    case measure=>have:=dK.out;simp[intOf];omega
  .have hie:i=s.size:=by omega
   subst hie;go_wp2
   go_ret
   exact⟨_,ss,rfl,hm,by rw[fK.out,lW]⟩
set_option maxHeartbeats 1000000 in
theorem D9(s:ByteArray)(hs:s.size<=12)(w:World):Calls prog 156 #[.int .i64 3,.string s,.bool true] w (jJ w (jN 3 true (bH s))):=by
 obtain⟨i0,hi0,hz0,hz1,hz2⟩:=info_parts fO;have hsm:s.size<=maxLen:=by unfold maxLen;omega
 have hm:=Rs.new w;go_enter Tryz.func156,Tryz.ntmps156
 go_wp2
 go_loopw [7,10] (λov ii wr=>∃(i:Nat) (ss:List ByteArray),ii=.int .i64 ((i:Nat):Int)/\i<=s.size/\Rs w wr ov ss/\Hid (ss.map bH=qf 3 true (bH s) i)) (λ_ ii _=>s.size-(intOf ii).toNat)
 case atStart=>exact⟨0,[],rfl,az _,hm,aH rfl⟩
 case round=>
  clear hm;obtain⟨i,ss,rfl,hi,hm,fK⟩:=hrel;by_cases hlt:i<s.size
  .have h1:((i:Nat):Int)<((s.size:Nat):Int):=by omega
   have dK:=aH hlt;have hb:((((s[i]'dK.out).toNat:Nat):Int)== 46)=decide ((bH s)[i]?=some 46):=lg dK.out 46 (by decide);have hse:=jZ 3 true (bH s) i;have hln:=lV 3 true (bH s) i;have hsl:ss.length<=24:=(by have e:=congrArg List.length fK.out;rw[aJ]at e;omega);obtain⟨ao,co,rfl,-,-⟩:=bD hm.own;obtain⟨LF,hwb⟩:wrap64 (((i:Nat):Int)-1)=((i:Nat):Int)-1/\wrap64 (((i:Nat):Int)+1)=((i:Nat):Int)+1:=⟨dS (by omega),dS (by omega)⟩;have I1:∀w,Calls prog 194 #[.string s,.int .i64 (((i:Nat):Int)-1),.int .u8 82] w λe w'=>e=.returned (.bool (xY s (((i:Nat):Int)-1) 82))/\RD w w':=λw=>j6 s hsm _ _ w
   have I2:∀w,Calls prog 194 #[.string s,.int .i64 (((i:Nat):Int)+1),.int .u8 82] w λe w'=>e=.returned (.bool (xY s (((i:Nat):Int)+1) 82))/\RD w w':=λw=>j6 s hsm _ _ w
   by_cases hc:(bH s)[i]?=some 46
   .rw[decide_eq_true hc]at hb
    cases h2:xY s (((i:Nat):Int)-1) 82 with
    |true=>
     have hp:=of_decide_eq_true h2;rw[h2]at I1;have IA:=aH I1;have hno:jH 3 true (bH s) i=[]:=(by rw[iV (by decide)];exact if_neg (λk=>k.2.1 hp));rw[hno,bq]at hse;have lT:=aH hse;clear hse hln hno hlt;clear h2 hp I1 I2 hc;go_wp2_with (go_at_call 194;refine(IA.out _).mono ?_;rintro e w2 ⟨rfl,hr⟩;have hm:=hm.to (bS hr);clear hr)
     go_roundw
     case rel=>exact⟨i+1,ss,by go_num,dK.out,hm,aH (by rw[fK.out,lT.out])⟩
     case measure=>have:=dK.out;simp[intOf];omega
    |false=>
     have hp:=of_decide_eq_false h2;rw[h2]at I1;have IA:=aH I1;cases h3:xY s (((i:Nat):Int)+1) 82 with
     |true=>
      have hq:=of_decide_eq_true h3;rw[h3]at I2;have IB:=aH I2;have hno:jH 3 true (bH s) i=[]:=(by rw[iV (by decide)];exact if_neg (λk=>k.2.2 hq));rw[hno,bq]at hse;have lT:=aH hse;clear hse hln hno hlt;have M1:=aH (Eq.refl 0);clear h2 h3 hp hq I1 I2 hc
      go_wp2_with (first
       |(clear M1;go_at_call 194;refine(IA.out _).mono ?_;rintro e w2 ⟨rfl,hr⟩;have hm:=hm.to (bS hr);clear hr)
       |(go_at_call 194;refine(IB.out _).mono ?_;rintro e w2 ⟨rfl,hr⟩;have hm:=hm.to (bS hr);clear hr))
      go_roundw
      case rel=>exact⟨i+1,ss,by go_num,dK.out,hm,aH (by rw[fK.out,lT.out])⟩
      case measure=>have:=dK.out;simp[intOf];omega
     |false=>
      have hq:=of_decide_eq_false h3;rw[h3]at I2;have IB:=aH I2;have hmv:jH 3 true (bH s) i=[(bH s).set i 76]:=(by rw[iV (by decide)];exact if_pos ⟨hc,hp,hq⟩);rw[hmv]at hse;have lT:=aH hse;have hs1:=jy s ⟨#[76]⟩ (by omega) i dK.out 76 (by decide);have ou:=aH hs1;have M1:=aH (Eq.refl 0);clear h2 h3 hp hq I1 I2 hc hs1 hmv hse hln hlt
      go_wp2_with (first
       |(clear M1;go_at_call 194;refine(IA.out _).mono ?_;rintro e w2 ⟨rfl,hr⟩;have hm:=hm.to (bS hr);clear hr)
       |(go_at_call 194;refine(IB.out _).mono ?_;rintro e w2 ⟨rfl,hr⟩;have hm:=hm.to (bS hr);clear hr)
       |(go_at_call 195;refine(ou.out _).mono ?_;rintro e w3 ⟨u,rfl,hu,hr⟩;have hm:=hm.to (bS hr);have HU:=aH hu;clear hr hu)
       |(at_builtin;refine bQ rfl (.tmp 49) (.tmp 54) 22 rfl w.heap.size 9 i0 (.string ⟨#[]⟩) 1 16 underlying22 hi0 hz0 hz1 hz2 rfl (by decide) (.slice ao ss.length co) ss.length (ss.map Value.string) rfl (hm.own.alloc _) _ 1 _ [.string u] rfl rfl (.inr ⟨_,rfl,cK (bP _ _ _)⟩) dH (by unfold maxLen;omega) (by omega) (by have:=hm.ext.size;rw[fw];omega) ?_;intro v5 w5 fI hg5 hl5;have hm:=hm.put fI hg5))
      go_roundw
      case rel=>exact⟨i+1,ss++[u],by go_num,dK.out,hm,aH (by rw[aU,fK.out,lT.out];simp[HU.out])⟩
      case measure=>have:=dK.out;simp[intOf];omega
   .rw[decide_eq_false hc]at hb
    have hno:jH 3 true (bH s) i=[]:=(by rw[iV (by decide)];exact if_neg (λk=>hc k.1));rw[hno,bq]at hse;have lT:=aH hse;clear hse hln hno hlt;clear hc I1 I2;go_wp2
    go_roundw
    case rel=>exact⟨i+1,ss,by go_num,dK.out,hm,aH (by rw[fK.out,lT.out])⟩
    case measure=>have:=dK.out;simp[intOf];omega
  .have hie:i=s.size:=by omega
   subst hie;go_wp2
   go_ret
   exact⟨_,ss,rfl,hm,by rw[fK.out,lW]⟩
set_option maxHeartbeats 1000000 in
theorem CS(s:ByteArray)(hs:s.size<=12)(w:World):Calls prog 156 #[.int .i64 3,.string s,.bool false] w (jJ w (jN 3 false (bH s))):=by
 obtain⟨i0,hi0,hz0,hz1,hz2⟩:=info_parts fO;have hsm:s.size<=maxLen:=by unfold maxLen;omega
 have hm:=Rs.new w;go_enter Tryz.func156,Tryz.ntmps156
 go_wp2
 go_loopw [7,10] (λov ii wr=>∃(i:Nat) (ss:List ByteArray),ii=.int .i64 ((i:Nat):Int)/\i<=s.size/\Rs w wr ov ss/\Hid (ss.map bH=qf 3 false (bH s) i)) (λ_ ii _=>s.size-(intOf ii).toNat)
 case atStart=>exact⟨0,[],rfl,az _,hm,aH rfl⟩
 case round=>
  clear hm;obtain⟨i,ss,rfl,hi,hm,fK⟩:=hrel;by_cases hlt:i<s.size
  .have h1:((i:Nat):Int)<((s.size:Nat):Int):=by omega
   have dK:=aH hlt;have hb:((((s[i]'dK.out).toNat:Nat):Int)== 46)=decide ((bH s)[i]?=some 46):=lg dK.out 46 (by decide);have hse:=jZ 3 false (bH s) i;have hln:=lV 3 false (bH s) i;have hsl:ss.length<=24:=(by have e:=congrArg List.length fK.out;rw[aJ]at e;omega);obtain⟨ao,co,rfl,-,-⟩:=bD hm.own;obtain⟨LF,hwb⟩:wrap64 (((i:Nat):Int)-1)=((i:Nat):Int)-1/\wrap64 (((i:Nat):Int)+1)=((i:Nat):Int)+1:=⟨dS (by omega),dS (by omega)⟩;have I1:∀w,Calls prog 194 #[.string s,.int .i64 (((i:Nat):Int)-1),.int .u8 76] w λe w'=>e=.returned (.bool (xY s (((i:Nat):Int)-1) 76))/\RD w w':=λw=>j6 s hsm _ _ w
   have I2:∀w,Calls prog 194 #[.string s,.int .i64 (((i:Nat):Int)+1),.int .u8 76] w λe w'=>e=.returned (.bool (xY s (((i:Nat):Int)+1) 76))/\RD w w':=λw=>j6 s hsm _ _ w
   by_cases hc:(bH s)[i]?=some 46
   .rw[decide_eq_true hc]at hb
    cases h2:xY s (((i:Nat):Int)-1) 76 with
    |true=>
     have hp:=of_decide_eq_true h2;rw[h2]at I1;have IA:=aH I1;have hno:jH 3 false (bH s) i=[]:=(by rw[iV (by decide)];exact if_neg (λk=>k.2.1 hp));rw[hno,bq]at hse;have lT:=aH hse;clear hse hln hno hlt;clear h2 hp I1 I2 hc;go_wp2_with (go_at_call 194;refine(IA.out _).mono ?_;rintro e w2 ⟨rfl,hr⟩;have hm:=hm.to (bS hr);clear hr)
     go_roundw
     case rel=>exact⟨i+1,ss,by go_num,dK.out,hm,aH (by rw[fK.out,lT.out])⟩
     case measure=>have:=dK.out;simp[intOf];omega
    |false=>
     have hp:=of_decide_eq_false h2;rw[h2]at I1;have IA:=aH I1;cases h3:xY s (((i:Nat):Int)+1) 76 with
     |true=>
      have hq:=of_decide_eq_true h3;rw[h3]at I2;have IB:=aH I2;have hno:jH 3 false (bH s) i=[]:=(by rw[iV (by decide)];exact if_neg (λk=>k.2.2 hq));rw[hno,bq]at hse;have lT:=aH hse;clear hse hln hno hlt;have M1:=aH (Eq.refl 0);clear h2 h3 hp hq I1 I2 hc
      go_wp2_with (first
       |(clear M1;go_at_call 194;refine(IA.out _).mono ?_;rintro e w2 ⟨rfl,hr⟩;have hm:=hm.to (bS hr);clear hr)
       |(go_at_call 194;refine(IB.out _).mono ?_;rintro e w2 ⟨rfl,hr⟩;have hm:=hm.to (bS hr);clear hr))
      go_roundw
      case rel=>exact⟨i+1,ss,by go_num,dK.out,hm,aH (by rw[fK.out,lT.out])⟩
      case measure=>have:=dK.out;simp[intOf];omega
     |false=>
      have hq:=of_decide_eq_false h3;rw[h3]at I2;have IB:=aH I2;have hmv:jH 3 false (bH s) i=[(bH s).set i 82]:=(by rw[iV (by decide)];exact if_pos ⟨hc,hp,hq⟩);rw[hmv]at hse;have lT:=aH hse;have hs1:=jy s ⟨#[82]⟩ (by omega) i dK.out 82 (by decide);have ou:=aH hs1;have M1:=aH (Eq.refl 0);clear h2 h3 hp hq I1 I2 hc hs1 hmv hse hln hlt
      go_wp2_with (first
       |(clear M1;go_at_call 194;refine(IA.out _).mono ?_;rintro e w2 ⟨rfl,hr⟩;have hm:=hm.to (bS hr);clear hr)
       |(go_at_call 194;refine(IB.out _).mono ?_;rintro e w2 ⟨rfl,hr⟩;have hm:=hm.to (bS hr);clear hr)
       |(go_at_call 195;refine(ou.out _).mono ?_;rintro e w3 ⟨u,rfl,hu,hr⟩;have hm:=hm.to (bS hr);have HU:=aH hu;clear hr hu)
       |(at_builtin;refine bQ rfl (.tmp 49) (.tmp 54) 22 rfl w.heap.size 9 i0 (.string ⟨#[]⟩) 1 16 underlying22 hi0 hz0 hz1 hz2 rfl (by decide) (.slice ao ss.length co) ss.length (ss.map Value.string) rfl (hm.own.alloc _) _ 1 _ [.string u] rfl rfl (.inr ⟨_,rfl,cK (bP _ _ _)⟩) dH (by unfold maxLen;omega) (by omega) (by have:=hm.ext.size;rw[fw];omega) ?_;intro v5 w5 fI hg5 hl5;have hm:=hm.put fI hg5))
      go_roundw
      case rel=>exact⟨i+1,ss++[u],by go_num,dK.out,hm,aH (by rw[aU,fK.out,lT.out];simp[HU.out])⟩
      case measure=>have:=dK.out;simp[intOf];omega
   .rw[decide_eq_false hc]at hb
    have hno:jH 3 false (bH s) i=[]:=(by rw[iV (by decide)];exact if_neg (λk=>hc k.1));rw[hno,bq]at hse;have lT:=aH hse;clear hse hln hno hlt;clear hc I1 I2;go_wp2
    go_roundw
    case rel=>exact⟨i+1,ss,by go_num,dK.out,hm,aH (by rw[fK.out,lT.out])⟩
    case measure=>have:=dK.out;simp[intOf];omega
  .have hie:i=s.size:=by omega
   subst hie;go_wp2
   go_ret
   exact⟨_,ss,rfl,hm,by rw[fK.out,lW]⟩
end Go.Proofs.YteknjeohbcgpdaaGreatDoor